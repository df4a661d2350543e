/- An abstract machine for loaded programs, part 2: what it computes is what Go computes. Conditions: none. -/
import Derived.Test.YtannfageakbpmaaGreatCVa
import Derived.ChangeKeysEq
import Derived.Carry
import Derived.MapKept
import Derived.WideKeyRuns
import Derived.DeepKeys
import Derived.Laws.StructEq
import Derived.Orders
set_option linter.unusedSimpArgs false
set_option linter.unusedVariables false
set_option linter.unusedSectionVars false
namespace Go.Vm
variable {P : Program} {L : cq} {c : Ctx} {h : Hp} {w : World}
theorem i4 {k:IntKind}:∀ {es:List V} {a:List Int} {us:List Value},ints k es=some a→bV L c es us→us=a.map (Value.int k)∧a.length=es.length
 | [],a,us,hi,hr=> by
   simp only[ints,Option.some.injEq] at hi
   simp only[bV] at hr
   subst hi;subst hr
   exact ⟨rfl,rfl⟩
 | e::es,a,us,hi,hr=> by
   simp only[bV] at hr
   obtain ⟨u1,u2,rfl,h1,h2⟩:=hr
   unfold ints at hi
   split at hi
   ·rename_i heq;cases heq
   ·rename_i k' n vs heq
    simp only[List.cons.injEq] at heq
    obtain ⟨rfl,rfl⟩:=heq
    split at hi
    ·rename_i hk
     subst hk
     obtain ⟨a',oK,rfl⟩:=Option.map_eq_some_iff.1 hi
     obtain ⟨rfl,h3⟩:=i4 oK h2
     simp only[RC] at h1
     rw[h1.1]
     exact ⟨by simp,by simp[h3]⟩
    ·cases hi
   ·cases hi
theorem gC {el:TypeId} {k:IntKind} (bP:P.underlying el=some (.int k)) (d:Nat) (a b:List Int):∀(m s:Nat),s+m=a.length→s+m=b.length→
 (Op.eqItems (d+1) el 1 (a.map (Value.int k)).toArray (b.map (Value.int k)).toArray (List.range' s m)).run P w= .ok (a.drop s==b.drop s) w
 | 0,s,ha,hb=> by
   simp only[List.range'_zero,Op.eqItems,Sem.run_pure]
   rw[List.drop_of_length_le (by omega),List.drop_of_length_le (by omega)];rfl
 | m+1,s,ha,hb=> by
   have px:(part el (a.map (Value.int k)).toArray (s * 1)).run P w= .ok (.int k (a[s]'(by omega))) w:=by
     simp[part,isAgg,run_underlying bP,show s < a.length by omega]
   have py:(part el (b.map (Value.int k)).toArray (s * 1)).run P w= .ok (.int k (b[s]'(by omega))) w:=by
     simp[part,isAgg,run_underlying bP,show s < b.length by omega]
   simp only[List.range'_succ,Op.eqItems,Sem.run_bind,px,py,Result.andThen_ok,run_equalIn_int w d el k k _ _ bP]
   rw[List.drop_eq_getElem_cons (show s < a.length by omega),List.drop_eq_getElem_cons (show s < b.length by omega),List.cons_beq_cons]
   cases hq:(a[s]'(by omega)==b[s]'(by omega))
   ·simp
   ·simp only[Bool.not_true,Bool.false_eq_true,if_false,Bool.true_and]
    exact gC bP d a b m (s+1) (by omega) (by omega)
theorem Ix (hL:L.OK) (hs:bc L c h w) {T t n:Nat} {el:TypeId} {k:IntKind} {g:Option Nat} (hu:P.underlying T=some (.array n el)) (bP:P.underlying el=some (.int k)) (je:TG P L el g) (hg:L.az g=1) (ha:L.arr t=some (n,g)) (hgd:P.eqGuardType P.depth T=false)
 {op:BinOp} {neg:Bool} (DZ:(op= .eql∧neg=false)∨(op= .neq∧neg=true)) {X Y:Operand} {x y:V} {ux uy:Value} (hx:RV L c x ux) (hy:RV L c y uy) {v:V} {h':Hp} (ah:sF h t k neg x y=some (v,h')):
 aJ L c w ((do eqGuard op T X Y ux uy;binOp op T ux uy:Sem Value).run P w) v h':=by
 unfold sF at ah
 split at ah
 case h_2=> cases ah
 rename_i t1 es t2 fs
 split at ah
 case isFalse=> cases ah
 rename_i hc
 obtain ⟨rfl,rfl⟩:=hc
 split at ah
 case h_2=> cases ah
 rename_i a b fi hib
 obtain ⟨rfl,rfl⟩:=qe ah
 obtain ⟨us,rfl,ym⟩:=(eV rfl).1 hx
 obtain ⟨ws,rfl,mz⟩:=(eV rfl).1 hy
 simp only[RC] at ym mz
 obtain ⟨ym,e1,ha1,_⟩:=ym
 obtain ⟨mz,e2,ha2,_⟩:=mz
 rw[ha] at ha1 ha2
 simp only[Option.some.injEq,Prod.mk.injEq] at ha1 ha2
 obtain ⟨rfl,FD⟩:=i4 fi ym
 obtain ⟨rfl,tI⟩:=i4 hib mz
 obtain ⟨i,hi,pk⟩:=je.info
 have gz:P.cellsOf el=1:=by simp[Program.cellsOf,hi,pk,hg]
 have heq:∀d,(Op.equalIn (d+2) T (.agg (a.map (Value.int k)).toArray) (.agg (b.map (Value.int k)).toArray)).run P w= .ok (a==b) w:=fun d=> by
   rw[run_equalIn_array w (d+1) _ _ hu hi,gz,List.range_eq_range']
   have:=gC (P:=P) (w:=w) bP d a b n 0 (by omega) (by omega)
   simpa using this
 have sY:=run_eqGuard_agg (P:=P) w op T X Y (a.map (Value.int k)).toArray (b.map (Value.int k)).toArray hgd
 rcases DZ with ⟨rfl,rfl⟩ | ⟨rfl,rfl⟩
 ·refine aJ.same (u:= .bool (a==b)) ?_ (bx.2 ⟨rfl,rfl⟩) hs
  simp only[Sem.run_bind,sY,Result.andThen_ok,run_eql_struct,heq 9998]
 ·refine aJ.same (u:= .bool !(a==b)) ?_ (bx.2 ⟨rfl,rfl⟩) hs
  simp only[Sem.run_bind,sY,Result.andThen_ok,run_neq_struct,heq 9998]
theorem Qg (hL:L.OK) (hs:bc L c h w) {T el:TypeId} {g:Option Nat} {zv:V} (ht:P.underlying T=some (.slice el)) (bP:TG P L el g) (hz:er P L el zv) (iT:zv.ty=g) (gZ:zv.ax=true)
 {ty:TypeId} {x:V} {ux:Value} (hx:RV L c x ux) {base:Nat} {v:V} {h':Hp} (ah:xU base h g zv x=some (v,h')):
 aJ L c w ((Builtin.clear_ #[T] ty #[ux]).run P w) v h':=by
 unfold xU at ah
 split at ah
 ·rename_i hlen
  simp only[Option.some.injEq,Prod.mk.injEq] at ah
  obtain ⟨rfl,rfl⟩:=ah
  obtain ⟨a,k,rfl,_⟩:=vZ hlen hx
  refine aJ.same (u:= .tuple #[]) ?_ (cx.2 ⟨[],rfl,trivial⟩) hs
  cases a <;> simp[Builtin.clear_,run_underlying ht]
 ·rename_i n CP hlen
  obtain ⟨⟨v',h2⟩,hcp,he⟩:=Option.map_eq_some_iff.1 ah
  simp only[Prod.mk.injEq] at he
  obtain ⟨rfl,rfl⟩:=he
  have Zh:n≠0:=fun h0=> by subst h0;exact CP rfl
  unfold copyV at hcp
  split at hcp
  case h_2=> cases hcp
  rename_i id g' off len aw
  simp only[fq,Option.some.injEq] at hlen
  subst hlen
  split at hcp
  case h_2=> cases hcp
  rename_i g'' es ck
  split at hcp
  case isFalse=> cases hcp
  rename_i hc
  simp only[Option.some.injEq,Prod.mk.injEq] at hcp
  obtain ⟨rfl,rfl⟩:=hcp
  obtain ⟨_,rfl,rfl,nE,fk⟩:=hc
  obtain ⟨i,z,hi,oy,oL⟩:=hz
  have hzc:=((oL c).cells gZ).1
  have tL:=(oL c).aQ hL gZ
  rw[iT] at tL
  obtain ⟨l,hl,cC,bZ,rb,lU,xz,hb3,cM,us0,ty0,fz0,hg,cI,df,fp⟩:=hs.row ck
  have nD:=(q16z ck).2
  obtain ⟨he,k,rfl,lR,hm⟩:=dK hx hl cC (path:=[]) (o:=0) (e:=l.tag) (m:=none) rfl
  simp only[Nat.zero_add] at lR hm ⊢
  have xh:min (List.replicate len zv).length len=len:=by simp
  rw[xh]
  have cJ:bV L c (List.replicate len zv) ((List.replicate len z.cells.toList).flatten):=dY hzc len
  have jJ:∀q∈List.replicate len zv,q.ty=g''∧q.ax=true:=fun q hq=> by rw[List.eq_of_mem_replicate hq];exact ⟨iT,gZ⟩
  have ma:=q8z hL cJ (fun q hq=>(jJ q hq).1)
  simp only[List.length_replicate] at ma
  have fS:∀n,n≤l.cap→n * L.az g''≤us0.size:=fun n hn=> by rw[cI];exact Nat.mul_le_mul_right _ hn
  have nO:off * L.az g''+((List.replicate len z.cells.toList).flatten).length≤us0.size:=by rw[ma,←Nat.add_mul];exact fS _ (by omega)
  have vW:∀q∈(List.replicate len z.cells.toList).flatten,q.oneCell'=true:=dr (fun v _=> dS v) (fun v hv=>(jJ v hv).2) _ cJ
  have Lt:(Builtin.zeroCells z.cells len).toList=(List.replicate len z.cells.toList).flatten:=iK z.cells len
  have mO:(storeCells (⟨l.bq,off * L.az g'',none⟩:Addr) ((Builtin.zeroCells z.cells len).toList)).run P w= .ok () (w.setCells l.bq (off * L.az g'') ((List.replicate len z.cells.toList).flatten)):=by
    rw[Lt]
    have:=run_storeCells_cells (P:=P) l.bq (off * L.az g'') ((List.replicate len z.cells.toList).flatten) 0 w (fun j hj=> by rw[q15z hg];simp;omega) (fun j hj=> eo hg df.1 (by omega)) vW
    simpa using this
  have bb:(Builtin.clear_ #[T] ty #[.slice (some ⟨l.bq,off * L.az g'',none⟩) len k]).run P w= .ok (.tuple #[]) (w.setCells l.bq (off * L.az g'') ((List.replicate len z.cells.toList).flatten)):=by
    obtain ⟨m,rfl⟩:∃m,len=m+1:=⟨len - 1,by omega⟩
    simp[Builtin.clear_,run_underlying ht,zeroValue,typeInfo,hi,oy,mO]
  have ir:=mC hL fp cJ (fun q hq=>(cM q hq).1) (fun q hq=>(jJ q hq).1) (n:=off) (by simp;omega)
  simp only[List.length_replicate] at ir
  have eA:(List.replicate len zv).take len=List.replicate len zv:=List.take_of_length_le (by simp)
  rw[eA]
  have wL:(es.take off++List.replicate len zv++es.drop (off+len)).length=es.length:=by simp only[List.length_append,List.length_take,List.length_drop,List.length_replicate];omega
  have AF:lay (us0.toList.take (es.length * L.az g'')) (off * L.az g'') ((List.replicate len z.cells.toList).flatten)=(lay us0.toList (off * L.az g'') ((List.replicate len z.cells.toList).flatten)).take (es.length * L.az g''):=
    (mD _ _ _ _ (by rw[ma,←Nat.add_mul];exact Nat.mul_le_mul_right _ (by omega)) (by have:=fS _ hb3;simpa using this)).symm
  rw[AF] at ir
  obtain ⟨l',dv,dh,hle,vR⟩:=iJ hL hs hl bZ rb hg df cI (es':=es.take off++List.replicate len zv++es.drop (off+len)) (fun q hq=> by
    rcases List.mem_append.1 hq with hq | hq
    ·rcases List.mem_append.1 hq with hq | hq
     ·exact cM q (List.mem_of_mem_take hq)
     ·exact jJ q hq
    ·exact cM q (List.mem_of_mem_drop hq)) (by omega) (by omega) nO (by rw[wL];exact ir)
  exact ⟨_,_,_,bb,cx.2 ⟨[],rfl,trivial⟩,dh,hle,St.setCells _ _ _ _⟩
 ·cases ah
end Go.Vm
namespace Go.Vm
variable {P : Program} {L : cq} {c : Ctx} {h : Hp} {w : World}
theorem Nu {id:Nat} {u:Value}:RV L c (.mp id) u↔∃b,u= .map (some b)∧id < c.n∧∀l,c.loc id=some l→l.aw=0→b=l.bq:=by
 rw[ea rfl]
 simp only[RC,List.cons.injEq,and_true]
theorem mP (hs:bc L c h w) {id cl:Nat} {es:List (V×V×Nat)} {u:Value} (hx:RV L c (.mp id) u) (hg:h[id]? =some (.map es cl)):
 ∃l ms,c.loc id=some l∧u= .map (some l.bq)∧c.z l.bq=none∧l.tag=none∧l.aw=0∧w.heap[l.bq]? =some (.map ms cl)∧kW L c es ms.toList:=by
 rcases hs.live id _ hg with ⟨l,hl⟩ | hd
 case inr=> cases hd
 obtain ⟨k,hk,hz,hb⟩:=hs.loc id l hl
 rw[hg] at hk;cases hk
 obtain ⟨h1,h2,ms,h3,h4⟩:=hb
 obtain ⟨b,rfl,_,hb⟩:=Nu.1 hx
 rw[hb l hl h2]
 exact ⟨l,ms,hl,rfl,hz,h1,h2,h3,h4⟩
theorem kW.length :∀ {es:List (V×V×Nat)} {ms:List MapEntry},kW L c es ms→es.length=ms.length
 | [],[],_=> rfl
 | e::es,m::ms,h=> by simp[kW.length h.2]
 | [],_::_,h=> h.elim
 | _::_,[],h=> h.elim
theorem kW.nth :∀ {es:List (V×V×Nat)} {ms:List MapEntry} {i:Nat} {e:V×V×Nat},kW L c es ms→es[i]? =some e→∃m,ms[i]? =some m∧RV L c e.1 m.key∧RV L c e.2.1 m.val∧e.2.2=m.born
 | e::es,m::ms,0,x,h,hx=> by cases hx;exact ⟨m,rfl,h.1⟩
 | e::es,m::ms,i+1,x,h,hx=> by
   obtain ⟨m2,h1,h2⟩:=kW.nth (es:=es) (ms:=ms) (i:=i) h.2 hx
   exact ⟨m2,h1,h2⟩
 | [],[],i,x,_,hx=> by simp at hx
 | [],_::_,_,_,h,_=> h.elim
 | _::_,[],_,_,h,_=> h.elim
theorem kW.snoc {k v:V} {b:Nat} {m:MapEntry} (hm:RV L c k m.key∧RV L c v m.val∧b=m.born):∀ {es:List (V×V×Nat)} {ms:List MapEntry},kW L c es ms→kW L c (es++[(k,v,b)]) (ms++[m])
 | [],[],_=>⟨hm,trivial⟩
 | e::es,m'::ms,h=>⟨h.1,kW.snoc hm h.2⟩
 | [],_::_,h=> h.elim
 | _::_,[],h=> h.elim
theorem kW.set {k v:V} {b:Nat} {m:MapEntry} (hm:RV L c k m.key∧RV L c v m.val∧b=m.born):∀ {es:List (V×V×Nat)} {ms:List MapEntry} (i:Nat),kW L c es ms→kW L c (es.set i (k,v,b)) (ms.set i m)
 | [],[],_,_=> trivial
 | e::es,m'::ms,0,h=>⟨hm,h.2⟩
 | e::es,m'::ms,i+1,h=>⟨h.1,kW.set hm i h.2⟩
 | [],_::_,_,h=> h.elim
 | _::_,[],_,h=> h.elim
theorem Qh (hs:bc L c h w) (t:TypeId):aJ L c w ((Instr.makeMap t none).run P w) (.mp h.length) (h++[.map [] 0]):=by
 have dh:=hs.push (.map #[] 0) (.map [] 0) ⟨w.heap.size,0,none,0⟩ rfl ⟨rfl,rfl,#[],iS,trivial⟩
 have hl:(c.push ⟨w.heap.size,0,none,0⟩).loc h.length=some ⟨w.heap.size,0,none,0⟩:=by simp[Ctx.push,hs.n]
 exact ⟨_,_,_,Go.RowKit.run_makeMap t w,Nu.2 ⟨_,rfl,by simp[Ctx.push,hs.n],fun l dv _=> by rw[hl] at dv;cases dv;rfl⟩,dh,c.gJ _,St.alloc _ _⟩
theorem mQ (hs:bc L c h w) {id cl cl':Nat} {l:Loc} {ms ms':Array MapEntry} {es':List (V×V×Nat)} (hl:c.loc id=some l) (hz:c.z l.bq=none) (bZ:l.tag=none) (cC:l.aw=0)
 (hg:w.heap[l.bq]? =some (.map ms cl)) (hr:kW L c es' ms'.toList):bc L c (h.set id (.map es' cl')) {w with heap:=w.heap.setIfInBounds l.bq (.map ms' cl')}:=by
 have hmv:c.move id l=c:=by
   cases c with
   | mk z loc n=>
     simp only[Ctx.move]
     congr
     funext j
     by_cases hj:j=id
     ·subst hj;simp only[if_true];exact hl.symm
     ·simp[hj]
 have dh:=hs.move (l':=l) hl (w':= {w with heap:=w.heap.setIfInBounds l.bq (.map ms' cl')}) (.map es' cl') (by rw[hmv];exact Ctx.le_refl c) hz (Or.inl rfl)
   (fun b hb tI=> by simp[Array.getElem?_setIfInBounds,Ne.symm tI]) (fun o' jK=> by rw[hz] at jK;cases jK)
   ⟨bZ,cC,ms',by simp[Array.getElem?_setIfInBounds,ek hg],by rw[hmv];exact hr⟩
 rwa [hmv] at dh
theorem pq {T n:Nat} {el:TypeId} {k:IntKind} (hu:P.underlying T=some (.array n el)) (bP:P.underlying el=some (.int k)) {i:TypeInfo} (hi:P.info? el=some i) (cI:P.cellsOf el=1)
 (a:List Int) (ha:a.length=n) (em:Bool) (d:Nat):(Instr.checkKey em (d+2) T (.agg (a.map (Value.int k)).toArray)).run P w= .ok () w:=by
 rw[Instr.checkKey]
 simp only[Sem.run_bind,run_underlying hu,Result.andThen_ok]
 simp only[Std.Legacy.Range.forIn_eq_forIn_range',Std.Legacy.Range.size,Nat.sub_zero,Nat.add_one_sub_one,Nat.div_one]
 have hj:∀j∈List.range' 0 n,j < a.length:=fun j hj=> by rw[List.mem_range'_1] at hj;omega
 generalize List.range' 0 n=is at hj
 induction is with
 | nil=> simp
 | cons j is ih=>
   have h1:=hj j (by simp)
   have p1:=run_part_plain (P:=P) w (e:=el) (by simp[Program.plainKey,bP]) (xs:=(a.map (Value.int k)).toArray) (off:=j) (v:= .int k a[j]) (by simp[h1])
   have p2:(Instr.checkKey em (d+1) el (.int k a[j])).run P w= .ok () w:=by simp[Instr.checkKey,run_underlying bP]
   simp only[List.forIn_cons,Sem.run_bind,run_sizeOf w hi,Result.andThen_ok,cI,Nat.mul_one,p1,p2,Sem.run_pure]
   exact ih (fun y hy=> hj y (by simp[hy]))
theorem sZ {T n:Nat} {el:TypeId} {k:IntKind} (hu:P.underlying T=some (.array n el)) (bP:P.underlying el=some (.int k)) (cI:P.cellsOf el=1)
 (a b:List Int) (ha:a.length=n) (hb:b.length=n):(Op.equal T (.agg (a.map (Value.int k)).toArray) (.agg (b.map (Value.int k)).toArray)).run P w= .ok (a==b) w:=by
 obtain ⟨i,hi⟩:=info_of_underlying bP
 have heq:∀d,(Op.equalIn (d+2) T (.agg (a.map (Value.int k)).toArray) (.agg (b.map (Value.int k)).toArray)).run P w= .ok (a==b) w:=fun d=> by
   rw[run_equalIn_array w (d+1) _ _ hu hi,cI,List.range_eq_range']
   have:=gC (P:=P) (w:=w) bP d a b n 0 (by omega) (by omega)
   simpa using this
 exact heq _
def u0 (P:Program) (L:cq) (kt:TypeId):Option (Nat×IntKind)→Prop
 | none=>∃k,P.underlying kt=some (.int k)
 | some (t,k)=>∃n el,P.underlying kt=some (.array n el)∧P.underlying el=some (.int k)∧P.cellsOf el=1∧L.arr t=some (n,none)
theorem gD {kc:Option (Nat×IntKind)} {x:V}:∀ {es:List (V×V×Nat)} {n:Nat} {q:Nat×V×Nat},gU kc x es n=some (some q)→n≤q.1∧∃e,es[q.1 - n]? =some e∧e.2=q.2∧mG kc x e.1=some true
 | [],n,q,h=> by simp[gU] at h
 | e::es,n,q,h=> by
   simp only[gU] at h
   split at h
   ·rename_i hk
    simp only[Option.some.injEq] at h
    subst h
    exact ⟨Nat.le_refl _,e,by simp,rfl,hk⟩
   ·obtain ⟨h1,e',h2,h3⟩:=gD h
    refine ⟨by omega,e',?_,h3⟩
    have:q.1 - n=(q.1 - (n+1))+1:=by omega
    rw[this];exact h2
   ·cases h
def qf (ms:List MapEntry) (n:Nat) (r:Option (Nat×V×Nat)):Option (Nat×Value):=r.bind fun q=>(ms[q.1 - n]?).map fun m=>(q.1,m.val)
theorem wh {k0:IntKind} {x y:V} {ux uy:Value} {b:Bool} (hx:RV L c x ux) (hy:RV L c y uy) (he:mG none x y=some b):Instr.sameNow (.int k0) ux uy=some b∧∃k a,ux= .int k a:=by
 unfold mG at he
 split at he
 ·rename_i k a k' a' _
  obtain ⟨rfl,_⟩:=bx.1 hx
  obtain ⟨rfl,_⟩:=bx.1 hy
  split at he
  ·rename_i hk;subst hk
   simp only[Option.some.injEq] at he
   subst he
   exact ⟨by simp[Instr.sameNow],k,a,rfl⟩
  ·cases he
 ·rename_i h1;cases h1
 ·cases he
theorem yn {k0:IntKind} {x:V} {ux:Value} (hx:RV L c x ux):∀ {es:List (V×V×Nat)} {ms:List MapEntry} {n:Nat} {r:Option (Nat×V×Nat)},kW L c es ms→gU none x es n=some r→Instr.findNow (.int k0) ux ms n=some (qf ms n r)
 | [],[],n,r,_,h=> by simp only[gU,Option.some.injEq] at h;subst h;rfl
 | e::es,m::ms,n,r,hr,h=> by
   simp only[gU] at h
   split at h
   ·rename_i hk
    simp only[Option.some.injEq] at h;subst h
    simp[Instr.findNow,(wh (k0:=k0) hx hr.1.1 hk).1,qf]
   ·rename_i hk
    have ih:=yn (k0:=k0) hx hr.2 h
    simp only[Instr.findNow,(wh (k0:=k0) hx hr.1.1 hk).1,ih,Option.some.injEq]
    cases r with
    | none=> rfl
    | some q=>
      have hle:=(gD h).1
      have:q.1 - n=(q.1 - (n+1))+1:=by omega
      simp[qf,this]
   ·cases h
 | [],_::_,_,_,h,_=> h.elim
 | _::_,[],_,_,h,_=> h.elim
theorem rE {t n:Nat} {el:TypeId} {k:IntKind} {kt:TypeId} (hu:P.underlying kt=some (.array n el)) (bP:P.underlying el=some (.int k)) (cI:P.cellsOf el=1) (ha:L.arr t=some (n,none))
 {x y:V} {ux uy:Value} {b:Bool} (hx:RV L c x ux) (hy:RV L c y uy) (he:mG (some (t,k)) x y=some b):
 (Op.equal kt ux uy).run P w= .ok b w∧∃a:List Int,a.length=n∧ux= .agg (a.map (Value.int k)).toArray∧∃a':List Int,a'.length=n∧uy= .agg (a'.map (Value.int k)).toArray∧b=(a==a'):=by
 unfold mG at he
 split at he
 ·rename_i heq;cases heq
 ·rename_i t' k' t1 es t2 fs h1
  cases h1
  split at he
  case isFalse=> cases he
  rename_i hc
  obtain ⟨rfl,rfl⟩:=hc
  split at he
  case h_2=> cases he
  rename_i a a' fi hib
  simp only[Option.some.injEq] at he
  subst he
  obtain ⟨us,rfl,ym⟩:=(eV rfl).1 hx
  obtain ⟨ws,rfl,mz⟩:=(eV rfl).1 hy
  simp only[RC] at ym mz
  obtain ⟨ym,e1,ha1,_⟩:=ym
  obtain ⟨mz,e2,ha2,_⟩:=mz
  rw[ha] at ha1 ha2
  simp only[Option.some.injEq,Prod.mk.injEq] at ha1 ha2
  obtain ⟨rfl,FD⟩:=i4 fi ym
  obtain ⟨rfl,tI⟩:=i4 hib mz
  exact ⟨sZ hu bP cI a a' (by omega) (by omega),a,by omega,rfl,a',by omega,rfl,rfl⟩
 ·cases he
theorem yo {t n:Nat} {el:TypeId} {k:IntKind} {kt:TypeId} (hu:P.underlying kt=some (.array n el)) (bP:P.underlying el=some (.int k)) (cI:P.cellsOf el=1) (ha:L.arr t=some (n,none))
 {x:V} {ux:Value} (hx:RV L c x ux):∀ {es:List (V×V×Nat)} {ms:List MapEntry} {m:Nat} {r:Option (Nat×V×Nat)},kW L c es ms→gU (some (t,k)) x es m=some r→(Instr.findAsking kt ux ms m).run P w= .ok (qf ms m r) w
 | [],[],m,r,_,h=> by simp only[gU,Option.some.injEq] at h;subst h;simp[Instr.findAsking,qf]
 | e::es,m'::ms,m,r,hr,h=> by
   simp only[gU] at h
   split at h
   ·rename_i hk
    simp only[Option.some.injEq] at h;subst h
    simp[Instr.findAsking,(rE (w:=w) hu bP cI ha hx hr.1.1 hk).1,qf]
   ·rename_i hk
    have ih:=yo hu bP cI ha hx hr.2 h
    simp only[Instr.findAsking,Sem.run_bind,(rE (w:=w) hu bP cI ha hx hr.1.1 hk).1,Result.andThen_ok,Bool.false_eq_true,if_false,ih]
    congr 1
    cases r with
    | none=> rfl
    | some q=>
      have hle:=(gD h).1
      have:q.1 - m=(q.1 - (m+1))+1:=by omega
      simp[qf,this]
   ·cases h
 | [],_::_,_,_,h,_=> h.elim
 | _::_,[],_,_,h,_=> h.elim
theorem Lu {kt:TypeId} {k0 k:IntKind} {a:Int} (hu:P.underlying kt=some (.int k0)) (em:Bool) (n:Nat):(Instr.checkKey em (n+1) kt (.int k a)).run P w= .ok () w:=by simp[Instr.checkKey,run_underlying hu]
theorem s9 {kt:TypeId} {kc:Option (Nat×IntKind)} (hk:u0 P L kt kc) {x:V} {ux:Value} (hx:RV L c x ux) {es:List (V×V×Nat)} {ms:List MapEntry} {r:Option (Nat×V×Nat)} (hr:kW L c es ms) (hf:pg kc x es=some r):
 (∀em,(Instr.checkKey em 10000 kt ux).run P w= .ok () w)∧(Instr.findKey kt ux ms).run P w= .ok (qf ms 0 r) w:=by
 unfold pg at hf
 split at hf
 case isFalse=> cases hf
 rename_i hs
 cases kc with
 | none=>
   obtain ⟨k0,hu⟩:=hk
   obtain ⟨_,k,a,rfl⟩:=wh (k0:=k0) hx hx hs
   exact ⟨fun em=> Lu hu em 9999,MapKept.run_findKey hu (yn hx hr hf)⟩
 | some q=>
   obtain ⟨t,k⟩:=q
   obtain ⟨n,el,hu,bP,cI,ha⟩:=hk
   obtain ⟨_,a,FD,rfl,_⟩:=rE (w:=w) hu bP cI ha hx hx hs
   obtain ⟨i,hi⟩:=info_of_underlying bP
   exact ⟨fun em=> pq hu bP hi cI a FD em 9998,by rw[run_findKey_eq w (by rw[hu])];exact yo hu bP cI ha hx hr hf⟩
theorem qg {es:List (V×V×Nat)} {ms:List MapEntry} {kc:Option (Nat×IntKind)} {x:V} {q:Nat×V×Nat} (hr:kW L c es ms) (h:gU kc x es 0=some (some q)):
 ∃m,ms[q.1]? =some m∧RV L c q.2.1 m.val∧q.2.2=m.born∧qf ms 0 (some q)=some (q.1,m.val):=by
 obtain ⟨_,e,h1,h2,_⟩:=gD h
 rw[Nat.sub_zero] at h1
 obtain ⟨m,h3,_,h4,h5⟩:=kW.nth hr h1
 exact ⟨m,h3,by rw[←h2];exact h4,by rw[←h2];exact h5,by simp[qf,h3]⟩
theorem i5 {kc:Option (Nat×IntKind)} {x:V} {es:List (V×V×Nat)} {r:Option (Nat×V×Nat)} (h:pg kc x es=some r):gU kc x es 0=some r:=by
 unfold pg at h
 split at h
 ·exact h
 ·cases h
theorem Qi (hs:bc L c h w) {T kt et:TypeId} {kc:Option (Nat×IntKind)} (hm:P.underlying T=some (.map kt et)) (hk:u0 P L kt kc) {ok:Bool} {zv:V} (hz:er P L et zv) {x y:V} {ux uy:Value} (hx:RV L c x ux) (hy:RV L c y uy)
 {v:V} {h':Hp} (ah:xX h kc ok zv x y=some (v,h')):aJ L c w ((Instr.lookup T ux uy ok).run P w) v h':=by
 unfold xX at ah
 split at ah
 case h_2=> cases ah
 rename_i id
 split at ah
 case h_2=> cases ah
 rename_i es cl hg
 obtain ⟨r,hf,he⟩:=Option.map_eq_some_iff.1 ah
 simp only[Prod.mk.injEq] at he
 obtain ⟨rfl,rfl⟩:=he
 obtain ⟨l,ms,hl,rfl,Ch,bZ,cC,h3,hr⟩:=mP hs hx hg
 obtain ⟨DF,y7⟩:=s9 (w:=w) hk hy hr hf
 obtain ⟨i,z,hi,oy,oL⟩:=hz
 have hzv:(zeroValue et).run P w= .ok z w:=by simp[zeroValue,typeInfo,hi,oy]
 have dE:=MapKept.run_getObj_map (P:=P) h3
 cases r with
 | none=>
   have BO:qf ms.toList 0 none=none:=rfl
   rw[BO] at y7
   refine aJ.same (u:=if ok then .tuple #[z,.bool false] else z) ?_ ?_ hs
   ·simp only[Instr.lookup,Sem.run_bind,run_underlying hm,Result.andThen_ok,dE,Sem.run_pure,DF,y7,hzv]
   ·cases ok
    ·exact oL c
    ·exact cx.2 ⟨[z,.bool false],rfl,oL c,bx.2 ⟨rfl,rfl⟩,trivial⟩
 | some q=>
   obtain ⟨m,qw,qu,Hw,hm4⟩:=qg hr (i5 hf)
   rw[hm4] at y7
   refine aJ.same (u:=if ok then .tuple #[m.val,.bool true] else m.val) ?_ ?_ hs
   ·simp only[Instr.lookup,Sem.run_bind,run_underlying hm,Result.andThen_ok,dE,Sem.run_pure,DF,y7]
   ·cases ok
    ·exact qu
    ·exact cx.2 ⟨[m.val,.bool true],rfl,qu,bx.2 ⟨rfl,rfl⟩,trivial⟩
theorem u7 (k:IntKind):∀(d:Nat) (a:List Int),((a.map (Value.int k)).zip (a.map (Value.int k))).all (fun p=> Instr.sameBits d p.1 p.2)=true
 | d,[]=> rfl
 | d,x::a=> by
   simp only[List.map_cons,List.zip_cons_cons,List.all_cons,u7 k d a,Bool.and_true]
   cases d <;> simp[Instr.sameBits]
theorem yp {kt:TypeId} {kc:Option (Nat×IntKind)} (hk:u0 P L kt kc) {x y:V} {ux uy:Value} (hx:RV L c x ux) (hy:RV L c y uy) (he:mG kc x y=some true):uy=ux∧(Instr.keyThatStays uy ux).run P w= .ok ux w:=by
 have key:∀u:Value,Instr.sameBits 10000 u u=true→(Instr.keyThatStays u u).run P w= .ok u w:=fun u hu=> by
   simp only[Instr.keyThatStays,hu,if_true,Sem.run_pure]
 cases kc with
 | none=>
   obtain ⟨k0,hu⟩:=hk
   unfold mG at he
   split at he
   ·rename_i k a k' a' _
    obtain ⟨rfl,_⟩:=bx.1 hx
    obtain ⟨rfl,_⟩:=bx.1 hy
    split at he
    ·rename_i Dd;subst Dd
     have:a=a':=by simpa using he
     subst this
     exact ⟨rfl,key _ (by show Instr.sameBits (9999+1) _ _=true;simp[Instr.sameBits])⟩
    ·cases he
   ·rename_i h1;cases h1
   ·cases he
 | some q=>
   obtain ⟨t,k⟩:=q
   obtain ⟨n,el,hu,bP,cI,ha⟩:=hk
   obtain ⟨_,a,FD,rfl,a',Zi,rfl,hb⟩:=rE (w:=w) hu bP cI ha hx hy he
   have:a=a':=by simpa using hb.symm
   subst this
   refine ⟨rfl,key _ ?_⟩
   show Instr.sameBits (9999+1) _ _=true
   simp only[Instr.sameBits,beq_self_eq_true,Bool.true_and]
   exact u7 k 9999 a
theorem oD {ms:Array MapEntry} {i:Nat} {m:MapEntry} {f:MapEntry→MapEntry} (h:ms.toList[i]? =some m):(ms.modify i f).toList=ms.toList.set i (f m):=by
 rw[Array.toList_modify]
 apply List.ext_getElem?
 intro j
 have bW:=(List.getElem?_eq_some_iff.1 h).1
 rw[List.getElem?_modify,List.getElem?_set]
 by_cases c:i=j
 ·subst c;rw[if_pos rfl,if_pos bW,h];simp
 ·rw[if_neg c];simp[c]
theorem St.heap (w:World) (i:Nat) (o:Obj):St w {w with heap:=w.heap.setIfInBounds i o}:=⟨rfl,rfl,rfl,by simp⟩
theorem Iy (hs:bc L c h w) {T kt et:TypeId} {kc:Option (Nat×IntKind)} (hm:P.underlying T=some (.map kt et)) (hk:u0 P L kt kc) {g:Option Nat} {x y z:V} {ux uy uz:Value} (hx:RV L c x ux) (hy:RV L c y uy) (hz:RV L c z uz)
 {base:Nat} {v:V} {h':Hp} (ah:xY base h kc g x y z=some (v,h')):∃w',(Instr.mapUpdate T ux uy uz).run P w= .ok () w'∧v= .bI []∧bc L c h' w'∧St w w':=by
 unfold xY at ah
 split at ah
 case h_2=> cases ah
 rename_i id
 split at ah
 case isFalse=> cases ah
 split at ah
 case h_2=> cases ah
 rename_i es cl hg
 obtain ⟨r,hf,he⟩:=Option.map_eq_some_iff.1 ah
 obtain ⟨l,ms,hl,rfl,Ch,bZ,cC,h3,hr⟩:=mP hs hx hg
 obtain ⟨DF,y7⟩:=s9 (w:=w) hk hy hr hf
 have dE:=MapKept.run_getObj_map (P:=P) h3
 have pK:=fun o=> MapKept.run_setObj_map (P:=P) o h3
 cases r with
 | none=>
   cases he
   have BO:qf ms.toList 0 none=none:=rfl
   rw[BO] at y7
   refine ⟨_,?_,rfl,mQ hs hl Ch bZ cC h3 (ms':=ms.push ⟨uy,uz,cl⟩) (by rw[Array.toList_push];exact kW.snoc (m:=⟨uy,uz,cl⟩) ⟨hy,hz,rfl⟩ hr),St.heap _ _ _⟩
   simp only[Instr.mapUpdate,Sem.run_bind,run_underlying hm,Result.andThen_ok,dE,DF,y7,pK]
 | some q=>
   obtain ⟨i,v0,b⟩:=q
   cases he
   obtain ⟨m,qw,qu,Hw,hm4⟩:=qg hr (i5 hf)
   rw[hm4] at y7
   simp only at qw Hw y7
   obtain ⟨_,e,q1,q2,q3⟩:=gD (i5 hf)
   simp only[Nat.sub_zero] at q1
   obtain ⟨m',Iz,IA,_,_⟩:=kW.nth hr q1
   rw[qw] at Iz;cases Iz
   obtain ⟨xt,aR⟩:=yp (w:=w) hk hy IA q3
   have hmi:ms[i]? =some m:=by rw[←Array.getElem?_toList];exact qw
   refine ⟨_,?_,rfl,mQ hs hl Ch bZ cC h3 (ms':=ms.modify i fun e=> {e with key:=uy,val:=uz}) (by rw[oD qw];exact kW.set (m:= {m with key:=uy,val:=uz}) ⟨hy,hz,Hw⟩ i hr),St.heap _ _ _⟩
   simp only[Instr.mapUpdate,Sem.run_bind,run_underlying hm,Result.andThen_ok,dE,DF,y7,hmi,Option.map_some,Option.getD_some,aR,pK]
theorem Qj (hs:bc L c h w) {T kt et:TypeId} {kc:Option (Nat×IntKind)} (hm:P.underlying T=some (.map kt et)) (hk:u0 P L kt kc) {zv:V} (hz:er P L et zv) {x y:V} {ux uy:Value} (hx:RV L c x ux) (hy:RV L c y uy)
 {base:Nat} {v:V} {h':Hp} (ah:xZ base h kc zv x y=some (v,h')):aJ L c w ((Instr.mapEntry T ux uy).run P w) v h':=by
 unfold xZ at ah
 split at ah
 case h_2=> cases ah
 rename_i id
 split at ah
 case isFalse=> cases ah
 split at ah
 case h_2=> cases ah
 rename_i es cl hg
 obtain ⟨r,hf,he⟩:=Option.map_eq_some_iff.1 ah
 obtain ⟨l,ms,hl,rfl,Ch,bZ,cC,h3,hr⟩:=mP hs hx hg
 obtain ⟨DF,y7⟩:=s9 (w:=w) hk hy hr hf
 have dE:=MapKept.run_getObj_map (P:=P) h3
 have pK:=fun o=> MapKept.run_setObj_map (P:=P) o h3
 obtain ⟨i0,z,hi,oy,oL⟩:=hz
 have hzv:(zeroValue et).run P w= .ok z w:=by simp[zeroValue,typeInfo,hi,oy]
 cases r with
 | none=>
   cases he
   have BO:qf ms.toList 0 none=none:=rfl
   rw[BO] at y7
   refine ⟨.tuple #[z,goInt cl],c,_,?_,cx.2 ⟨[z,goInt cl],rfl,oL c,bx.2 ⟨rfl,rfl⟩,trivial⟩,mQ hs hl Ch bZ cC h3 (ms':=ms.push ⟨uy,z,cl⟩) (by rw[Array.toList_push];exact kW.snoc (m:=⟨uy,z,cl⟩) ⟨hy,oL c,rfl⟩ hr),Ctx.le_refl c,St.heap _ _ _⟩
   simp only[Instr.mapEntry,Sem.run_bind,run_underlying hm,Result.andThen_ok,dE,DF,y7,hzv,pK,Sem.run_pure]
 | some q=>
   obtain ⟨i,v0,b⟩:=q
   cases he
   obtain ⟨m,qw,qu,Hw,hm4⟩:=qg hr (i5 hf)
   rw[hm4] at y7
   simp only at qw qu Hw y7
   obtain ⟨_,e,q1,q2,q3⟩:=gD (i5 hf)
   simp only[Nat.sub_zero] at q1
   obtain ⟨m',Iz,IA,_,_⟩:=kW.nth hr q1
   rw[qw] at Iz;cases Iz
   obtain ⟨xt,aR⟩:=yp (w:=w) hk hy IA q3
   have hmi:ms[i]? =some m:=by rw[←Array.getElem?_toList];exact qw
   refine ⟨.tuple #[m.val,goInt m.born],c,_,?_,cx.2 ⟨[m.val,goInt m.born],rfl,qu,bx.2 ⟨by rw[Hw];rfl,rfl⟩,trivial⟩,mQ hs hl Ch bZ cC h3 (ms':=ms.modify i fun e=> {e with key:=uy}) (by rw[oD qw];exact kW.set (m:= {m with key:=uy}) ⟨hy,qu,Hw⟩ i hr),Ctx.le_refl c,St.heap _ _ _⟩
   simp only[Instr.mapEntry,Sem.run_bind,run_underlying hm,Result.andThen_ok,dE,DF,y7,hmi,Option.map_some,Option.getD_some,aR,pK,Sem.run_pure]
theorem Qk (hs:bc L c h w) {T kt et:TypeId} (hm:P.underlying T=some (.map kt et)) {ty:TypeId} {x:V} {ux:Value} (hx:RV L c x ux) {v:V} {h':Hp} (ah:yb h x=some (v,h')):aJ L c w ((Builtin.len_ #[T] ty #[ux]).run P w) v h':=by
 unfold yb at ah
 split at ah
 case h_2=> cases ah
 rename_i id
 split at ah
 case h_2=> cases ah
 rename_i es cl hg
 simp only[Option.some.injEq,Prod.mk.injEq] at ah
 obtain ⟨rfl,rfl⟩:=ah
 obtain ⟨l,ms,hl,rfl,Ch,bZ,cC,h3,hr⟩:=mP hs hx hg
 have dE:=MapKept.run_getObj_map (P:=P) h3
 have hlen:es.length=ms.size:=by rw[kW.length hr];simp
 refine aJ.same (u:=goInt es.length) ?_ (bx.2 ⟨rfl,rfl⟩) hs
 simp[Builtin.len_,underlying,hm,goInt,dE,hlen]
theorem u9 {n:Int} {v:V} {u:Value} (hv:RV L c v u):∀ {es es':List (V×V×Nat)} {ms:List MapEntry},kW L c es ms→x9 n v es=some es'→∃i m,ms.findIdx? (fun e=>(e.born:Int)==n)=some i∧ms[i]? =some m∧kW L c es' (ms.set i {m with val:=u})
 | [],es',[],_,h=> by simp[x9] at h
 | e::es,es',m::ms,hr,h=> by
   simp only[x9] at h
   split at h
   ·rename_i hn
    cases h
    refine ⟨0,m,?_,rfl,⟨hr.1.1,hv,hr.1.2.2⟩,hr.2⟩
    rw[List.findIdx?_cons,if_pos]
    rw[←hr.1.2.2];simpa using hn
   ·rename_i hn
    obtain ⟨q,hq,rfl⟩:=Option.map_eq_some_iff.1 h
    obtain ⟨i,m',h1,h2,h3⟩:=u9 hv hr.2 hq
    refine ⟨i+1,m',?_,h2,hr.1,h3⟩
    rw[List.findIdx?_cons,if_neg,h1]
    ·rfl
    ·rw[←hr.1.2.2];simpa using hn
 | [],_,_::_,h,_=> h.elim
 | _::_,_,[],h,_=> h.elim
theorem Ql (hs:bc L c h w) {T:TypeId} {g:Option Nat} {x y z:V} {ux uy uz:Value} (hx:RV L c x ux) (hy:RV L c y uy) (hz:RV L c z uz)
 {base:Nat} {v:V} {h':Hp} (ah:ya base h g x y z=some (v,h')):∃w',(Instr.entryStore T ux uy uz).run P w= .ok () w'∧v= .bI []∧bc L c h' w'∧St w w':=by
 unfold ya at ah
 split at ah
 case h_2=> cases ah
 rename_i id k n
 split at ah
 case isFalse=> cases ah
 split at ah
 case h_2=> cases ah
 rename_i es cl hg
 obtain ⟨es',hf,he⟩:=Option.map_eq_some_iff.1 ah
 cases he
 obtain ⟨l,ms,hl,rfl,Ch,bZ,cC,h3,hr⟩:=mP hs hx hg
 obtain ⟨rfl,_⟩:=bx.1 hy
 have dE:=MapKept.run_getObj_map (P:=P) h3
 have pK:=fun o=> MapKept.run_setObj_map (P:=P) o h3
 obtain ⟨i,m,h1,h2,h4⟩:=u9 hz hr hf
 have h1':ms.findIdx? (fun e=>(e.born:Int)==n)=some i:=by have:=h1;cases ms;simpa using this
 refine ⟨_,?_,rfl,mQ hs hl Ch bZ cC h3 (ms':=ms.modify i fun e=> {e with val:=uz}) (by rw[oD h2];exact h4),St.heap _ _ _⟩
 simp only[Instr.entryStore,Sem.run_bind,dE,Result.andThen_ok,asInt,asIntOf,Sem.run_pure,h1',pK]
end Go.Vm
namespace Go.Vm
variable {P : Program} {L : cq} {c : Ctx} {h : Hp} {w : World}
def LK.lit :LK→Value→Option Lit
 | .i k,.int q n=> if q=k∧(Lit.int k n).wf=true then some (.int k n) else none
 | .b,.bool c=> some (.bool c)
 | .s,.string x=> if x.size≤maxLen then some (.string x.data.toList) else none
 | _,_=> none
def db :List LK→List Value→Option (List Lit)
 | [],[]=> some []
 | k::ks,v::vs=> match k.lit v,db ks vs with | some a,some b=> some (a::b) | _,_=> none
 | _,_=> none
theorem D6 {k:LK} {v:Value} (h:Ij k v=true):∃a,k.lit v=some a:=by
 unfold Ij at h
 split at h
 ·rename_i k q n
  obtain ⟨h1,h2,h3⟩:=of_decide_eq_true h
  exact ⟨_,by simp only[LK.lit];exact if_pos ⟨h1,by simp[Lit.wf,h2,h3]⟩⟩
 ·exact ⟨_,rfl⟩
 ·rename_i s
  have:=of_decide_eq_true h
  have hm:140737488351232≤maxLen:=by decide
  exact ⟨_,by simp only[LK.lit];exact if_pos (Nat.le_trans this hm)⟩
 ·cases h
theorem mR :∀ {ks:List LK} {vs:List Value},sG ks vs=true→∃as,db ks vs=some as
 | [],[],_=>⟨[],rfl⟩
 | k::ks,v::vs,h=> by
   simp only[sG,Bool.and_eq_true] at h
   obtain ⟨a,ha⟩:=D6 h.1
   obtain ⟨as,has⟩:=mR h.2
   exact ⟨a::as,by simp only[db,ha,has]⟩
 | [],_::_,h=> by cases h
 | _::_,[],h=> by cases h
theorem AK {k:LK} {u v:Value} {a b:Lit} (ha:k.lit u=some a) (hb:k.lit v=some b):sH u v=true↔a=b:=by
 cases k with
 | i k=>
   cases u <;> simp only[LK.lit] at ha <;> first | (cases ha;done) | skip
   cases v <;> simp only[LK.lit] at hb <;> first | (cases hb;done) | skip
   split at ha <;> first | (cases ha;done) | skip
   split at hb <;> first | (cases hb;done) | skip
   cases ha;cases hb
   simp[sH]
 | b=>
   cases u <;> simp only[LK.lit] at ha <;> first | (cases ha;done) | skip
   cases v <;> simp only[LK.lit] at hb <;> first | (cases hb;done) | skip
   cases ha;cases hb
   simp[sH]
 | s=>
   cases u <;> simp only[LK.lit] at ha <;> first | (cases ha;done) | skip
   cases v <;> simp only[LK.lit] at hb <;> first | (cases hb;done) | skip
   split at ha <;> first | (cases ha;done) | skip
   split at hb <;> first | (cases hb;done) | skip
   cases ha;cases hb
   simp[sH]
theorem nR :∀ {ks:List LK} {us vs:List Value} {as bs:List Lit},db ks us=some as→db ks vs=some bs→(fO us vs=true↔as=bs)
 | [],[],[],as,bs,ha,hb=> by cases ha;cases hb;simp[fO]
 | k::ks,u::us,v::vs,as,bs,ha,hb=> by
   simp only[db] at ha hb
   split at ha
   case h_2=> cases ha
   rename_i a as' h1 h2
   split at hb
   case h_2=> cases hb
   rename_i b bs' h3 h4
   cases ha;cases hb
   simp only[fO,Bool.and_eq_true,List.cons.injEq,AK h1 h3,nR h2 h4]
 | [],[],_::_,_,_,_,hb=> by cases hb
 | [],_::_,_,_,_,ha,_=> by cases ha
 | _::_,[],_,_,_,ha,_=> by cases ha
 | _::_,_::_,[],_,_,_,hb=> by cases hb
theorem jR :∀ {a b:List LK} {us:List Value} {l:List Lit},db (a++b) us=some l→∃l1 l2,l=l1++l2∧db a (us.take a.length)=some l1∧db b (us.drop a.length)=some l2
 | [],b,us,l,h=>⟨[],l,rfl,by simp[db],by simpa using h⟩
 | k::a,b,[],l,h=> by cases h
 | k::a,b,u::us,l,h=> by
   simp only[List.cons_append,db] at h
   split at h
   case h_2=> cases h
   rename_i x xs h1 h2
   cases h
   obtain ⟨l1,l2,rfl,h3,h4⟩:=jR h2
   exact ⟨x::l1,l2,rfl,by simp only[List.length_cons,List.take_succ_cons,db,h1,h3],by simpa using h4⟩
theorem k9 :∀ {ks:List LK} {us:List Value} {l:List Lit},db ks us=some l→us.length=ks.length
 | [],[],_,_=> rfl
 | k::ks,u::us,l,h=> by
   simp only[db] at h
   split at h
   case h_2=> cases h
   rename_i h1 h2
   simp[k9 h2]
 | [],_::_,_,h=> by cases h
 | _::_,[],_,h=> by cases h
def rF (f:TypeId→Option (List LK)) (P:Program):List Field→Nat→Option (List LK)
 | [],_=> some []
 | x::xs,off=> match f x.type,rF f P xs (off+P.cellsOf x.type) with
   | some a,some b=> if x.offset=off∧a.length=P.cellsOf x.type∧x.name≠ "_" then some (a++b) else none
   | _,_=> none
def iB (P:Program):Nat→TypeId→Option (List LK)
 | 0,_=> none
 | d+1,t=> match P.underlying t with
   | some .bool=> some [.b]
   | some (.int k)=> some [.i k]
   | some .string=> some [.s]
   | some (.array n e)=> match iB P d e with
     | some a=> if a.length=P.cellsOf e∧n * a.length=P.cellsOf t then some (List.replicate n a).flatten else none
     | none=> none
   | some (.struct fs)=> match rF (iB P d) P fs.toList 0 with
     | some a=> if a.length=P.cellsOf t then some a else none
     | none=> none
   | _=> none
theorem ta {d e sz:Nat} {a:List LK} {us:List Value} (ih:∀us l,db a us=some l→P.keyLits d e us=some l) (cI:a.length=sz):∀(n s:Nat) (l:List Lit),db (List.replicate n a).flatten (us.drop (s * sz))=some l→
 ∃ls,(List.range' s n).mapM (fun i=> P.keyLits d e ((us.drop (i * sz)).take sz))=some ls∧ls.flatten=l
 | 0,s,l,h=> by
   refine ⟨[],by simp,?_⟩
   simp only[List.replicate_zero,List.flatten_nil] at h
   cases hu:us.drop (s * sz) with
   | nil=> rw[hu] at h;cases h;rfl
   | cons x xs=> rw[hu] at h;cases h
 | n+1,s,l,h=> by
   rw[List.replicate_succ,List.flatten_cons] at h
   obtain ⟨l1,l2,rfl,h1,h2⟩:=jR h
   rw[cI] at h1 h2
   rw[List.drop_drop] at h2
   obtain ⟨ls,h3,h4⟩:=ta ih cI n (s+1) l2 (by rw[Nat.add_mul,Nat.one_mul];exact h2)
   refine ⟨l1::ls,?_,by rw[List.flatten_cons,h4]⟩
   rw[List.range'_succ,List.mapM_cons,ih _ _ h1]
   simp only[Option.bind_eq_bind,Option.bind_some,h3]
   rfl
theorem qM {d:Nat} {us:List Value} (ih:∀t ks us l,iB P d t=some ks→db ks us=some l→P.keyLits d t us=some l):∀(fs:List Field) (off:Nat) (ks:List LK) (l:List Lit),rF (iB P d) P fs off=some ks→db ks (us.drop off)=some l→
 (fs.all fun f=> f.name != "_")=true∧∃ls,fs.mapM (fun f=> P.keyLits d f.type ((us.drop f.offset).take (P.cellsOf f.type)))=some ls∧ls.flatten=l
 | [],off,ks,l,h1,h2=> by
   cases h1
   refine ⟨rfl,[],by simp,?_⟩
   cases hu:us.drop off with
   | nil=> rw[hu] at h2;cases h2;rfl
   | cons x xs=> rw[hu] at h2;cases h2
 | f::fs,off,ks,l,h1,h2=> by
   simp only[rF] at h1
   split at h1
   case h_2=> cases h1
   rename_i a b h3 h4
   split at h1
   case isFalse=> cases h1
   rename_i hc
   obtain ⟨rfl,hl,hn⟩:=hc
   cases h1
   obtain ⟨l1,l2,rfl,h5,h6⟩:=jR h2
   rw[hl] at h5 h6
   rw[List.drop_drop] at h6
   obtain ⟨h7,ls,h8,h9⟩:=qM ih fs _ b l2 h4 h6
   refine ⟨by simp[hn];simpa using h7,l1::ls,?_,by rw[List.flatten_cons,h9]⟩
   rw[List.mapM_cons,ih _ _ _ _ h3 h5]
   simp only[Option.bind_eq_bind,Option.bind_some,h8]
   rfl
theorem lf :∀(d:Nat) (t:TypeId) (ks:List LK) (us:List Value) (l:List Lit),iB P d t=some ks→db ks us=some l→P.keyLits d t us=some l
 | 0,t,ks,us,l,h,_=> by cases h
 | d+1,t,ks,us,l,h,hl=> by
   have one:∀k:LK,db [k] us=some l→∃u a,us=[u]∧k.lit u=some a∧l=[a]:=by
     intro k hk
     cases us with
     | nil=> cases hk
     | cons u us=>
       simp only[db] at hk
       split at hk
       case h_2=> cases hk
       rename_i a b h1 h2
       cases us with
       | nil=> cases h2;cases hk;exact ⟨u,a,rfl,h1,rfl⟩
       | cons _ _=> cases h2
   simp only[iB] at h
   split at h
   ·rename_i hu;cases h
    obtain ⟨u,a,rfl,h1,rfl⟩:=one _ hl
    cases u <;> simp only[LK.lit] at h1 <;> first | (cases h1;done) | skip
    cases h1
    simp[Program.keyLits,hu]
   ·rename_i k hu;cases h
    obtain ⟨u,a,rfl,h1,rfl⟩:=one _ hl
    cases u <;> simp only[LK.lit] at h1 <;> first | (cases h1;done) | skip
    split at h1 <;> first | (cases h1;done) | skip
    rename_i hc
    obtain ⟨rfl,hc⟩:=hc
    cases h1
    simp[Program.keyLits,hu,hc]
   ·rename_i hu;cases h
    obtain ⟨u,a,rfl,h1,rfl⟩:=one _ hl
    cases u <;> simp only[LK.lit] at h1 <;> first | (cases h1;done) | skip
    split at h1 <;> first | (cases h1;done) | skip
    rename_i hc
    cases h1
    simp[Program.keyLits,hu,hc]
   ·rename_i n e hu
    split at h
    case h_2=> cases h
    rename_i a ha
    split at h
    case isFalse=> cases h
    rename_i hc
    cases h
    obtain ⟨ls,h1,h2⟩:=ta (P:=P) (d:=d) (e:=e) (us:=us) (fun us l hl=> lf d e a us l ha hl) hc.1 n 0 l (by simpa using hl)
    have hlen:us.length=P.cellsOf t:=by
      rw[k9 hl,←hc.2];simp[List.length_flatten]
    simp only[Program.keyLits,hu,hlen,if_true,List.range_eq_range',h1,Option.map_some,h2]
   ·rename_i fs hu
    split at h
    case h_2=> cases h
    rename_i a ha
    split at h
    case isFalse=> cases h
    rename_i hc
    cases h
    obtain ⟨h0,ls,h1,h2⟩:=qM (P:=P) (d:=d) (us:=us) (fun t ks us l=> lf d t ks us l) fs.toList 0 ks l ha (by simpa using hl)
    have hlen:us.length=P.cellsOf t:=by rw[k9 hl,hc]
    have h0':fs.all (fun f=> f.name != "_")=true:=by rw[←Array.all_toList];exact h0
    simp only[Program.keyLits,hu,hlen,h0',and_self,if_true,h1,Option.map_some,h2]
   ·cases h
theorem tc :∀(v:V) (xs us:List Value),v.flat=some xs→RC L c v us→us=xs:=by
 intro v
 induction v using V.rec (motive_2:=fun vs=>∀xs us,V.flat.all vs=some xs→bV L c vs us→us=xs) with
 | s x=> intro xs us h hr;simp only[V.flat] at h;cases h;simp only[RC] at hr;exact hr.1
 | st t fs ih=> intro xs us h hr;simp only[V.flat] at h;simp only[RC] at hr;exact ih _ _ h hr.1
 | arr t fs ih=> intro xs us h hr;simp only[V.flat] at h;simp only[RC] at hr;exact ih _ _ h hr.1
 | nil=> rename_i xs us h hr;simp only[V.flat.all] at h;cases h;simpa only[bV] using hr
 | cons v vs ih ihs=>
   rename_i xs us h hr
   simp only[V.flat.all] at h
   split at h
   case h_2=> cases h
   rename_i a b h1 h2
   cases h
   simp only[bV] at hr
   obtain ⟨u1,u2,rfl,h3,h4⟩:=hr
   rw[ih _ _ h1 h3,ihs _ _ h2 h4]
 | _=> intro xs us h hr;simp[V.flat] at h
theorem IB (hs:bc L c h w) {T t m:Nat} {fs:Array Field} {ks:List LK} (hm:m≤10000) (hu:P.underlying T=some (.struct fs)) (hk:P.keyTypeAt m T=true) (zN:iB P m T=some ks) (hgd:P.eqGuardType P.depth T=false)
 {op:BinOp} {neg:Bool} (DZ:(op= .eql∧neg=false)∨(op= .neq∧neg=true)) {X Y:Operand} {x y:V} {ux uy:Value} (hx:RV L c x ux) (hy:RV L c y uy) {v:V} {h':Hp} (ah:uJ h t ks neg x y=some (v,h')):
 aJ L c w ((do eqGuard op T X Y ux uy;binOp op T ux uy:Sem Value).run P w) v h':=by
 unfold uJ at ah
 split at ah
 case h_2=> cases ah
 rename_i t1 es t2 gs
 split at ah
 case isFalse=> cases ah
 rename_i hc
 obtain ⟨rfl,rfl⟩:=hc
 split at ah
 case h_2=> cases ah
 rename_i as bs fi hib
 split at ah
 case isFalse=> cases ah
 rename_i hl
 obtain ⟨rfl,rfl⟩:=qe ah
 obtain ⟨us,rfl,ym⟩:=(eV rfl).1 hx
 obtain ⟨ws,rfl,mz⟩:=(eV rfl).1 hy
 obtain rfl:=tc (.st t2 es) _ _ (by simpa only[V.flat] using fi) ym
 obtain rfl:=tc (.st t2 gs) _ _ (by simpa only[V.flat] using hib) mz
 obtain ⟨la,hla⟩:=mR hl.1
 obtain ⟨lb,hlb⟩:=mR hl.2
 have ka:=lf m T ks _ _ zN hla
 have kb:=lf m T ks _ _ zN hlb
 have hlen:ks.length=P.cellsOf T:=by
   cases m with
   | zero=> cases zN
   | succ m=>
     simp only[iB,hu] at zN
     split at zN
     case h_2=> cases zN
     split at zN
     case isFalse=> cases zN
     rename_i hc
     cases zN;exact hc
 have fa:∀us:List Value,db ks us≠none→(Value.agg us.toArray).formed P T=true:=fun us h=> by
   cases hq:db ks us with
   | none=> exact absurd hq h
   | some l=> simp[Value.formed,hu,k9 hq,hlen]
 obtain ⟨r,hr,Yw⟩:=run_equalIn_deep (P:=P) (10000 - m) m T hk w m m (.agg us.toArray) (.agg ws.toArray) la lb (fa us (by rw[hla];simp)) (fa ws (by rw[hlb];simp)) (by simpa[Value.cells] using ka) (by simpa[Value.cells] using kb)
 rw[show 10000 - m+m=10000 by omega] at hr
 have nz:r=fO us ws:=by
   rw[Bool.eq_iff_iff,Yw,nR hla hlb]
 subst nz
 have sY:=run_eqGuard_agg (P:=P) w op T X Y us.toArray ws.toArray hgd
 rcases DZ with ⟨rfl,rfl⟩ | ⟨rfl,rfl⟩
 ·refine aJ.same (u:= .bool (fO us ws)) ?_ (bx.2 ⟨rfl,rfl⟩) hs
  simp only[Sem.run_bind,sY,Result.andThen_ok,run_eql_struct,hr]
 ·refine aJ.same (u:= .bool !(fO us ws)) ?_ (bx.2 ⟨rfl,rfl⟩) hs
  simp only[Sem.run_bind,sY,Result.andThen_ok,run_neq_struct,hr]
theorem Qm (hL:L.OK) (hs:bc L c h w) {T el:TypeId} {n t:Nat} {g:Option Nat} (hu:P.underlying T=some (.array n el)) (ha:L.arr t=some (n,g)) {x:V} {ux:Value} (hx:RV L c x ux) {v:V} {h':Hp} (ah:uo h t g n x=some (v,h')):
 aJ L c w ((Instr.arrayAt T ux).run P w) v h':=by
 unfold uo at ah
 obtain ⟨⟨v1,h1⟩,hk,hq⟩:=Option.bind_eq_some_iff.1 ah
 clear ah
 simp only at hq
 split at hq
 case h_2=> cases hq
 rename_i full g' es
 split at hq
 case isFalse=> cases hq
 rename_i hc
 obtain ⟨rfl,CP,hn⟩:=hc
 cases hq
 obtain ⟨u,c1,w1,hr,hv,uv,hle,aR⟩:=yj hL (aJ.same (r:= .ok ux w) rfl hx hs) hk
 cases hr
 obtain ⟨a,k,rfl,h2,h3,h4,h5⟩:=cU.1 hv
 have cD:es≠[]:=by intro e;subst e;simp at hn;omega
 rcases h5 with h5 | ⟨b,off,cs,ty,fz,rfl,hz,fp⟩
 ·exact absurd h5 cD
 refine ⟨.pointer (some ⟨b,off,none⟩),c1,_,?_,fR.2 ⟨b,off,cs,ty,fz,rfl,hz,?_⟩,uv,hle,aR⟩
 ·have:¬es.length < n:=by omega
  simp[Instr.arrayAt,run_underlying hu,this]
 ·have cI:L.az (V.arr t (es.take n)).ty=n * L.az g':=by
    simp only[V.ty,cq.az];exact hL.ar _ _ _ ha
  rw[cI]
  simp only[RC]
  have hlen:(es.take n).length=n:=by simp;omega
  refine ⟨?_,g',by rw[hlen];exact ha,fun e he=> h4 e (List.mem_of_mem_take he)⟩
  have h6:=(eM hL fp (fun e he=>(h4 e he).1) n hn).1
  have:(nb cs off (es.length * L.az g')).take (n * L.az g')=nb cs off (n * L.az g'):=by
    unfold nb
    rw[List.take_take,Nat.min_eq_left (Nat.mul_le_mul_right _ hn)]
  rw[this] at h6;exact h6
end Go.Vm
namespace Go.Vm
def pt (P:Program) (fields:Array Field) (gs:List (Option Nat)) (i:Nat):Bool:=
 match fields[i]?,gs[i]? with
 | some f,some g=> decide (g=aC P f.type)&& nQ P f.type && f.offset==((gs.take i).map (ak P).az).sum
 | _,_=> false
theorem oE {P:Program} {fields:Array Field} {gs:List (Option Nat)} {i:Nat} (h:pt P fields gs i=true):
 ∃f g,fields[i]? =some f∧gs[i]? =some g∧TG P (ak P) f.type g∧f.offset=((gs.take i).map (ak P).az).sum:=by
 unfold pt at h
 split at h
 ·rename_i f g h1 h2
  simp only[Bool.and_eq_true,decide_eq_true_eq,beq_iff_eq] at h
  obtain ⟨⟨rfl,h3⟩,h4⟩:=h
  exact ⟨f,_,h1,h2,cB h3,h4⟩
 ·cases h
def zeroOf (P:Program) (obj:Nat→Bool) (t:TypeId):Option V:=
 match zv P (match aC P t with | some n=> obj n | none=> false) 20 t with
 | some z=> if Iv P t z && decide (z.ty=aC P t)&& z.ax then some z else none
 | none=> none
theorem cO {P:Program} {obj:Nat→Bool} {t:TypeId} {z:V} (h:zeroOf P obj t=some z):er P (ak P) t z∧z.ty=aC P t∧z.ax=true:=by
 unfold zeroOf at h
 split at h
 case h_2=> cases h
 split at h
 ·rename_i hc
  simp only[Option.some.injEq] at h
  subst h
  simp only[Bool.and_eq_true,decide_eq_true_eq] at hc
  exact ⟨Iw hc.1.1,hc.1.2,hc.2⟩
 ·cases h
def V8 :TypeDesc→Option Cl
 | .int _=> some .num
 | .string=> some .num
 | .bool=> some .tru
 | .pointer _=> some .ptr
 | _=> none
def IC (P:Program) (t:TypeId):Bool:=match P.underlying t with | some (.int .u8)=> true | _=> false
def ID (P:Program) (t:TypeId):Bool:=match P.underlying t with | some (.int .i32)=> true | _=> false
def YU :TypeDesc→Bool
 | .int _=> true
 | _=> false
def Ck :TypeDesc→Bool
 | .interface _=> false
 | _=> true
def AL (fields:Array Field) (i:Nat):TypeId:=match fields[i]? with | some f=> f.type | none=> 0
def Qn (b:Bool) (g:Option Nat) (z:List V) (p:List Nat):O:=bif b then .bsx g z p else .ja g z p
def D8 (b:Bool) (g:Option Nat) (n:Nat):O:=bif b then .apx g n else .app g n
theorem IE {b:Bool} {g g':Option Nat} {z z':List V} {p p':List Nat} (h:Qn b g z p= .ja g' z' p'):g=g'∧z=z'∧p=p':=by
 cases b <;> cases h
 exact ⟨rfl,rfl,rfl⟩
theorem IF (b:Bool) (g g':Option Nat) (n:Nat) (z:List V) (p:List Nat):(D8 b g n= .ja g' z p)=False:=by cases b <;> simp[D8]
theorem IG {cf:Nat→List V→Hp→Option (V×Hp)} {base:Nat} {h:Hp} {b:Bool} {g:Option Nat} {z:List V} {p:List Nat} {xs:List V} {r:V×Hp} (hr:aB cf base h (Qn b g z p) xs=some r):sK h g z p xs=some r∨nL h g z p xs=some r:=by
 cases b
 ·exact .inr hr
 ·exact .inl hr
theorem IH {cf:Nat→List V→Hp→Option (V×Hp)} {base:Nat} {h:Hp} {b:Bool} {g:Option Nat} {n:Nat} {x y:V} {r:V×Hp} (hr:aB cf base h (D8 b g n) [x,y]=some r):Nm base h g n x y=some r∨nF base h g n x y=some r:=by
 cases b
 ·exact .inr hr
 ·exact .inl hr
def D9 (P:Program) (kt:TypeId):Option (Option (Nat×IntKind)):=
 match P.underlying kt with
 | some (.int _)=> some none
 | some (.array n el)=> match P.underlying el,aC P kt with
   | some (.int k),some t=> if P.cellsOf el=1∧(ak P).arr t=some (n,none) then some (some (t,k)) else none
   | _,_=> none
 | _=> none
theorem rG {P:Program} {kt:TypeId} {kc:Option (Nat×IntKind)} (h:D9 P kt=some kc):u0 P (ak P) kt kc:=by
 unfold D9 at h
 split at h
 ·rename_i k hu;cases h;exact ⟨k,hu⟩
 ·rename_i n el hu
  split at h
  ·rename_i k t bP ht
   split at h
   ·rename_i hc;cases h;exact ⟨n,el,hu,bP,hc.1,hc.2⟩
   ·cases h
  ·cases h
 ·cases h
def rH (P:Program) (obj:Nat→Bool) (ty:TypeId):Op→Option (O×List X)
 | .move x=>(eu P ty x).map fun x=>(.mv,[x])
 | .assign x=>(eu P ty x).map fun x=>(.mv,[x])
 | .pick c a b=>(cu P [(ty,c),(ty,a),(ty,b)]).map fun xs=>(.pick,xs)
 | .alloc e=>(zeroOf P obj e).map fun z=>(.eJ (aC P e) z,[])
 | .box e x=>(eu P e x).map fun x=>(.box (aC P e),[x])
 | .build t parts=> match P.underlying t,aC P t,zeroOf P obj t with
   | some (.struct fields),some tag,some (.st tag' zero)=> match (ak P).fields tag with
     | some gs=> if tag'=tag∧fields.size=gs.length∧(List.range fields.size).all (pt P fields gs)=true then
         (cu P (parts.toList.map fun p=>(AL fields p.1,p.2))).map fun xs=>(.dF tag zero (parts.toList.map (·.1)),xs)
       else none
     | none=> none
   | some (.array n el),some tag,some (.arr tag' zero)=>
     if tag'=tag∧nQ P el=true∧(ak P).arr tag=some (n,aC P el) then
      (cu P (parts.toList.map fun p=>(el,p.2))).map fun xs=>(.jf tag zero (parts.toList.map (·.1)),xs)
     else none
   | _,_,_=> none
 | .buildSlice t n parts=> match P.underlying t with
   | some (.slice el)=> match zeroOf P obj el with
     | some z=> if nQ P el=true∧0 <(ak P).az (aC P el)∧n *(ak P).az (aC P el)≤16777216 then
         (cu P (parts.toList.map fun p=>(el,p.2))).map fun xs=>(Qn (obj (5000000+t)) (aC P el) (List.replicate n z) (parts.toList.map (·.1)),xs)
       else none
     | none=> none
   | _=> none
 | .load t x=> if nQ P t=true then (eu P t x).map fun x=>(.ld (aC P t),[x]) else none
 | .store t x y=> if nQ P t=true then (cu P [(t,x),(t,y)]).map fun xs=>(.bd (aC P t),xs) else none
 | .nilCheck x=>(eu P ty x).map fun x=>(.aN,[x])
 | .binOp op T x y T'=> match P.underlying T with
   | some (.array n el)=> match P.underlying el,aC P T,op with
     | some (.int k),some tag,.eql=> if nQ P el=true∧(ak P).arr tag=some (n,aC P el)∧P.eqGuardType P.depth T=false then (cu P [(T,x),(T',y)]).map fun xs=>(.zd tag k false,xs) else none
     | some (.int k),some tag,.neq=> if nQ P el=true∧(ak P).arr tag=some (n,aC P el)∧P.eqGuardType P.depth T=false then (cu P [(T,x),(T',y)]).map fun xs=>(.zd tag k true,xs) else none
     | _,_,_=> none
   | some (.struct fs)=> match iB P 8 T,aC P T,op with
     | some ks,some tag,.eql=> if P.keyTypeAt 8 T=true∧P.eqGuardType P.depth T=false then (cu P [(T,x),(T',y)]).map fun xs=>(.eqs tag ks false,xs) else none
     | some ks,some tag,.neq=> if P.keyTypeAt 8 T=true∧P.eqGuardType P.depth T=false then (cu P [(T,x),(T',y)]).map fun xs=>(.eqs tag ks true,xs) else none
     | _,_,_=> none
   | some d=> match V8 d with
     | some cl=>(cu P [(T,x),(T',y)]).map fun xs=>(.bin cl op,xs)
     | none=> none
   | none=> none
 | .unOp op T x=>(eu P T x).map fun x=>(.un op,[x])
 | .convert S T x=> match P.underlying S,P.underlying T with
   | some (.int _),some (.int k)=>(eu P S x).map fun x=>(.ig k,[x])
   | some (.slice el),some .string=> if IC P el=true then (eu P S x).map fun x=>(.Fv,[x]) else if ID P el=true then (eu P S x).map fun x=>(.r2s false,[x]) else none
   | some (.int .i32),some .string=>(eu P S x).map fun x=>(.r2s true,[x])
   | some .string,some (.slice el)=> if IC P el=true then (eu P S x).map fun x=>(.s2b true,[x]) else none
   | some (.slice el),some (.slice _)=> if S=T∧IC P el=true then (eu P S x).map fun x=>(.qX,[x]) else none
   | _,_=> none
 | .makeInterface T x=> if P.concrete T=true then (eu P T x).map fun x=>(.mki T,[x]) else none
 | .makeFunc (.func f) first captured=> if first.isEmpty then (cu P (captured.toList.map fun x=>(ty,x))).map fun xs=>(.mkf f,xs) else none
 | .makeSlice t l n=> match P.underlying t with
   | some (.slice el)=> match zeroOf P obj el with
     | some z=> if nQ P el=true∧P.bytesOf el≤4096 then (cu P [(ty,l),(ty,n)]).map fun xs=>(.mks (aC P el) z,xs) else none
     | none=> none
   | _=> none
 | .slice t x lo hi mx=> match P.underlying t with
   | some (.slice el)=> if nQ P el=true then (cu P ((t,x)::(lo.toList++hi.toList++mx.toList).map fun y=>(ty,y))).map fun xs=>(.jg (aC P el) lo.isSome hi.isSome mx.isSome,xs) else none
   | some .string=> if mx.isNone then (cu P ((t,x)::(lo.toList++hi.toList).map fun y=>(ty,y))).map fun xs=>(.sls lo.isSome hi.isSome,xs) else none
   | some (.array n el)=> match aC P t with
     | some tag=> if nQ P el=true∧(ak P).arr tag=some (n,aC P el)∧mx.isNone=true then (cu P ((t,x)::(lo.toList++hi.toList).map fun y=>(ty,y))).map fun xs=>(.qp tag (aC P el) lo.isSome hi.isSome,xs) else none
     | none=> none
   | _=> none
 | .fieldAddr T x i=> match P.underlying T,aC P T with
   | some (.struct fields),some tag=> match (ak P).fields tag with
     | some gs=> if pt P fields gs i=true∧P.cellsOf (AL fields i)≠0 then (eu P T x).map fun x=>(.fa tag i,[x]) else none
     | none=> none
   | _,_=> none
 | .field T x i=> match P.underlying T,aC P T with
   | some (.struct fields),some tag=> match (ak P).fields tag with
     | some gs=> if pt P fields gs i=true then (eu P T x).map fun x=>(.CK tag i,[x]) else none
     | none=> none
   | _,_=> none
 | .indexAddr T x i=> match P.underlying T with
   | some (.array n el)=> match aC P T with
     | some tag=> if nQ P el=true∧(ak P).arr tag=some (n,aC P el) then (cu P [(T,x),(ty,i)]).map fun xs=>(.jj tag,xs) else none
     | none=> none
   | some (.slice el)=> if nQ P el=true then (cu P [(T,x),(ty,i)]).map fun xs=>(.di (aC P el),xs) else none
   | _=> none
 | .index T x i=> match P.underlying T with
   | some (.array n el)=> match aC P T with
     | some tag=> if nQ P el=true∧(ak P).arr tag=some (n,aC P el) then (cu P [(T,x),(ty,i)]).map fun xs=>(.idx tag,xs) else none
     | none=> none
   | some .string=>(cu P [(T,x),(ty,i)]).map fun xs=>(.DN,xs)
   | _=> none
 | .range T x=> match P.underlying T with
   | some .string=>(eu P T x).map fun x=>(.rng,[x])
   | _=> none
 | .next x true=>(eu P ty x).map fun x=>(.nxt,[x])
 | .typeAssert x T A ok=> match P.underlying A,zeroOf P obj A with
   | some d,some z=> if Ck d=true then (eu P T x).map fun x=>(.tas A ok z,[x]) else none
   | _,_=> none
 | .panic _=> some (.bad,[])
 | .makeMap t none=> match P.underlying t with
   | some (.map _ _)=> some (.mkm,[])
   | _=> none
 | .lookup T x ix ok=> match P.underlying T with
   | some (.map kt et)=> match D9 P kt,zeroOf P obj et with
     | some kc,some z=>(cu P [(T,x),(kt,ix)]).map fun xs=>(.lku kc ok z,xs)
     | _,_=> none
   | _=> none
 | .mapUpdate T m k x=> match P.underlying T with
   | some (.map kt et)=> match D9 P kt with
     | some kc=>(cu P [(T,m),(kt,k),(et,x)]).map fun xs=>(.mup kc (aC P et),xs)
     | none=> none
   | _=> none
 | .insert T m k x=> match P.underlying T with
   | some (.map kt et)=> match D9 P kt with
     | some kc=>(cu P [(T,m),(kt,k),(et,x)]).map fun xs=>(.mup kc (aC P et),xs)
     | none=> none
   | _=> none
 | .mapEntry T m k=> match P.underlying T with
   | some (.map kt et)=> match D9 P kt,zeroOf P obj et with
     | some kc,some z=>(cu P [(T,m),(kt,k)]).map fun xs=>(.mpe kc z,xs)
     | _,_=> none
   | _=> none
 | .entryStore T m k x=> match P.underlying T with
   | some (.map kt et)=>(cu P [(T,m),(ty,k),(et,x)]).map fun xs=>(.ens (aC P et),xs)
   | _=> none
 | .sliceToArrayPointer T x=> match P.underlying T,aC P T with
   | some (.array n el),some tag=> if (ak P).arr tag=some (n,aC P el) then (eu P ty x).map fun x=>(.s2a tag (aC P el) n,[x]) else none
   | _,_=> none
 | .extract x i=>(eu P ty x).map fun x=>(.ext i,[x])
 | .call c=> match c.callee with
   | .value (.func f)=>(cu P (c.argTypes.toList.zip c.args.toList)).bind fun xs=> if c.argTypes.size=c.args.size then some (.call f,xs) else none
   | .value (.tmp n)=>(cu P (c.argTypes.toList.zip c.args.toList)).bind fun xs=> if c.argTypes.size=c.args.size then some (.lX,.t n::xs) else none
   | .builtin b=> match b,c.argTypes.toList,c.args.toList with
     | .len,[T],[x]=> match P.underlying T with
       | some (.slice _)=>(eu P T x).map fun x=>(.len,[x])
       | some (.map _ _)=>(eu P T x).map fun x=>(.mln,[x])
       | some .string=>(eu P T x).map fun x=>(.DO,[x])
       | _=> none
     | .append,[T,T'],[x,y]=> match P.underlying T with
       | some (.slice el)=> match zeroOf P obj el,P.underlying T' with
         | some z,some (.slice _)=> if nQ P el=true∧0 < P.bytesOf el then (cu P [(T,x),(T',y)]).map fun xs=>(D8 (obj (4000000+T)) (aC P el) (P.bytesOf el),xs) else none
         | some z,some (.int _)=> if nQ P el=true∧0 < P.bytesOf el then (cu P [(T,x),(T',y)]).map fun xs=>(.apz (aC P el) (P.bytesOf el) z,xs) else none
         | some z,some .string=> if nQ P el=true∧0 < P.bytesOf el then (cu P [(T,x),(T',y)]).map fun xs=>(D8 (obj (4000000+T)) (aC P el) (P.bytesOf el),xs) else none
         | _,_=> none
       | _=> none
     | .cap,[T],[x]=> match P.underlying T with
       | some (.slice _)=>(eu P T x).map fun x=>(.cap,[x])
       | _=> none
     | .copy,[T,T'],[x,y]=> match P.underlying T with
       | some (.slice el)=> if nQ P el=true then (cu P [(T,x),(T',y)]).map fun xs=>(.cpy (aC P el),xs) else none
       | _=> none
     | .clear,[T],[x]=> match P.underlying T with
       | some (.slice el)=> match zeroOf P obj el with
         | some z=> if nQ P el=true then (eu P T x).map fun x=>(.clr (aC P el) z,[x]) else none
         | none=> none
       | _=> none
     | .min,[T,T'],[x,y]=>(cu P [(T,x),(T',y)]).map fun xs=>(.min,xs)
     | .max,[T,T'],[x,y]=>(cu P [(T,x),(T',y)]).map fun xs=>(.max,xs)
     | _,_,_=> none
   | _=> none
 | _=> none
end Go.Vm
namespace Go.Vm
def eQ (P:Program) (L:cq) (c:Ctx) (w:World) (f:Nat) (us:List Value) (v:V) (h':Hp):Prop:=
 Calls P f us.toArray w fun e w'=>∃u c',e= .returned u∧RV L c' v u∧bc L c' h' w'∧c.le c'∧St w w'
def pv (P:Program) (L:cq) (c:Ctx) (w:World) (r:Result Next) (v:V) (h':Hp):Prop:=
 (∃u c' w',(r= .ok (.value u) w'∨(r= .ok .skip w'∧u=undef))∧RV L c' v u∧bc L c' h' w'∧c.le c'∧St w w')∨
 (∃f us,r= .ok (.enter f us.toArray) w∧eQ P L c w f us v h')
def cy (P:Program) (L:cq) (cf:Nat→List V→Hp→Option (V×Hp)):Prop:=
 ∀(f:Nat) (vs:List V) (h:Hp) (v:V) (h':Hp),cf f vs h=some (v,h')→(∃fn,P.funcs[f]? =some fn∧fn.body.isSome=true∧(fn.name== "runtime.NumGoroutine")=false)∧
  ∀(c:Ctx) (w:World) (us:List Value),fC L c vs us→bc L c h w→eQ P L c w f us v h'
variable {P : Program} {obj : Nat → Bool} {c : Ctx} {h : Hp} {w : World}
theorem q7z {L:cq} {r:Result Value} {v:V} {h':Hp} (hd:aJ L c w r v h'):pv P L c w (r.andThen fun a w'=> .ok (Next.value a) w') v h':=by
 obtain ⟨u,c',w',rfl,h1,h2,h3,h4⟩:=hd
 exact Or.inl ⟨u,c',w',Or.inl rfl,h1,h2,h3,h4⟩
theorem de {L:cq} {vs:List V} {u u':Value} (h:fC L c vs [u,u']):∃v v',vs=[v,v']∧RV L c v u∧RV L c v' u':=by
 match vs,h with
 | [v],h=> exact h.2.elim
 | [v,v'],h=> exact ⟨v,v',rfl,h.1,h.2.1⟩
 | _::_::_::_,h=> exact h.2.2.elim
theorem nj {L:cq} {vs:List V} {u u' u'':Value} (h:fC L c vs [u,u',u'']):∃v v' v'',vs=[v,v',v'']∧RV L c v u∧RV L c v' u'∧RV L c v'' u'':=by
 match vs,h with
 | [v],h=> exact h.2.elim
 | [v,v'],h=> exact h.2.2.elim
 | [v,v',v''],h=> exact ⟨v,v',v'',rfl,h.1,h.2.1,h.2.2.1⟩
 | _::_::_::_::_,h=> exact h.2.2.2.elim
theorem td {L:cq} {vs:List V} {u:Value} {us:List Value} (h:fC L c vs (u::us)):∃v vs',vs=v::vs'∧RV L c v u∧fC L c vs' us:=by
 match vs,h with
 | v::vs,h=> exact ⟨v,vs,rfl,h.1,h.2⟩
theorem zip_map {α β γ:Type} (l:List (α×β)) (f:β→γ):(l.map (·.1)).zip (l.map fun p=> f p.2)=l.map fun p=>(p.1,f p.2):=by
 induction l with
 | nil=> rfl
 | cons x l ih=> simp[ih]
def O.calls :O→Bool
 | .call _=> true
 | .lX=> true
 | _=> false
section
variable (hL : (ak P).OK) {cf : Nat → List V → Hp → Option (V × Hp)} {base : Nat} {fr : Fr} {a : Act} (hf : RF (ak P) c fr a) (hs : bc (ak P) c h w) {o : Oper} {g : O} {xs : List X} {v : V} {h' : Hp}
include hL hf hs
theorem Qo (hc:rH P obj o.type o.op=some (g,xs)) (ah:aB cf base h g (xs.map (X.ev fr))=some (v,h')) (hk:match o.op with | .move _ | .assign _ | .pick .. | .alloc _ | .box .. | .load .. | .store .. | .nilCheck _ | .unOp .. | .makeInterface .. | .extract .. | .range .. | .next .. | .typeAssert .. | .makeFunc .. => True | _=> False):
 pv P (ak P) c w ((execOp a.eval o).run P w) v h':=by
 obtain ⟨dst,op,ty,pos,after,guard⟩:=o
 simp only at hc hk ⊢
 cases op <;> simp only at hk <;> simp only[rH] at hc
 case move x=>
   obtain ⟨y,hy,he⟩:=Option.map_eq_some_iff.1 hc
   simp only[Prod.mk.injEq] at he
   obtain ⟨rfl,rfl⟩:=he
   simp only[List.map_cons,List.map_nil,aB,Option.some.injEq,Prod.mk.injEq] at ah
   obtain ⟨rfl,rfl⟩:=ah
   exact Or.inl ⟨a.eval x,c,w,Or.inl rfl,q23z hf hy,hs,Ctx.le_refl c,St.refl w⟩
 case assign x=>
   obtain ⟨y,hy,he⟩:=Option.map_eq_some_iff.1 hc
   simp only[Prod.mk.injEq] at he
   obtain ⟨rfl,rfl⟩:=he
   simp only[List.map_cons,List.map_nil,aB,Option.some.injEq,Prod.mk.injEq] at ah
   obtain ⟨rfl,rfl⟩:=ah
   exact Or.inl ⟨a.eval x,c,w,Or.inl rfl,q23z hf hy,hs,Ctx.le_refl c,St.refl w⟩
 case pick x y z=>
   obtain ⟨ys,hy,he⟩:=Option.map_eq_some_iff.1 hc
   simp only[Prod.mk.injEq] at he
   obtain ⟨rfl,rfl⟩:=he
   have hv:=q12z hf hy
   obtain ⟨v1,v2,v3,e,h1,h2,h3⟩:=nj hv
   rw[e] at ah
   simp only[aB] at ah
   unfold sE at ah
   split at ah
   case h_2=> cases ah
   rename_i b
   simp only[Option.some.injEq,Prod.mk.injEq] at ah
   obtain ⟨rfl,rfl⟩:=ah
   obtain ⟨hb,_⟩:=bx.1 h1
   refine Or.inl ⟨if b then a.eval y else a.eval z,c,w,Or.inl ?_,?_,hs,Ctx.le_refl c,St.refl w⟩
   ·simp only at hb
    simp[execOp,hb,asBool]
   ·cases b
    ·exact h3
    ·exact h2
 case alloc e=>
   obtain ⟨z,hz,he⟩:=Option.map_eq_some_iff.1 hc
   simp only[Prod.mk.injEq] at he
   obtain ⟨rfl,rfl⟩:=he
   simp only[List.map_nil,aB] at ah
   have:=q7z (P:=P) (PK (P:=P) (T:=e) hL hs (cO hz).1 ah)
   simpa only[execOp,Sem.run_bind,Sem.run_pure] using this
 case box e x=>
   obtain ⟨y,hy,he⟩:=Option.map_eq_some_iff.1 hc
   simp only[Prod.mk.injEq] at he
   obtain ⟨rfl,rfl⟩:=he
   simp only[List.map_cons,List.map_nil,aB] at ah
   have:=q7z (P:=P) (Ir (P:=P) (T:=e) hL hs (q23z hf hy) ah)
   simpa only[execOp,Sem.run_bind,Sem.run_pure] using this
 case load t x=>
   split at hc
   case isFalse=> cases hc
   rename_i ht
   obtain ⟨y,hy,he⟩:=Option.map_eq_some_iff.1 hc
   simp only[Prod.mk.injEq] at he
   obtain ⟨rfl,rfl⟩:=he
   simp only[List.map_cons,List.map_nil,aB] at ah
   have:=q7z (P:=P) (No (P:=P) hL hs (cB ht) (q23z hf hy) ah)
   simpa only[execOp,Sem.run_bind,Sem.run_pure] using this
 case store t x y=>
   split at hc
   case isFalse=> cases hc
   rename_i ht
   obtain ⟨ys,hy,he⟩:=Option.map_eq_some_iff.1 hc
   simp only[Prod.mk.injEq] at he
   obtain ⟨rfl,rfl⟩:=he
   obtain ⟨v1,v2,e,h1,h2⟩:=de (q12z hf hy)
   rw[e] at ah
   simp only[aB] at ah
   obtain ⟨w',h3,rfl,h4,h5⟩:=PJ (P:=P) hL hs (cB ht) h1 h2 ah
   refine Or.inl ⟨undef,c,w',Or.inr ⟨?_,rfl⟩,cx.2 ⟨[],rfl,trivial⟩,h4,Ctx.le_refl c,h5⟩
   simp only at h3
   simp[execOp,h3]
 case nilCheck x=>
   obtain ⟨y,hy,he⟩:=Option.map_eq_some_iff.1 hc
   simp only[Prod.mk.injEq] at he
   obtain ⟨rfl,rfl⟩:=he
   simp only[List.map_cons,List.map_nil,aB] at ah
   have hv:=q23z hf hy
   unfold xS at ah
   split at ah
   ·rename_i id path aw heq
    simp only[Option.some.injEq,Prod.mk.injEq] at ah
    obtain ⟨rfl,rfl⟩:=ah
    rw[heq] at hv ⊢
    obtain ⟨p,hp,_⟩:=sR.1 hv
    refine Or.inl ⟨a.eval x,c,w,Or.inl ?_,hv,hs,Ctx.le_refl c,St.refl w⟩
    simp[execOp,hp]
   ·rename_i y' heq
    simp only[Option.some.injEq,Prod.mk.injEq] at ah
    obtain ⟨rfl,rfl⟩:=ah
    rw[heq] at hv ⊢
    obtain ⟨_,_,_,_,_,hp,_⟩:=fR.1 hv
    refine Or.inl ⟨a.eval x,c,w,Or.inl ?_,hv,hs,Ctx.le_refl c,St.refl w⟩
    simp[execOp,hp]
   ·rename_i f cap heq
    simp only[Option.some.injEq,Prod.mk.injEq] at ah
    obtain ⟨rfl,rfl⟩:=ah
    rw[heq] at hv ⊢
    obtain ⟨ws,hp,_⟩:=Cj.1 hv
    refine Or.inl ⟨a.eval x,c,w,Or.inl ?_,hv,hs,Ctx.le_refl c,St.refl w⟩
    simp[execOp,hp]
   ·cases ah
 case unOp op T x=>
   obtain ⟨y,hy,he⟩:=Option.map_eq_some_iff.1 hc
   simp only[Prod.mk.injEq] at he
   obtain ⟨rfl,rfl⟩:=he
   simp only[List.map_cons,List.map_nil,aB] at ah
   have:=q7z (P:=P) (V6 (P:=P) hs (q23z hf hy) ah)
   simpa only[execOp,Sem.run_bind,Sem.run_pure] using this
 case makeInterface T x=>
   split at hc
   case isFalse=> cases hc
   rename_i ht
   obtain ⟨y,hy,he⟩:=Option.map_eq_some_iff.1 hc
   simp only[Prod.mk.injEq] at he
   obtain ⟨rfl,rfl⟩:=he
   simp only[List.map_cons,List.map_nil,aB,Option.some.injEq,Prod.mk.injEq] at ah
   obtain ⟨rfl,rfl⟩:=ah
   have:=q7z (P:=P) (Qb (P:=P) hs ht (q23z hf hy))
   simpa only[execOp,Sem.run_bind,Sem.run_pure] using this
 case extract x i=>
   obtain ⟨y,hy,he⟩:=Option.map_eq_some_iff.1 hc
   simp only[Prod.mk.injEq] at he
   obtain ⟨rfl,rfl⟩:=he
   simp only[List.map_cons,List.map_nil,aB] at ah
   have:=q7z (P:=P) (P8 (P:=P) hs (q23z hf hy) ah)
   simpa only[execOp,Sem.run_bind,Sem.run_pure] using this
 case range T x=>
   split at hc
   case h_2=> cases hc
   rename_i hT
   obtain ⟨y,hy,he⟩:=Option.map_eq_some_iff.1 hc
   simp only[Prod.mk.injEq] at he
   obtain ⟨rfl,rfl⟩:=he
   simp only[List.map_cons,List.map_nil,aB] at ah
   have:=q7z (P:=P) (Qc (P:=P) hs hT (q23z hf hy) ah)
   simpa only[execOp,Sem.run_bind,Sem.run_pure] using this
 case next x b=>
   cases b with
   | false=> simp at hc
   | true=>
   simp only at hc
   obtain ⟨y,hy,he⟩:=Option.map_eq_some_iff.1 hc
   simp only[Prod.mk.injEq] at he
   obtain ⟨rfl,rfl⟩:=he
   simp only[List.map_cons,List.map_nil,aB] at ah
   have:=q7z (P:=P) (Qd (P:=P) hs (ty:=ty) (q23z hf hy) ah)
   simpa only[execOp,Sem.run_bind,Sem.run_pure] using this
 case typeAssert x T A ok=>
   split at hc
   case h_2=> cases hc
   rename_i d z hd hz
   split at hc
   case isFalse=> cases hc
   rename_i Ea
   obtain ⟨y,hy,he⟩:=Option.map_eq_some_iff.1 hc
   simp only[Prod.mk.injEq] at he
   obtain ⟨rfl,rfl⟩:=he
   simp only[List.map_cons,List.map_nil,aB] at ah
   have:=q7z (P:=P) (P7 (P:=P) hs (XT:=T) (fun _=>(cO hz).1) ⟨d,hd,by cases d <;> simp_all [Ck]⟩ (q23z hf hy) ah)
   simpa only[execOp,Sem.run_bind,Sem.run_pure] using this
 case makeFunc fn first captured=>
   cases fn <;> simp only at hc <;> try (cases hc;done)
   rename_i f
   split at hc
   case isFalse=> cases hc
   rename_i Qp
   obtain ⟨ys,hy,he⟩:=Option.map_eq_some_iff.1 hc
   simp only[Prod.mk.injEq] at he
   obtain ⟨rfl,rfl⟩:=he
   simp only[aB,Option.some.injEq,Prod.mk.injEq] at ah
   obtain ⟨rfl,rfl⟩:=ah
   have hv:=q12z hf hy
   have hfe:first= #[]:=by simpa using Qp
   subst hfe
   refine Or.inl ⟨.func (.func f) #[] (captured.map a.eval),c,w,Or.inl ?_,Cj.2 ⟨captured.toList.map a.eval,?_,?_⟩,hs,Ctx.le_refl c,St.refl w⟩
   ·simp[execOp,Instr.makeFunc]
   ·congr 1
    apply Array.ext';simp
   ·simpa[List.map_map,Function.comp_def] using hv
end
end Go.Vm
namespace Go.Vm
variable {P : Program} {obj : Nat → Bool} {c : Ctx} {h : Hp} {w : World}
theorem mS (parts:Array (Nat×Operand)) (ρ:Operand→Value):parts.map (fun p=>(p.1,ρ p.2))=((parts.toList.map (·.1)).zip (parts.toList.map fun p=> ρ p.2)).toArray:=by
 apply Array.ext'
 rw[zip_map]
 simp
theorem II {P:Program} {el:TypeId} (h:IC P el=true):P.underlying el=some (.int .u8):=by
 unfold IC at h
 split at h
 ·assumption
 ·cases h
theorem Qq {P:Program} {el:TypeId} (h:ID P el=true):P.underlying el=some (.int .i32):=by
 unfold ID at h
 split at h
 ·assumption
 ·cases h
section
variable (hL : (ak P).OK) {cf : Nat → List V → Hp → Option (V × Hp)} {base : Nat} {fr : Fr} {a : Act} (hf : RF (ak P) c fr a) (hs : bc (ak P) c h w) {o : Oper} {g : O} {xs : List X} {v : V} {h' : Hp}
include hL hf hs
theorem Qr (hc:rH P obj o.type o.op=some (g,xs)) (ah:aB cf base h g (xs.map (X.ev fr))=some (v,h')) (hk:match o.op with | .build .. | .buildSlice .. | .binOp .. | .convert .. | .makeSlice .. => True | _=> False):
 pv P (ak P) c w ((execOp a.eval o).run P w) v h':=by
 obtain ⟨dst,op,ty,pos,after,guard⟩:=o
 simp only at hc hk ⊢
 cases op <;> simp only at hk <;> simp only[rH] at hc
 case build t parts=>
   split at hc
   ·rename_i fields tag tag' zero hu ht hz
    split at hc
    case h_2=> cases hc
    rename_i gs ij
    split at hc
    case isFalse=> cases hc
    rename_i aT
    obtain ⟨rfl,cI,cJ⟩:=aT
    obtain ⟨ys,hy,he⟩:=Option.map_eq_some_iff.1 hc
    simp only[Prod.mk.injEq] at he
    obtain ⟨rfl,rfl⟩:=he
    have hv:=q12z hf hy
    rw[List.map_map] at hv
    simp only[aB] at ah
    have rb:=(cO hz).1
    have:=q7z (P:=P) (Ln (P:=P) (T:=t) hL hs hu ij (fun i f hi=> by
      have bW:i < fields.size:=(Array.getElem?_eq_some_iff.1 hi).1
      obtain ⟨f',g,h1,h2,h3,h4⟩:=oE (List.all_eq_true.1 cJ i (List.mem_range.2 bW))
      rw[hi] at h1;cases h1
      exact ⟨g,h2,h3,h4⟩) cI rb (us:=parts.toList.map fun p=> a.eval p.2) (by simpa using hv.length) hv.get ah)
    rw[←mS] at this
    simpa only[execOp,Sem.run_bind,Sem.run_pure] using this
   ·rename_i n el tag tag' zero hu ht hz
    split at hc
    case isFalse=> cases hc
    rename_i aT
    obtain ⟨rfl,je,lS⟩:=aT
    obtain ⟨ys,hy,he⟩:=Option.map_eq_some_iff.1 hc
    simp only[Prod.mk.injEq] at he
    obtain ⟨rfl,rfl⟩:=he
    have hv:=q12z hf hy
    rw[List.map_map] at hv
    simp only[aB] at ah
    have:=q7z (P:=P) (Lo (P:=P) (T:=t) hL hs hu (cB je) lS (cO hz).1 (us:=parts.toList.map fun p=> a.eval p.2) (by simpa using hv.length) hv.get ah)
    rw[←mS] at this
    simpa only[execOp,Sem.run_bind,Sem.run_pure] using this
   ·cases hc
 case buildSlice t n parts=>
   split at hc
   case h_2=> cases hc
   rename_i el hu
   split at hc
   case h_2=> cases hc
   rename_i z hz
   split at hc
   case isFalse=> cases hc
   rename_i aT
   obtain ⟨je,gq,hn⟩:=aT
   obtain ⟨ys,hy,he⟩:=Option.map_eq_some_iff.1 hc
   simp only[Prod.mk.injEq] at he
   obtain ⟨rfl,rfl⟩:=he
   have hv:=q12z hf hy
   rw[List.map_map] at hv
   obtain ⟨rb,iT,gZ⟩:=cO hz
   rcases IG ah with ah | ah
   ·have:=q7z (P:=P) (PN (P:=P) (T:=t) hL hs hu (cB je) gq rb iT gZ hn (us:=parts.toList.map fun p=> a.eval p.2) (by simpa using hv.length) hv.get ah)
    rw[←mS] at this
    simpa only[execOp,Sem.run_bind,Sem.run_pure] using this
   ·have:=q7z (P:=P) (PM (P:=P) (T:=t) hL hs hu (cB je) gq rb iT gZ hn (us:=parts.toList.map fun p=> a.eval p.2) (by simpa using hv.length) hv.get ah)
    rw[←mS] at this
    simpa only[execOp,Sem.run_bind,Sem.run_pure] using this
 case binOp op T x y T'=>
   split at hc
   ·rename_i n el hu
    split at hc
    ·rename_i k tag bP ht
     split at hc
     case isFalse=> cases hc
     rename_i aT
     obtain ⟨je,lS,hgd⟩:=aT
     obtain ⟨ys,hy,he⟩:=Option.map_eq_some_iff.1 hc
     simp only[Prod.mk.injEq] at he
     obtain ⟨rfl,rfl⟩:=he
     obtain ⟨v1,v2,e,h1,h2⟩:=de (q12z hf hy)
     rw[e] at ah
     simp only[aB] at ah
     have cH:(ak P).az (aC P el)=1:=by simp[aC,bP,cq.az]
     have:=q7z (P:=P) (Ix (P:=P) hL hs hu bP (cB je) cH lS hgd (Or.inl ⟨rfl,rfl⟩) (X:=x) (Y:=y) h1 h2 ah)
     simpa only[execOp,Sem.run_bind,Sem.run_pure] using this
    ·rename_i k tag bP ht
     split at hc
     case isFalse=> cases hc
     rename_i aT
     obtain ⟨je,lS,hgd⟩:=aT
     obtain ⟨ys,hy,he⟩:=Option.map_eq_some_iff.1 hc
     simp only[Prod.mk.injEq] at he
     obtain ⟨rfl,rfl⟩:=he
     obtain ⟨v1,v2,e,h1,h2⟩:=de (q12z hf hy)
     rw[e] at ah
     simp only[aB] at ah
     have cH:(ak P).az (aC P el)=1:=by simp[aC,bP,cq.az]
     have:=q7z (P:=P) (Ix (P:=P) hL hs hu bP (cB je) cH lS hgd (Or.inr ⟨rfl,rfl⟩) (X:=x) (Y:=y) h1 h2 ah)
     simpa only[execOp,Sem.run_bind,Sem.run_pure] using this
    ·cases hc
   ·rename_i fs hu
    split at hc
    ·rename_i ks tag zN ht
     split at hc
     case isFalse=> cases hc
     rename_i aT
     obtain ⟨ys,hy,he⟩:=Option.map_eq_some_iff.1 hc
     simp only[Prod.mk.injEq] at he
     obtain ⟨rfl,rfl⟩:=he
     obtain ⟨v1,v2,e,h1,h2⟩:=de (q12z hf hy)
     rw[e] at ah
     simp only[aB] at ah
     have:=q7z (P:=P) (IB (P:=P) hs (by omega) hu aT.1 zN aT.2 (Or.inl ⟨rfl,rfl⟩) (X:=x) (Y:=y) h1 h2 ah)
     simpa only[execOp,Sem.run_bind,Sem.run_pure] using this
    ·rename_i ks tag zN ht
     split at hc
     case isFalse=> cases hc
     rename_i aT
     obtain ⟨ys,hy,he⟩:=Option.map_eq_some_iff.1 hc
     simp only[Prod.mk.injEq] at he
     obtain ⟨rfl,rfl⟩:=he
     obtain ⟨v1,v2,e,h1,h2⟩:=de (q12z hf hy)
     rw[e] at ah
     simp only[aB] at ah
     have:=q7z (P:=P) (IB (P:=P) hs (by omega) hu aT.1 zN aT.2 (Or.inr ⟨rfl,rfl⟩) (X:=x) (Y:=y) h1 h2 ah)
     simpa only[execOp,Sem.run_bind,Sem.run_pure] using this
    ·cases hc
   ·rename_i d hd hd2 hu
    split at hc
    case h_2=> cases hc
    rename_i cl nq
    obtain ⟨ys,hy,he⟩:=Option.map_eq_some_iff.1 hc
    simp only[Prod.mk.injEq] at he
    obtain ⟨rfl,rfl⟩:=he
    obtain ⟨v1,v2,e,h1,h2⟩:=de (q12z hf hy)
    rw[e] at ah
    simp only[aB] at ah
    have:=q7z (P:=P) (P6 (P:=P) hs (T:=T) (cl:=cl) (X:=x) (Y:=y) h1 h2 (by
      unfold V8 at nq
      split at nq <;> first
        | (simp only[Option.some.injEq] at nq;subst nq;first | trivial | exact hu | exact ⟨_,hu⟩)
        | cases nq) ah)
    simpa only[execOp,Sem.run_bind,Sem.run_pure] using this
   ·cases hc
 case convert S T x=>
   split at hc
   ·rename_i k' k hS hT
    obtain ⟨y,hy,he⟩:=Option.map_eq_some_iff.1 hc
    simp only[Prod.mk.injEq] at he
    obtain ⟨rfl,rfl⟩:=he
    simp only[List.map_cons,List.map_nil,aB] at ah
    have:=q7z (P:=P) (P1 (P:=P) hs hT ⟨_,hS⟩ (q23z hf hy) ah)
    simpa only[execOp,Sem.run_bind,Sem.run_pure] using this
   ·rename_i el hS hT
    split at hc
    ·rename_i wb
     obtain ⟨y,hy,he⟩:=Option.map_eq_some_iff.1 hc
     simp only[Prod.mk.injEq] at he
     obtain ⟨rfl,rfl⟩:=he
     simp only[List.map_cons,List.map_nil,aB] at ah
     have:=q7z (P:=P) (P2 (P:=P) hL hs hS (II wb) hT (q23z hf hy) ah)
     simpa only[execOp,Sem.run_bind,Sem.run_pure] using this
    ·split at hc
     case isFalse=> cases hc
     rename_i wb
     obtain ⟨y,hy,he⟩:=Option.map_eq_some_iff.1 hc
     simp only[Prod.mk.injEq] at he
     obtain ⟨rfl,rfl⟩:=he
     simp only[List.map_cons,List.map_nil,aB] at ah
     have:=q7z (P:=P) (P3 (P:=P) hL hs hS (Qq wb) hT (q23z hf hy) ah)
     simpa only[execOp,Sem.run_bind,Sem.run_pure] using this
   ·rename_i hS hT
    obtain ⟨y,hy,he⟩:=Option.map_eq_some_iff.1 hc
    simp only[Prod.mk.injEq] at he
    obtain ⟨rfl,rfl⟩:=he
    simp only[List.map_cons,List.map_nil,aB] at ah
    have:=q7z (P:=P) (P4 (P:=P) hs hS hT (q23z hf hy) ah)
    simpa only[execOp,Sem.run_bind,Sem.run_pure] using this
   ·rename_i el hS hT
    split at hc
    case isFalse=> cases hc
    rename_i wb
    obtain ⟨y,hy,he⟩:=Option.map_eq_some_iff.1 hc
    simp only[Prod.mk.injEq] at he
    obtain ⟨rfl,rfl⟩:=he
    simp only[List.map_cons,List.map_nil,aB] at ah
    have:=q7z (P:=P) (P5 (P:=P) hL hs hS hT (II wb) (q23z hf hy) ah)
    simpa only[execOp,Sem.run_bind,Sem.run_pure] using this
   ·rename_i el el' hS hT
    split at hc
    case isFalse=> cases hc
    rename_i aT
    obtain ⟨rfl,wb⟩:=aT
    obtain ⟨y,hy,he⟩:=Option.map_eq_some_iff.1 hc
    simp only[Prod.mk.injEq] at he
    obtain ⟨rfl,rfl⟩:=he
    simp only[List.map_cons,List.map_nil,aB] at ah
    have:=q7z (P:=P) (P0 (P:=P) hL hs hS (II wb) (q23z hf hy) ah)
    simpa only[execOp,Sem.run_bind,Sem.run_pure] using this
   ·cases hc
 case makeSlice t l n=>
   split at hc
   case h_2=> cases hc
   rename_i el hu
   split at hc
   case h_2=> cases hc
   rename_i z hz
   split at hc
   case isFalse=> cases hc
   rename_i aT
   obtain ⟨je,mX⟩:=aT
   obtain ⟨ys,hy,he⟩:=Option.map_eq_some_iff.1 hc
   simp only[Prod.mk.injEq] at he
   obtain ⟨rfl,rfl⟩:=he
   obtain ⟨v1,v2,e,h1,h2⟩:=de (q12z hf hy)
   rw[e] at ah
   simp only[aB] at ah
   obtain ⟨rb,iT,gZ⟩:=cO hz
   have:=q7z (P:=P) (PQ (P:=P) hL hs hu (cB je) mX rb iT gZ h1 h2 ah)
   simpa only[execOp,Sem.run_bind,Sem.run_pure] using this
theorem Qs (hc:rH P obj o.type o.op=some (g,xs)) (ah:aB cf base h g (xs.map (X.ev fr))=some (v,h')) (hk:match o.op with | .slice .. | .fieldAddr .. | .field .. | .indexAddr .. | .index .. => True | _=> False):
 pv P (ak P) c w ((execOp a.eval o).run P w) v h':=by
 obtain ⟨dst,op,ty,pos,after,guard⟩:=o
 simp only at hc hk ⊢
 have optl:∀(q:Option Operand),(q.toList.map a.eval)=(q.map a.eval).toList:=fun q=> by cases q <;> rfl
 have opts:∀(q:Option Operand),q.isSome=(q.map a.eval).isSome:=fun q=> by cases q <;> rfl
 cases op <;> simp only at hk <;> simp only[rH] at hc
 case slice t x lo hi mx=>
   split at hc
   ·rename_i el hu
    split at hc
    case isFalse=> cases hc
    rename_i je
    obtain ⟨ys,hy,he⟩:=Option.map_eq_some_iff.1 hc
    simp only[Prod.mk.injEq] at he
    obtain ⟨rfl,rfl⟩:=he
    have hv:=q12z hf hy
    simp only[List.map_cons,List.map_map] at hv
    obtain ⟨v1,vs,e,h1,h2⟩:=td hv
    rw[e] at ah
    simp only[aB] at ah
    rw[opts lo,opts hi,opts mx] at ah
    have h2':fC (ak P) c vs ((lo.map a.eval).toList++(hi.map a.eval).toList++(mx.map a.eval).toList):=by
      have:(List.map ((fun p=> a.eval p.2)∘ fun y=>((ty,y):TypeId×Operand)) (lo.toList++hi.toList++mx.toList))=(lo.map a.eval).toList++(hi.map a.eval).toList++(mx.map a.eval).toList:=by
        rw[←optl,←optl,←optl,←List.map_append,←List.map_append];rfl
      rw[←this];exact h2
    have:=q7z (P:=P) (PU (P:=P) hL hs hu (cB je) h1 h2' ah)
    simpa only[execOp,Sem.run_bind,Sem.run_pure] using this
   ·rename_i hu
    split at hc
    case isFalse=> cases hc
    rename_i hmx
    obtain rfl:mx=none:=by simpa using hmx
    obtain ⟨ys,hy,he⟩:=Option.map_eq_some_iff.1 hc
    simp only[Prod.mk.injEq] at he
    obtain ⟨rfl,rfl⟩:=he
    have hv:=q12z hf hy
    simp only[List.map_cons,List.map_map] at hv
    obtain ⟨v1,vs,e,h1,h2⟩:=td hv
    rw[e] at ah
    simp only[aB] at ah
    rw[opts lo,opts hi] at ah
    have h2':fC (ak P) c vs ((lo.map a.eval).toList++(hi.map a.eval).toList):=by
      have:(List.map ((fun p=> a.eval p.2)∘ fun y=>((ty,y):TypeId×Operand)) (lo.toList++hi.toList))=(lo.map a.eval).toList++(hi.map a.eval).toList:=by
        rw[←optl,←optl,←List.map_append];rfl
      rw[←this];exact h2
    have:=q7z (P:=P) (PW (P:=P) hs hu h1 h2' ah)
    simpa only[execOp,Sem.run_bind,Sem.run_pure,Option.map_none] using this
   ·rename_i n el hu
    split at hc
    case h_2=> cases hc
    rename_i tag ht
    split at hc
    case isFalse=> cases hc
    rename_i aT
    obtain ⟨je,lS,hmx⟩:=aT
    obtain rfl:mx=none:=by simpa using hmx
    obtain ⟨ys,hy,he⟩:=Option.map_eq_some_iff.1 hc
    simp only[Prod.mk.injEq] at he
    obtain ⟨rfl,rfl⟩:=he
    have hv:=q12z hf hy
    simp only[List.map_cons,List.map_map] at hv
    obtain ⟨v1,vs,e,h1,h2⟩:=td hv
    rw[e] at ah
    simp only[aB] at ah
    rw[opts lo,opts hi] at ah
    have h2':fC (ak P) c vs ((lo.map a.eval).toList++(hi.map a.eval).toList):=by
      have:(List.map ((fun p=> a.eval p.2)∘ fun y=>((ty,y):TypeId×Operand)) (lo.toList++hi.toList))=(lo.map a.eval).toList++(hi.map a.eval).toList:=by
        rw[←optl,←optl,←List.map_append];rfl
      rw[←this];exact h2
    have:=q7z (P:=P) (PV (P:=P) hL hs hu (cB je) lS h1 h2' ah)
    simpa only[execOp,Sem.run_bind,Sem.run_pure,Option.map_none] using this
   ·cases hc
 case fieldAddr T x i=>
   split at hc
   case h_2=> cases hc
   rename_i fields tag hu ht
   split at hc
   case h_2=> cases hc
   rename_i gs ij
   split at hc
   case isFalse=> cases hc
   rename_i aT
   obtain ⟨pW,cD⟩:=aT
   obtain ⟨y,hy,he⟩:=Option.map_eq_some_iff.1 hc
   simp only[Prod.mk.injEq] at he
   obtain ⟨rfl,rfl⟩:=he
   simp only[List.map_cons,List.map_nil,aB] at ah
   obtain ⟨f,g,h1,h2,h3,h4⟩:=oE pW
   have:=q7z (P:=P) (VW (P:=P) hL hs hu h1 (by simpa[AL,h1] using cD) ij h4 (q23z hf hy) ah)
   simpa only[execOp,Sem.run_bind,Sem.run_pure] using this
 case field T x i=>
   split at hc
   case h_2=> cases hc
   rename_i fields tag hu ht
   split at hc
   case h_2=> cases hc
   rename_i gs ij
   split at hc
   case isFalse=> cases hc
   rename_i pW
   obtain ⟨y,hy,he⟩:=Option.map_eq_some_iff.1 hc
   simp only[Prod.mk.injEq] at he
   obtain ⟨rfl,rfl⟩:=he
   simp only[List.map_cons,List.map_nil,aB] at ah
   obtain ⟨f,g,h1,h2,h3,h4⟩:=oE pW
   have:=q7z (P:=P) (PF (P:=P) hL hs hu h1 ij h2 h3 h4 (q23z hf hy) ah)
   simpa only[execOp,Sem.run_bind,Sem.run_pure] using this
 case indexAddr T x i=>
   split at hc
   ·rename_i n el hu
    split at hc
    case h_2=> cases hc
    rename_i tag ht
    split at hc
    case isFalse=> cases hc
    rename_i aT
    obtain ⟨je,lS⟩:=aT
    obtain ⟨ys,hy,he⟩:=Option.map_eq_some_iff.1 hc
    simp only[Prod.mk.injEq] at he
    obtain ⟨rfl,rfl⟩:=he
    obtain ⟨v1,v2,e,h1,h2⟩:=de (q12z hf hy)
    rw[e] at ah
    simp only[aB] at ah
    have:=q7z (P:=P) (PG (P:=P) hL hs hu (cB je) lS h1 h2 ah)
    simpa only[execOp,Sem.run_bind,Sem.run_pure] using this
   ·rename_i el hu
    split at hc
    case isFalse=> cases hc
    rename_i je
    obtain ⟨ys,hy,he⟩:=Option.map_eq_some_iff.1 hc
    simp only[Prod.mk.injEq] at he
    obtain ⟨rfl,rfl⟩:=he
    obtain ⟨v1,v2,e,h1,h2⟩:=de (q12z hf hy)
    rw[e] at ah
    simp only[aB] at ah
    have:=q7z (P:=P) (PH (P:=P) hL hs hu (cB je) h1 h2 ah)
    simpa only[execOp,Sem.run_bind,Sem.run_pure] using this
   ·cases hc
 case index T x i=>
   split at hc
   ·rename_i n el hu
    split at hc
    case h_2=> cases hc
    rename_i tag ht
    split at hc
    case isFalse=> cases hc
    rename_i aT
    obtain ⟨je,lS⟩:=aT
    obtain ⟨ys,hy,he⟩:=Option.map_eq_some_iff.1 hc
    simp only[Prod.mk.injEq] at he
    obtain ⟨rfl,rfl⟩:=he
    obtain ⟨v1,v2,e,h1,h2⟩:=de (q12z hf hy)
    rw[e] at ah
    simp only[aB] at ah
    have:=q7z (P:=P) (PI (P:=P) hL hs hu (cB je) lS h1 h2 ah)
    simpa only[execOp,Sem.run_bind,Sem.run_pure] using this
   ·rename_i hu
    obtain ⟨ys,hy,he⟩:=Option.map_eq_some_iff.1 hc
    simp only[Prod.mk.injEq] at he
    obtain ⟨rfl,rfl⟩:=he
    obtain ⟨v1,v2,e,h1,h2⟩:=de (q12z hf hy)
    rw[e] at ah
    simp only[aB] at ah
    have:=q7z (P:=P) (Ls (P:=P) hs hu h1 h2 ah)
    simpa only[execOp,Sem.run_bind,Sem.run_pure] using this
   ·cases hc
end
end Go.Vm
namespace Go.Vm
variable {P : Program} {obj : Nat → Bool} {c : Ctx} {h : Hp} {w : World}
theorem va {f:Nat} {args:Array Value} {fn:Func} (h1:P.funcs[f]? =some fn) (h2:fn.body.isSome=true) (h3:(fn.name== "runtime.NumGoroutine")=false) (w:World):
 (callFunc f args).run P w= .ok (.enter f args) w:=by
 have h4:fn.body≠none:=fun e=> by rw[e] at h2;cases h2
 have h5:fn.name≠ "runtime.NumGoroutine" :=fun e=> by rw[e] at h3;simp at h3
 simp[callFunc,h1,h4,h5]
theorem pw {α β:Type}:∀(l:List α) (m:List β),l.length=m.length→(l.zip m).map (·.2)=m
 | [],[],_=> rfl
 | [],_::_,h=> by simp at h
 | _::_,[],h=> by simp at h
 | a::l,b::m,h=> by simp only[List.zip_cons_cons,List.map_cons];rw[pw l m (by simpa using h)]
theorem oF {L:cq}:∀ {vs vs':List V} {us us':List Value},fC L c vs us→fC L c vs' us'→fC L c (vs++vs') (us++us')
 | [],_,[],_,_,h=> h
 | v::vs,_,u::us,_,h,h'=>⟨h.1,oF h.2 h'⟩
 | [],_,_::_,_,h,_=> h.elim
 | _::_,_,[],_,h,_=> h.elim
theorem gV {α:Type} {a:Array α} {x y:α} (h:a.toList=[x,y]):a= #[x,y]:=by
 apply Array.ext';simpa using h
theorem kh {α:Type} {a:Array α} {x:α} (h:a.toList=[x]):a= #[x]:=by
 apply Array.ext';simpa using h
section
variable (hL : (ak P).OK) {cf : Nat → List V → Hp → Option (V × Hp)} {base : Nat} (fj : cy P (ak P) cf) {fr : Fr} {a : Act} (hf : RF (ak P) c fr a) (hs : bc (ak P) c h w) {o : Oper} {g : O} {xs : List X} {v : V} {h' : Hp}
include hL fj hf hs
theorem Qt {cl:Call} {ty:TypeId} (hc:rH P obj ty (.call cl)=some (g,xs)) (ah:aB cf base h g (xs.map (X.ev fr))=some (v,h')):
 pv P (ak P) c w ((resolve a.eval cl ty >>=fun d=> invoke d.target d.args).run P w) v h':=by
 obtain ⟨callee,args,argTypes⟩:=cl
 simp only[rH] at hc
 split at hc
 ·rename_i f
  obtain ⟨xs',nw,hc⟩:=Option.bind_eq_some_iff.1 hc
  split at hc
  case isFalse=> cases hc
  rename_i cI
  simp only[Option.some.injEq,Prod.mk.injEq] at hc
  obtain ⟨rfl,rfl⟩:=hc
  simp only[aB] at ah
  have hv:=q12z hf nw
  obtain ⟨⟨fn,h1,h2,h3⟩,iu⟩:=fj _ _ _ _ _ ah
  refine Or.inr ⟨f,(args.map a.eval).toList,?_,iu c w _ ?_ hs⟩
  ·have e:((args.map a.eval).toList).toArray=args.map a.eval:=Array.toArray_toList
   rw[e]
   simp[resolve,Deferred.ofValue,Act.eval,invoke,va h1 h2 h3]
  ·have:(List.map (fun p=> a.eval p.2) (argTypes.toList.zip args.toList))=(args.map a.eval).toList:=by
     rw[Array.toList_map,←pw argTypes.toList args.toList (by simpa using cI),List.map_map,pw _ _ (by simpa using cI)];rfl
   rw[←this];exact hv
 ·rename_i n
  obtain ⟨xs',nw,hc⟩:=Option.bind_eq_some_iff.1 hc
  split at hc
  case isFalse=> cases hc
  rename_i cI
  simp only[Option.some.injEq,Prod.mk.injEq] at hc
  obtain ⟨rfl,rfl⟩:=hc
  have hv:=q12z hf nw
  have hfv:=q23z (P:=P) (t:=ty) hf (o:= .tmp n) (x:= .t n) rfl
  simp only[List.map_cons] at ah
  generalize hfx:X.ev fr (.t n)=fx at ah hfv
  cases fx <;> simp only[aB] at ah <;> try (cases ah;done)
  rename_i f cap
  obtain ⟨ws,hfu,hws⟩:=Cj.1 hfv
  obtain ⟨⟨fn,h1,h2,h3⟩,iu⟩:=fj _ _ _ _ _ ah
  have hv':fC (ak P) c (xs'.map (X.ev fr)) (args.map a.eval).toList:=by
    have:(List.map (fun p=> a.eval p.2) (argTypes.toList.zip args.toList))=(args.map a.eval).toList:=by
      rw[Array.toList_map,←pw argTypes.toList args.toList (by simpa using cI),List.map_map,pw _ _ (by simpa using cI)];rfl
    rw[←this];exact hv
  refine Or.inr ⟨f,(args.map a.eval).toList++ws,?_,iu c w _ (oF hv' hws) hs⟩
  have e:((args.map a.eval).toList++ws).toArray=args.map a.eval++ws.toArray:=by apply Array.ext';simp
  rw[e]
  simp[resolve,hfu,Deferred.ofValue,invoke,va h1 h2 h3]
 ·rename_i b
  split at hc
  ·rename_i T x hT hx
   obtain rfl:=kh hT
   obtain rfl:=kh hx
   split at hc
   ·rename_i el hu
    obtain ⟨y,hy,he⟩:=Option.map_eq_some_iff.1 hc
    simp only[Prod.mk.injEq] at he
    obtain ⟨rfl,rfl⟩:=he
    simp only[List.map_cons,List.map_nil,aB] at ah
    have:=q7z (P:=P) (PR (P:=P) hs hu (ty:=ty) (q23z hf hy) ah)
    simpa[resolve,invoke,builtin] using this
   ·rename_i hu
    obtain ⟨y,hy,he⟩:=Option.map_eq_some_iff.1 hc
    simp only[Prod.mk.injEq] at he
    obtain ⟨rfl,rfl⟩:=he
    simp only[List.map_cons,List.map_nil,aB] at ah
    have:=q7z (P:=P) (Qk (P:=P) hs hu (ty:=ty) (q23z hf hy) ah)
    simpa[resolve,invoke,builtin] using this
   ·rename_i hu
    obtain ⟨y,hy,he⟩:=Option.map_eq_some_iff.1 hc
    simp only[Prod.mk.injEq] at he
    obtain ⟨rfl,rfl⟩:=he
    simp only[List.map_cons,List.map_nil,aB] at ah
    have:=q7z (P:=P) (Lp (P:=P) hs hu (ty:=ty) (q23z hf hy) ah)
    simpa[resolve,invoke,builtin] using this
   ·cases hc
  ·rename_i T T' x y hT hx
   obtain rfl:=gV hT
   obtain rfl:=gV hx
   split at hc
   case h_2=> cases hc
   rename_i el hu
   have key:∀z:V,zeroOf P obj el=some z→nQ P el=true→0 < P.bytesOf el→((∃e2,P.underlying T'=some (.slice e2))∨P.underlying T'=some .string)→(cu P [(T,x),(T',y)]).map (fun xs=>(D8 (obj (4000000+T)) (aC P el) (P.bytesOf el),xs))=some (g,xs)→
    pv P (ak P) c w ((resolve a.eval {callee:= .builtin .append,args:= #[x,y],argTypes:= #[T,T']} ty >>=fun d=> invoke d.target d.args).run P w) v h':=by
     intro z hz je gq h2 hc
     obtain ⟨ys,hy,he⟩:=Option.map_eq_some_iff.1 hc
     simp only[Prod.mk.injEq] at he
     obtain ⟨rfl,rfl⟩:=he
     obtain ⟨v1,v2,e,r1,r2⟩:=de (q12z hf hy)
     rw[e] at ah
     obtain ⟨rb,iT,gZ⟩:=cO hz
     obtain ⟨i,hi,_⟩:=(cB je).info
     have hb:P.bytesOf el=i.bytes:=by simp[Program.bytesOf,hi]
     rw[hb] at ah gq
     rcases IH ah with ah | ah
     ·obtain ⟨⟨v',h''⟩,h1,h3⟩:=Option.bind_eq_some_iff.1 ah
      have:=q7z (P:=P) (yj hL (Aw (P:=P) hL hs hu (cB je) hi rb iT gZ h2 (ty:=ty) gq r1 r2 h1) h3)
      simpa[resolve,invoke,builtin] using this
     ·have:=q7z (P:=P) (Aw (P:=P) hL hs hu (cB je) hi rb iT gZ h2 (ty:=ty) gq r1 r2 ah)
      simpa[resolve,invoke,builtin] using this
   split at hc
   ·rename_i z e2 hz yW
    split at hc
    case isFalse=> cases hc
    rename_i aT
    exact key z hz aT.1 aT.2 (Or.inl ⟨_,yW⟩) hc
   ·rename_i z kd hz yW
    split at hc
    case isFalse=> cases hc
    rename_i aT
    obtain ⟨je,gq⟩:=aT
    obtain ⟨ys,hy,he⟩:=Option.map_eq_some_iff.1 hc
    simp only[Prod.mk.injEq] at he
    obtain ⟨rfl,rfl⟩:=he
    obtain ⟨v1,v2,e,r1,r2⟩:=de (q12z hf hy)
    rw[e] at ah
    obtain ⟨rb,iT,gZ⟩:=cO hz
    obtain ⟨i,hi,_⟩:=(cB je).info
    have hb:P.bytesOf el=i.bytes:=by simp[Program.bytesOf,hi]
    rw[hb] at ah gq
    simp only[aB] at ah
    have:=q7z (P:=P) (PY (P:=P) hL hs hu (cB je) hi rb iT gZ yW (ty:=ty) gq r1 r2 ah)
    simpa[resolve,invoke,builtin] using this
   ·rename_i z hz yW
    split at hc
    case isFalse=> cases hc
    rename_i aT
    exact key z hz aT.1 aT.2 (Or.inr yW) hc
   ·cases hc
  ·rename_i T x hT hx
   obtain rfl:=kh hT
   obtain rfl:=kh hx
   split at hc
   case h_2=> cases hc
   rename_i el hu
   obtain ⟨y,hy,he⟩:=Option.map_eq_some_iff.1 hc
   simp only[Prod.mk.injEq] at he
   obtain ⟨rfl,rfl⟩:=he
   simp only[List.map_cons,List.map_nil,aB] at ah
   have:=q7z (P:=P) (PS (P:=P) hs hu (ty:=ty) (q23z hf hy) ah)
   simpa[resolve,invoke,builtin] using this
  ·rename_i T T' x y hT hx
   obtain rfl:=gV hT
   obtain rfl:=gV hx
   split at hc
   case h_2=> cases hc
   rename_i el hu
   split at hc
   case isFalse=> cases hc
   rename_i je
   obtain ⟨ys,hy,he⟩:=Option.map_eq_some_iff.1 hc
   simp only[Prod.mk.injEq] at he
   obtain ⟨rfl,rfl⟩:=he
   obtain ⟨v1,v2,e,r1,r2⟩:=de (q12z hf hy)
   rw[e] at ah
   simp only[aB] at ah
   have:=q7z (P:=P) (PZ (P:=P) (T2:=T') hL hs hu (cB je) (ty:=ty) r1 r2 ah)
   simpa[resolve,invoke,builtin] using this
  ·rename_i T x hT hx
   obtain rfl:=kh hT
   obtain rfl:=kh hx
   split at hc
   case h_2=> cases hc
   rename_i el hu
   split at hc
   case h_2=> cases hc
   rename_i z hz
   split at hc
   case isFalse=> cases hc
   rename_i je
   obtain ⟨y,hy,he⟩:=Option.map_eq_some_iff.1 hc
   simp only[Prod.mk.injEq] at he
   obtain ⟨rfl,rfl⟩:=he
   simp only[List.map_cons,List.map_nil,aB] at ah
   obtain ⟨rb,iT,gZ⟩:=cO hz
   have:=q7z (P:=P) (Qg (P:=P) hL hs hu (cB je) rb iT gZ (ty:=ty) (q23z hf hy) ah)
   simpa[resolve,invoke,builtin] using this
  ·rename_i T T' x y hT hx
   obtain rfl:=gV hT
   obtain rfl:=gV hx
   obtain ⟨ys,hy,he⟩:=Option.map_eq_some_iff.1 hc
   simp only[Prod.mk.injEq] at he
   obtain ⟨rfl,rfl⟩:=he
   obtain ⟨v1,v2,e,r1,r2⟩:=de (q12z hf hy)
   rw[e] at ah
   simp only[aB] at ah
   have:=q7z (P:=P) (P9 (P:=P) (Ts:= #[T,T']) hs (ty:=ty) r1 r2 ah)
   simpa[resolve,invoke,builtin] using this
  ·rename_i T T' x y hT hx
   obtain rfl:=gV hT
   obtain rfl:=gV hx
   obtain ⟨ys,hy,he⟩:=Option.map_eq_some_iff.1 hc
   simp only[Prod.mk.injEq] at he
   obtain ⟨rfl,rfl⟩:=he
   obtain ⟨v1,v2,e,r1,r2⟩:=de (q12z hf hy)
   rw[e] at ah
   simp only[aB] at ah
   have:=q7z (P:=P) (Qa (P:=P) (Ts:= #[T,T']) hs (ty:=ty) r1 r2 ah)
   simpa[resolve,invoke,builtin] using this
  ·cases hc
 ·cases hc
theorem Qu (hc:rH P obj o.type o.op=some (g,xs)) (ah:aB cf base h g (xs.map (X.ev fr))=some (v,h')) (hk:match o.op with | .makeMap .. | .lookup .. | .mapUpdate .. | .insert .. | .mapEntry .. | .entryStore .. | .sliceToArrayPointer .. => True | _=> False):
 pv P (ak P) c w ((execOp a.eval o).run P w) v h':=by
 obtain ⟨dst,op,ty,pos,after,guard⟩:=o
 simp only at hc hk ⊢
 cases op <;> simp only at hk
 case sliceToArrayPointer T x=>
   simp only[rH] at hc
   split at hc
   case h_2=> cases hc
   rename_i n el tag hu ht
   split at hc
   case isFalse=> cases hc
   rename_i ha
   obtain ⟨y,hy,he⟩:=Option.map_eq_some_iff.1 hc
   simp only[Prod.mk.injEq] at he
   obtain ⟨rfl,rfl⟩:=he
   simp only[List.map_cons,List.map_nil,aB] at ah
   have:=q7z (P:=P) (Qm (P:=P) hL hs hu ha (q23z hf hy) ah)
   simpa only[execOp,Sem.run_bind,Sem.run_pure] using this
 case makeMap t r=>
   cases r with
   | some r=> simp[rH] at hc
   | none=>
     simp only[rH] at hc
     split at hc
     case h_2=> cases hc
     cases hc
     have e:aB cf base h .mkm []=some (.mp h.length,h++[.map [] 0]):=rfl
     rw[List.map_nil,e] at ah
     cases ah
     have:=q7z (P:=P) (Qh (P:=P) hs t)
     simpa only[execOp,Sem.run_bind,Sem.run_pure,Option.map_none] using this
 case lookup T x ix ok=>
   simp only[rH] at hc
   split at hc
   case h_2=> cases hc
   rename_i kt et hu
   split at hc
   case h_2=> cases hc
   rename_i kc z hkc hz
   obtain ⟨ys,hy,he⟩:=Option.map_eq_some_iff.1 hc
   simp only[Prod.mk.injEq] at he
   obtain ⟨rfl,rfl⟩:=he
   obtain ⟨v1,v2,e,r1,r2⟩:=de (q12z hf hy)
   rw[e] at ah
   simp only[aB] at ah
   have:=q7z (P:=P) (Qi (P:=P) hs hu (rG hkc) (cO hz).1 r1 r2 ah)
   simpa only[execOp,Sem.run_bind,Sem.run_pure] using this
 case mapEntry T x ix=>
   simp only[rH] at hc
   split at hc
   case h_2=> cases hc
   rename_i kt et hu
   split at hc
   case h_2=> cases hc
   rename_i kc z hkc hz
   obtain ⟨ys,hy,he⟩:=Option.map_eq_some_iff.1 hc
   simp only[Prod.mk.injEq] at he
   obtain ⟨rfl,rfl⟩:=he
   obtain ⟨v1,v2,e,r1,r2⟩:=de (q12z hf hy)
   rw[e] at ah
   simp only[aB] at ah
   have:=q7z (P:=P) (Qj (P:=P) hs hu (rG hkc) (cO hz).1 r1 r2 ah)
   simpa only[execOp,Sem.run_bind,Sem.run_pure] using this
 case entryStore T x ix y=>
   simp only[rH] at hc
   split at hc
   case h_2=> cases hc
   rename_i kt et hu
   obtain ⟨ys,hy,he⟩:=Option.map_eq_some_iff.1 hc
   simp only[Prod.mk.injEq] at he
   obtain ⟨rfl,rfl⟩:=he
   obtain ⟨v1,v2,v3,e,r1,r2,r3⟩:=nj (q12z hf hy)
   rw[e] at ah
   simp only[aB] at ah
   obtain ⟨w',h3,rfl,h4,h5⟩:=Ql (P:=P) (T:=T) hs r1 r2 r3 ah
   refine Or.inl ⟨undef,c,w',Or.inr ⟨?_,rfl⟩,cx.2 ⟨[],rfl,trivial⟩,h4,Ctx.le_refl c,h5⟩
   simp only at h3
   simp[execOp,h3]
 case mapUpdate T x ix y=>
   simp only[rH] at hc
   split at hc
   case h_2=> cases hc
   rename_i kt et hu
   split at hc
   case h_2=> cases hc
   rename_i kc hkc
   obtain ⟨ys,hy,he⟩:=Option.map_eq_some_iff.1 hc
   simp only[Prod.mk.injEq] at he
   obtain ⟨rfl,rfl⟩:=he
   obtain ⟨v1,v2,v3,e,r1,r2,r3⟩:=nj (q12z hf hy)
   rw[e] at ah
   simp only[aB] at ah
   obtain ⟨w',h3,rfl,h4,h5⟩:=Iy (P:=P) hs hu (rG hkc) r1 r2 r3 ah
   refine Or.inl ⟨undef,c,w',Or.inr ⟨?_,rfl⟩,cx.2 ⟨[],rfl,trivial⟩,h4,Ctx.le_refl c,h5⟩
   simp only at h3
   simp[execOp,h3]
 case insert T x ix y=>
   simp only[rH] at hc
   split at hc
   case h_2=> cases hc
   rename_i kt et hu
   split at hc
   case h_2=> cases hc
   rename_i kc hkc
   obtain ⟨ys,hy,he⟩:=Option.map_eq_some_iff.1 hc
   simp only[Prod.mk.injEq] at he
   obtain ⟨rfl,rfl⟩:=he
   obtain ⟨v1,v2,v3,e,r1,r2,r3⟩:=nj (q12z hf hy)
   rw[e] at ah
   simp only[aB] at ah
   obtain ⟨w',h3,rfl,h4,h5⟩:=Iy (P:=P) hs hu (rG hkc) r1 r2 r3 ah
   refine Or.inl ⟨undef,c,w',Or.inr ⟨?_,rfl⟩,cx.2 ⟨[],rfl,trivial⟩,h4,Ctx.le_refl c,h5⟩
   simp only at h3
   simp[execOp,h3]
theorem sound (hc:rH P obj o.type o.op=some (g,xs)) (ah:aB cf base h g (xs.map (X.ev fr))=some (v,h')):
 pv P (ak P) c w ((execOp a.eval o).run P w) v h':=by
 have hc0:=hc
 obtain ⟨dst,op,ty,pos,after,guard⟩:=o
 cases op
 case call cl=> exact Qt hL fj hf hs hc ah
 case panic x=>
   simp only[rH,Option.some.injEq,Prod.mk.injEq] at hc
   obtain ⟨rfl,rfl⟩:=hc
   simp[aB] at ah
 all_goals first
   | exact Qo hL hf hs hc ah trivial
   | exact Qr hL hf hs hc ah trivial
   | exact Qs hL hf hs hc ah trivial
   | exact Qu hL fj hf hs hc ah trivial
   | (simp only[rH] at hc;cases hc;done)
end
end Go.Vm
namespace Go.Vm
variable {P : Program} {obj : Nat → Bool} {c : Ctx} {h : Hp} {w : World}
theorem fC.mono {L:cq} {c':Ctx} (hle:c.le c'):∀ {vs:List V} {us:List Value},fC L c vs us→fC L c' vs us
 | [],[],_=> trivial
 | _::_,_::_,h=>⟨h.1.mono hle,fC.mono hle h.2⟩
 | [],_::_,h=> h.elim
 | _::_,[],h=> h.elim
theorem fC.set {L:cq} {v:V} {u:Value} (hv:RV L c v u):∀ {vs:List V} {us:List Value} (t:Nat),fC L c vs us→fC L c (vs.set t v) (us.set t u)
 | [],[],_,_=> trivial
 | _::_,_::_,0,h=>⟨hv,h.2⟩
 | _::_,_::_,t+1,h=>⟨h.1,fC.set hv t h.2⟩
 | [],_::_,_,h=> h.elim
 | _::_,[],_,h=> h.elim
theorem RF.mono {L:cq} {c':Ctx} {fr:Fr} {a:Act} (hle:c.le c') (h:RF L c fr a):RF L c' fr a:=fC.mono hle h
theorem RF.put {L:cq} {fr:Fr} {a:Act} {v:V} {u:Value} (h:RF L c fr a) (hv:RV L c v u) (d:Option Nat):RF L c (gu fr d v) (a.put d u):=by
 cases d with
 | none=> exact h
 | some t=>
   simp only[RF,gu,Act.put,Array.toList_setIfInBounds]
   exact fC.set hv t h
def cog (P:Program) (obj:Nat→Bool) (ops:List Oper) (o:Oper):Option G:=
 match rH P obj o.type o.op,o.guard with
 | some (op,xs),none=> some ⟨o.dst,op,xs,none⟩
 | some (op,xs),some (j,b)=> match (ops[j]?).bind (·.dst) with
   | some d=> some ⟨o.dst,op,xs,some (d,b)⟩
   | none=> none
 | none,_=> none
theorem kj {ops:List Oper} {o:Oper} {g:G} (h:cog P obj ops o=some g):rH P obj o.type o.op=some (g.op,g.xs)∧g.dst=o.dst∧
 ((o.guard=none∧g.guard=none)∨∃j b d,o.guard=some (j,b)∧(ops[j]?).bind (·.dst)=some d∧g.guard=some (d,b)):=by
 unfold cog at h
 split at h
 ·rename_i op xs h1 h2
  simp only[Option.some.injEq] at h
  subst h
  exact ⟨h1,rfl,Or.inl ⟨h2,rfl⟩⟩
 ·rename_i op xs j b h1 h2
  split at h
  ·rename_i d hd
   simp only[Option.some.injEq] at h
   subst h
   exact ⟨h1,rfl,Or.inr ⟨j,b,d,h2,hd,rfl⟩⟩
  ·cases h
 ·cases h
theorem jt {L:cq} {ops:List Oper} {o:Oper} {g:G} (hg:cog P obj ops o=some g) {fr:Fr} {a:Act} (hf:RF L c fr a) {b:Bool} (hw:want fr g=some b):
 Region.wanted o (yielded ops.toArray a.tmps)=b:=by
 obtain ⟨_,_,h⟩:=kj hg
 rcases h with ⟨h1,h2⟩ | ⟨j,b',d,h1,h2,h3⟩
 ·simp only[want,h2,Option.some.injEq] at hw
  simp[Region.wanted,h1,←hw]
 ·simp only[want,h3] at hw
  simp only[Region.wanted,h1,yielded,List.getElem?_toArray,h2,Option.bind_some]
  have hlen:=fC.length hf
  by_cases hd:d < fr.length
  ·have mu:d < a.tmps.toList.length:=by rw[hlen];exact hd
   have jC:=hf.get d fr[d] a.tmps.toList[d] (List.getElem?_eq_getElem hd) (List.getElem?_eq_getElem mu)
   have e1:fr.getD d .top=fr[d]:=by simp[List.getD,List.getElem?_eq_getElem hd]
   have e2:a.tmps[d]? =some a.tmps.toList[d]:=by rw[←Array.getElem?_toList,List.getElem?_eq_getElem mu]
   rw[e1] at hw
   rw[e2]
   generalize fr[d]=x at hw jC
   generalize a.tmps.toList[d]=y at jC
   split at hw
   ·obtain ⟨rfl,_⟩:=bx.1 jC
    simp only[Option.some.injEq] at hw
    subst hw
    rfl
   ·obtain ⟨ws,rfl,hws⟩:=cx.1 jC
    simp only[Option.some.injEq] at hw
    subst hw
    rfl
   ·cases hw
  ·have e1:fr.getD d .top= .top:=by simp[List.getD,List.getElem?_eq_none (Nat.le_of_not_lt hd)]
   rw[e1] at hw
   cases hw
theorem ju (a:Act) (d:Option Nat) (v:Value):(a.put d v).defers=a.defers:=by cases d <;> rfl
section
variable (hL : (ak P).OK) {cf : Nat → List V → Hp → Option (V × Hp)} {base : Nat} (fj : cy P (ak P) cf)
include hL fj
theorem te {ops:List Oper} {o:Oper} {g:G} (hg:cog P obj ops o=some g) {fr:Fr} {a:Act} (hf:RF (ak P) c fr a) (hs:bc (ak P) c h w) {v:V} {h':Hp} (aR:Vm.stepG cf base fr h g=some (v,h'))
 {K:Act→World→Prop} {Q:Exit→Act→World→Prop}
 (hK:∀u c' w',RV (ak P) c' v u→bc (ak P) c' h' w'→c.le c'→St w w'→K (a.put o.dst u) w'):
 if Region.wanted o (yielded ops.toArray a.tmps) then o.wp P a w K Q∨(o.asks P a w∧LetsOut Q) else K (a.put o.dst undef) w:=by
 unfold Vm.stepG at aR
 split at aR
 ·rename_i hw
  rw[jt hg hf hw,if_pos rfl]
  obtain ⟨hc,hd,_⟩:=kj hg
  left
  unfold Oper.wp
  rcases sound hL fj hf hs hc aR with ⟨u,c',w',hr,hv,dh,hle,gB⟩ | ⟨f,us,hr,iu⟩
  ·rcases hr with hr | ⟨hr,rfl⟩
   ·rw[hr];exact hK u c' w' hv dh hle gB
   ·rw[hr];exact hK undef c' w' hv dh hle gB
  ·rw[hr]
   refine Calls.mono iu fun e w' he=> ?_
   obtain ⟨u,c',rfl,hv,dh,hle,gB⟩:=he
   exact hK u c' w' hv dh hle gB
 ·rename_i hw
  simp only[Option.some.injEq,Prod.mk.injEq] at aR
  obtain ⟨rfl,rfl⟩:=aR
  rw[jt hg hf hw]
  exact hK undef c w (cx.2 ⟨[],rfl,trivial⟩) hs (Ctx.le_refl c) (St.refl w)
 ·cases aR
def Ends (P:Program) (c:Ctx) (w:World) (a:Act) (fr':Fr) (h':Hp) (K:Act→World→Prop):Prop:=
 ∀a' c' w',RF (ak P) c' fr' a'→bc (ak P) c' h' w'→c.le c'→St w w'→a'.defers=a.defers→K a' w'
def rh (P:Program) (obj:Nat→Bool) (all:List Oper):List Oper→Option (List G)
 | []=> some []
 | o::os=> match cog P obj all o,rh P obj all os with
   | some g,some gs=> some (g::gs)
   | _,_=> none
theorem tf {all:List Oper} {Q:Exit→Act→World→Prop} {base:Nat}:∀ {os:List Oper} {gs:List G} {pre:List Oper},all=pre++os→rh P obj all os=some gs→∀ {fr:Fr} {a:Act} {c:Ctx} {h:Hp} {w:World},RF (ak P) c fr a→bc (ak P) c h w→
 ∀ {fr':Fr} {h':Hp},jW cf base gs fr h=some (fr',h')→Ends P c w a fr' h' (Q .normal)→
 wpOps P all.toArray Q (List.range' pre.length os.length) a w
 | [],gs,pre,cJ,hc,fr,a,c,h,w,hf,hs,fr',h',hr,hE=> by
   simp only[rh,Option.some.injEq] at hc
   subst hc
   simp only[jW,Option.some.injEq,Prod.mk.injEq] at hr
   obtain ⟨rfl,rfl⟩:=hr
   exact hE a c w hf hs (Ctx.le_refl c) (St.refl w) rfl
 | o::os,gs,pre,cJ,hc,fr,a,c,h,w,hf,hs,fr',h',hr,hE=> by
   simp only[rh] at hc
   split at hc
   case h_2=> cases hc
   rename_i g gs' hg ij
   simp only[Option.some.injEq] at hc
   subst hc
   simp only[jW] at hr
   split at hr
   case h_2=> cases hr
   rename_i v h1 aR
   have ho:all.toArray[pre.length]? =some o:=by simp[cJ]
   simp only[List.length_cons,List.range'_succ,wpOps,ho]
   refine te (Q:=Q) hL fj hg hf hs aR fun u c' w' hv dh hle gB=> ?_
   have hlen:pre.length+1=(pre++[o]).length:=by simp
   rw[hlen]
   refine tf (base:=base) (fr':=fr') (h':=h') (pre:=pre++[o]) (by simp[cJ]) ij (RF.put (hf.mono hle) hv o.dst) dh (by rw[←(kj hg).2.1];exact hr) ?_
   intro a2 c2 w2 h1 h2 h3 h4 h5
   exact hE a2 c2 w2 h1 h2 (hle.trans h3) (gB.trans h4) (by rw[h5,ju])
theorem wj {id:Nat} {all:List Oper} {gs:List G} (hc:rh P obj all all=some gs) {fr:Fr} {a:Act} (hf:RF (ak P) c fr a) (hs:bc (ak P) c h w) {fr':Fr} {h':Hp} (hr:jW cf base gs fr h=some (fr',h')) {Q:Exit→Act→World→Prop}
 (hE:Ends P c w a fr' h' (Q .normal)):(Code.region id all.toArray false).wp P Q a w:=by
 refine wp_region ?_
 have:=tf (base:=base) hL fj (Q:=Q) (pre:=[]) (all:=all) (os:=all) rfl hc hf hs hr hE
 simpa[List.range_eq_range'] using this
end
end Go.Vm
namespace Go.Vm
def GD.bQ (d:GD):Bool:=d.g.op.bQ
def eI (ds:List GD) (j:Nat):Nat:=(ds.take j).countP GD.bQ
theorem i7 (ds:List GD):eI ds 0=0:=by simp[eI]
theorem ew (d:GD) (ds:List GD) (j:Nat):eI (d::ds) (j+1)=(if d.bQ then 1 else 0)+eI ds j:=by
 simp only[eI,List.take_succ_cons,List.countP_cons];omega
theorem th {ds:List GD} {j:Nat} {d:GD} (h:ds[j]? =some d):eI ds (j+1)=eI ds j+(if d.bQ then 1 else 0):=by
 simp only[eI,List.take_add_one,h,Option.toList,List.countP_append,List.countP_cons,List.countP_nil];omega
theorem IJ (ds:List GD) {i j:Nat} (h:i≤j):eI ds i≤eI ds j:=by
 induction j with
 | zero=> have:i=0:=by omega
          subst this;exact Nat.le_refl _
 | succ j ih=>
   rcases Nat.eq_or_lt_of_le h with rfl | h'
   ·exact Nat.le_refl _
   ·refine Nat.le_trans (ih (by omega)) ?_
    cases hd:ds[j]? with
    | some d=> rw[th hd];omega
    | none=>
      have:ds.length≤j:=List.getElem?_eq_none_iff.1 hd
      simp[eI,List.take_of_length_le this,List.take_of_length_le (Nat.le_succ_of_le this)]
theorem jv (ds:List GD) {j m:Nat} (h:m < eI ds j):∃k d,k < j∧ds[k]? =some d∧d.bQ=true∧eI ds k=m:=by
 induction j with
 | zero=> simp[eI] at h
 | succ j ih=>
   by_cases hm:m < eI ds j
   ·obtain ⟨k,d,h1,h2⟩:=ih hm
    exact ⟨k,d,by omega,h2⟩
   ·cases hd:ds[j]? with
    | none=>
      have:ds.length≤j:=List.getElem?_eq_none_iff.1 hd
      have e:eI ds (j+1)=eI ds j:=by simp[eI,List.take_of_length_le this,List.take_of_length_le (Nat.le_succ_of_le this)]
      omega
    | some d=>
      rw[th hd] at h
      by_cases he:d.bQ=true
      ·simp only[he,if_true] at h
       exact ⟨j,d,by omega,hd,he,by omega⟩
      ·simp only[he] at h
       simp at h
       omega
theorem wm {ds:List GD} {k j:Nat} {d:GD} (hk:ds[k]? =some d) (he:d.bQ=true) (h:k < j):eI ds k < eI ds j:=by
 have:=IJ ds (i:=k+1) (j:=j) h
 rw[th hk] at this
 simp[he] at this
 omega
section
variable (cf : Nat → List V → Hp → Option (V × Hp)) (base : Nat)
structure Tr (ds:List GD) (fr:Fr) (h:Hp) (fr':Fr) (h':Hp) (vals:Nat→V) (frs:Nat→Fr) (hs:List Hp):Prop where
 fst:frs 0=fr
 lst:frs ds.length=fr'
 next:∀(j:Nat) (d:GD),ds[j]? =some d→frs (j+1)=gu (frs j) d.g.dst (vals j)
 len:hs.length=eI ds ds.length+1
 yq:hs[0]? =some h
 Eb:hs[eI ds ds.length]? =some h'
 bQ:∀(j:Nat) (d:GD),ds[j]? =some d→d.bQ=true→∃hp hq,hs[eI ds j]? =some hp∧hs[eI ds j+1]? =some hq∧stepG cf base (frs j) hp d.g=some (vals j,hq)
theorem Lv :∀(ds:List GD) (fr:Fr) (h:Hp) (rk:List Hp) (xs0:List Seen) (fr':Fr) (h':Hp) (dh:List Hp) (xs':List Seen),mH cf base ds fr h rk xs0=some (fr',h',dh,xs')→
 ∃vals frs hs ys,Tr cf base ds fr h fr' h' vals frs hs∧dh=rk++hs∧xs'=xs0++ys∧(∀(j:Nat) (d:GD),ds[j]? =some d→d.bQ=false→⟨d,frs j,vals j⟩∈ys):=by
 intro ds
 induction ds with
 | nil=>
   intro fr h rk xs0 fr' h' dh xs' hr
   simp only[mH,Option.some.injEq,Prod.mk.injEq] at hr
   obtain ⟨rfl,rfl,rfl,rfl⟩:=hr
   exact ⟨fun _=> .top,fun _=> fr,[h],[],⟨rfl,rfl,fun j d hd=> by simp at hd,by simp[eI],rfl,by simp[eI],fun j d hd=> by simp at hd⟩,rfl,by simp,fun j d hd=> by simp at hd⟩
 | cons d ds ih=>
   intro fr h rk xs0 fr' h' dh xs' hr
   simp only[mH] at hr
   split at hr
   case h_2=> cases hr
   rename_i v h1 aR
   have common:∀(h2:Hp) (vals:Nat→V) (frs:Nat→Fr) (hs:List Hp),Tr cf base ds (gu fr d.g.dst v) h2 fr' h' vals frs hs→
    (d.bQ=true→h2=h1)→(d.bQ=false→h2=h)→
    Tr cf base (d::ds) fr h fr' h' (fun j=> match j with | 0=> v | j+1=> vals j) (fun j=> match j with | 0=> fr | j+1=> frs j) (if d.bQ then h::hs else hs):=by
     intro h2 vals frs hs t he hn
     constructor
     ·rfl
     ·exact t.lst
     ·intro j d' hd
      cases j with
      | zero=>
        simp only[List.getElem?_cons_zero,Option.some.injEq] at hd
        subst hd
        exact t.fst
      | succ j=> exact t.next j d' (by simpa using hd)
     ·rw[List.length_cons,ew]
      have:=t.len
      split <;> simp <;> omega
     ·split
      ·rfl
      ·rename_i hc
       rw[t.yq,hn (by simpa using hc)]
     ·rw[List.length_cons,ew]
      split
      ·rw[Nat.add_comm];simpa using t.Eb
      ·simpa using t.Eb
     ·intro j d' hd mu
      cases j with
      | zero=>
        simp only[List.getElem?_cons_zero,Option.some.injEq] at hd
        subst hd
        refine ⟨h,h1,?_,?_,aR⟩
        ·simp[i7,mu]
        ·simp only[i7,mu,if_true]
         simpa[he mu] using t.yq
      | succ j=>
        obtain ⟨hp,hq,a1,a2,a3⟩:=t.bQ j d' (by simpa using hd) mu
        refine ⟨hp,hq,?_,?_,a3⟩
        ·rw[ew];split
         ·rw[Nat.add_comm];simpa using a1
         ·simpa using a1
        ·rw[ew];split
         ·rw[Nat.add_comm 1];simpa using a2
         ·simpa using a2
   split at hr
   ·rename_i he
    obtain ⟨vals,frs,hs,ys,t,e1,e2,e3⟩:=ih _ _ _ _ _ _ _ _ hr
    refine ⟨_,_,_,ys,common h1 vals frs hs t (fun _=> rfl) (fun hf=> by simp[GD.bQ,he] at hf),?_,e2,?_⟩
    ·simp[GD.bQ,he,e1]
    ·intro j d' hd mu
     cases j with
     | zero=>
       simp only[List.getElem?_cons_zero,Option.some.injEq] at hd
       subst hd
       simp[GD.bQ,he] at mu
     | succ j=> exact e3 j d' (by simpa using hd) mu
   ·rename_i he
    obtain ⟨vals,frs,hs,ys,t,e1,e2,e3⟩:=ih _ _ _ _ _ _ _ _ hr
    refine ⟨_,_,_,⟨d,fr,v⟩::ys,common h vals frs hs t (fun hf=> by simp[GD.bQ,he] at hf) (fun _=> rfl),?_,by simpa using e2,?_⟩
    ·simp[GD.bQ,he,e1]
    ·intro j d' hd mu
     cases j with
     | zero=>
       simp only[List.getElem?_cons_zero,Option.some.injEq] at hd
       subst hd
       exact List.mem_cons_self
     | succ j=> exact List.mem_cons_of_mem _ (e3 j d' (by simpa using hd) mu)
theorem ti {fr:Fr} {g:G} {v:V}:∀ {hs:List Hp},oA cf base fr g v hs→∀h∈hs,stepG cf base fr h g=some (v,h)
 | [],_,h,hm=> by cases hm
 | x::hs,hh,h,hm=> by
   cases hm with
   | head=> exact hh.1
   | tail _ hm=> exact ti hh.2 h hm
theorem qN {hs:List Hp}:∀ {xs:List Seen},ng cf base hs xs→∀x∈xs,oA cf base x.fr x.d.g x.v ((hs.drop x.d.lo).take (x.d.hi+1 - x.d.lo))
 | [],_,x,hm=> by cases hm
 | y::xs,hh,x,hm=> by
   cases hm with
   | head=> exact hh.1
   | tail _ hm=> exact qN hh.2 x hm
theorem IK {ds:List GD} {fr fr':Fr} {h h':Hp} (hr:bL cf base ds fr h=some (fr',h')):inB fr.length ds:=by
 unfold bL at hr
 split at hr
 case h_2=> cases hr
 split at hr
 case isFalse=> cases hr
 rename_i h
 exact h.1
theorem Cm {ds:List GD} {fr fr':Fr} {h h':Hp} (hr:bL cf base ds fr h=some (fr',h')):∃vals frs hs,Tr cf base ds fr h fr' h' vals frs hs∧
 ∀(j:Nat) (d:GD),ds[j]? =some d→d.bQ=false→∀(m:Nat) (hp:Hp),d.lo≤m→m≤d.hi→hs[m]? =some hp→stepG cf base (frs j) hp d.g=some (vals j,hp):=by
 unfold bL at hr
 split at hr
 case h_2=> cases hr
 rename_i fr1 h1 hs xs bb
 split at hr
 case isFalse=> cases hr
 rename_i cJ
 replace cJ:=cJ.2
 simp only[Option.some.injEq,Prod.mk.injEq] at hr
 obtain ⟨rfl,rfl⟩:=hr
 obtain ⟨vals,frs,uv,ys,t,e1,e2,e3⟩:=Lv cf base _ _ _ _ _ _ _ _ _ bb
 simp only[List.nil_append] at e1 e2
 subst e1 e2
 refine ⟨vals,frs,_,t,fun j d hd he m hp gh hhi hm=> ?_⟩
 refine ti cf base (qN cf base cJ _ (e3 j d hd he)) hp ?_
 refine List.mem_of_getElem? (i:=m - d.lo) ?_
 rw[List.getElem?_take_of_lt (show m - d.lo < d.hi+1 - d.lo by omega),List.getElem?_drop,Nat.add_sub_cancel' gh]
 exact hm
end
structure tJ (ds:List GD) (lL:Fr) (vals:Nat→V) (S:Nat→Prop) (fr:Fr):Prop where
 len:fr.length=lL.length
 put:∀(j:Nat) (d:GD) (t:Nat),ds[j]? =some d→S j→d.g.dst=some t→t < lL.length→fr[t]? =some (vals j)
 dw:∀t:Nat,(∀(j:Nat) (d:GD),ds[j]? =some d→S j→d.g.dst≠some t)→fr[t]? =lL[t]?
def Qv (ds:List GD):Prop:=∀(j k:Nat) (d e:GD) (t:Nat),ds[j]? =some d→ds[k]? =some e→d.g.dst=some t→e.g.dst=some t→j=k
theorem mT (fr:Fr) (d:Option Nat) (v:V):(gu fr d v).length=fr.length:=by cases d <;> simp[gu]
theorem tJ.step {ds:List GD} {lL:Fr} {vals:Nat→V} {S S':Nat→Prop} {fr:Fr} (hc:tJ ds lL vals S fr) (hu:Qv ds) {j:Nat} {d:GD} (hd:ds[j]? =some d) (hS:∀k,S' k↔S k∨k=j):
 tJ ds lL vals S' (gu fr d.g.dst (vals j)) where
 len:=by rw[mT];exact hc.len
 put k e t he hk ht bW:=by
   cases tP:d.g.dst with
   | none=>
     simp only[gu]
     rcases (hS k).1 hk with hk | rfl
     ·exact hc.put k e t he hk ht bW
     ·rw[hd] at he;cases he;rw[tP] at ht;cases ht
   | some t'=>
     simp only[gu]
     by_cases htt:t=t'
     ·subst htt
      have:=hu k j e d t he hd ht tP
      subst this
      rw[List.getElem?_set_self (by rw[hc.len];exact bW)]
     ·rw[List.getElem?_set_ne (fun e=> htt e.symm)]
      rcases (hS k).1 hk with hk | rfl
      ·exact hc.put k e t he hk ht bW
      ·rw[hd] at he;cases he;rw[tP] at ht;cases ht;exact absurd rfl htt
 dw t ht:=by
   have h1:d.g.dst≠some t:=ht j d hd ((hS j).2 (Or.inr rfl))
   have h2:=hc.dw t fun k e he hk=> ht k e he ((hS k).2 (Or.inl hk))
   cases tP:d.g.dst with
   | none=> exact h2
   | some t'=>
     simp only[gu]
     rw[List.getElem?_set_ne (fun e=> h1 (by rw[tP,e]))]
     exact h2
theorem tJ.same {ds:List GD} {lL:Fr} {vals:Nat→V} {S S':Nat→Prop} {fr fr':Fr} (hc:tJ ds lL vals S fr) (Da:tJ ds lL vals S' fr') (t:Nat)
 (h:∀(k:Nat) (d:GD),ds[k]? =some d→d.g.dst=some t→(S k↔S' k)):fr[t]? =fr'[t]? :=by
 by_cases bW:t < lL.length
 ·by_cases hw:∃k d,ds[k]? =some d∧S k∧d.g.dst=some t
  ·obtain ⟨k,d,h1,h2,h3⟩:=hw
   rw[hc.put k d t h1 h2 h3 bW,Da.put k d t h1 ((h k d h1 h3).1 h2) h3 bW]
  ·rw[hc.dw t (fun k d h1 h2 h3=> hw ⟨k,d,h1,h2,h3⟩),Da.dw t (fun k d h1 h2 h3=> hw ⟨k,d,h1,(h k d h1 h3).2 h2,h3⟩)]
 ·rw[List.getElem?_eq_none (by rw[hc.len];omega),List.getElem?_eq_none (by rw[Da.len];omega)]
theorem tJ.start (ds:List GD) (lL:Fr) (vals:Nat→V) {S:Nat→Prop} (hS:∀k,¬S k):tJ ds lL vals S lL where
 len:=rfl
 put j d t hd hj:=(hS j hj).elim
 dw t _:=rfl
theorem Tr.cur {cf:Nat→List V→Hp→Option (V×Hp)} {base:Nat} {ds:List GD} {fr fr':Fr} {h h':Hp} {vals:Nat→V} {frs:Nat→Fr} {hs:List Hp} (t:Tr cf base ds fr h fr' h' vals frs hs) (hu:Qv ds):
 ∀j,j≤ds.length→tJ ds fr vals (· < j) (frs j)
 | 0,_=> by rw[t.fst];exact tJ.start ds fr vals (fun k=> Nat.not_lt_zero k)
 | j+1,hj=> by
   have hd:ds[j]? =some ds[j]:=List.getElem?_eq_getElem (by omega)
   rw[t.next j _ hd]
   exact (t.cur hu j (by omega)).step hu hd fun k=> by omega
def X.IL :X→List Nat
 | .t n=> [n]
 | .c _=> []
def G.reads (g:G):List Nat:=(match g.guard with | some (t,_)=> [t] | none=> [])++g.xs.flatMap X.IL
theorem X.IM {fr fr':Fr} {x:X} (h:∀t∈x.IL,fr[t]? =fr'[t]?):x.ev fr=x.ev fr':=by
 cases x with
 | t n=> simp only[X.ev,List.getD,h n (by simp[X.IL])]
 | c v=> rfl
theorem jw {cf:Nat→List V→Hp→Option (V×Hp)} {base:Nat} {fr fr':Fr} {h:Hp} {g:G} (hr:∀t∈g.reads,fr[t]? =fr'[t]?):stepG cf base fr h g=stepG cf base fr' h g:=by
 have h1:want fr g=want fr' g:=by
   unfold want
   split
   ·rfl
   ·rename_i t b hg
    have:=hr t (by simp[G.reads,hg])
    simp only[List.getD,this]
 have h2:g.xs.map (X.ev fr)=g.xs.map (X.ev fr'):=List.map_congr_left fun x hx=> X.IM fun t ht=> hr t (by
   simp only[G.reads,List.mem_append,List.mem_flatMap]
   exact Or.inr ⟨x,hx,ht⟩)
 unfold stepG
 rw[h1,h2]
end Go.Vm
namespace Go.Vm
def wo (acc:List Nat):List Edge→Nat
 | []=> 0
 | e::es=> if Region.binds .any e then (2 ^ e.on ||| acc.getD e.on 0) ||| wo acc es else wo acc es
def dO (acc:List Nat):List Oper→List Nat
 | []=> acc
 | o::os=> dO (acc++[wo acc o.after.toList]) os
structure Row where
 k:Nat
 d:GD
 p:Nat
 c:Nat
 deriving Inhabited
def lO (k c:Nat):List GD→List Nat→List Row
 | d::ds,p::ps=>⟨k,d,p,c⟩::lO (k+1) (if d.bQ then c+1 else c) ds ps
 | _,_=> []
def qh (j k:Row):Bool:=
 j.k==k.k ||
 ((match k.d.g.dst with
   | some t=> j.d.g.dst !=some t &&(!j.d.g.reads.contains t || (if k.k < j.k then j.p.testBit k.k else k.p.testBit j.k))
   | none=> true)&&
  (!k.d.bQ || (if j.d.bQ then !(decide (k.k < j.k)) || j.p.testBit k.k else (!(decide (k.c < j.d.lo)) || j.p.testBit k.k)&&(!(decide (j.d.hi≤k.c)) || k.p.testBit j.k))))
def V9 (os:List Oper):Bool:=(List.range os.length).all fun j=> match os[j]? with | some o=> o.after.toList.all fun e=> !Region.binds .any e || decide (e.on < j) | none=> true
def eW (os:List Oper) (ds:List GD):Bool:=
 let rs:=lO 0 0 ds (dO [] os)
 ds.length==os.length && V9 os &&(ds.all fun d=> decide (d.lo≤eI ds ds.length))&& rs.all fun j=> rs.all fun k=> qh j k
theorem fe :∀(os:List Oper) (acc:List Nat),(dO acc os).length=acc.length+os.length
 | [],acc=> rfl
 | o::os,acc=> by simp only[dO,fe os,List.length_append,List.length_cons,List.length_nil];omega
theorem tj :∀(os:List Oper) (acc:List Nat) (i:Nat),i < acc.length→(dO acc os)[i]? =acc[i]?
 | [],acc,i,h=> rfl
 | o::os,acc,i,h=> by
   simp only[dO]
   rw[tj os _ i (by simp;omega),List.getElem?_append_left h]
theorem Cn :∀(os:List Oper) (acc:List Nat) (j:Nat) (o:Oper),os[j]? =some o→(dO acc os)[acc.length+j]? =some (wo ((dO acc os).take (acc.length+j)) o.after.toList)
 | [],acc,j,o,h=> by simp at h
 | o'::os,acc,0,o,h=> by
   simp only[List.getElem?_cons_zero,Option.some.injEq] at h
   subst h
   simp only[dO,Nat.add_zero]
   rw[tj _ _ _ (by simp)]
   have:(dO (acc++[wo acc o'.after.toList]) os).take acc.length=acc:=by
     apply List.ext_getElem?
     intro i
     by_cases hi:i < acc.length
     ·rw[List.getElem?_take_of_lt hi,tj _ _ _ (by simp;omega),List.getElem?_append_left hi]
     ·rw[List.getElem?_eq_none (by rw[List.length_take];omega),List.getElem?_eq_none (by omega)]
   rw[this]
   simp
 | o'::os,acc,j+1,o,h=> by
   simp only[dO]
   have:=Cn os (acc++[wo acc o'.after.toList]) j o (by simpa using h)
   simp only[List.length_append,List.length_cons,List.length_nil] at this
   rw[show acc.length+(j+1)=acc.length+(0+1)+j by omega]
   exact this
theorem tl :∀(ds:List GD) (ps:List Nat) (k c j:Nat) (d:GD) (p:Nat),ds[j]? =some d→ps[j]? =some p→(lO k c ds ps)[j]? =some ⟨k+j,d,p,c+eI ds j⟩
 | [],ps,k,c,j,d,p,h,_=> by simp at h
 | _::_,[],k,c,j,d,p,_,h=> by simp at h
 | d'::ds,p'::ps,k,c,0,d,p,h1,h2=> by
   simp only[List.getElem?_cons_zero,Option.some.injEq] at h1 h2
   subst h1 h2
   simp[lO,i7]
 | d'::ds,p'::ps,k,c,j+1,d,p,h1,h2=> by
   simp only[lO,List.getElem?_cons_succ]
   rw[tl ds ps (k+1) _ j d p (by simpa using h1) (by simpa using h2),ew]
   congr 2
   ·omega
   ·split <;> omega
def Clo (os:List Oper) (S:Nat→Prop):Prop:=∀(j:Nat) (o:Oper),os[j]? =some o→S j→∀e∈o.after,Region.binds .any e=true→S e.on
theorem IN {S:Nat→Prop} {acc:List Nat} {es:List Edge} (h1:∀e∈es,Region.binds .any e=true→S e.on) (h2:∀e∈es,Region.binds .any e=true→∀k,(acc.getD e.on 0).testBit k=true→S k):
 ∀k,(wo acc es).testBit k=true→S k:=by
 induction es with
 | nil=> intro k h;simp[wo] at h
 | cons e es ih=>
   intro k h
   simp only[wo] at h
   have ih':=ih (fun e he=> h1 e (List.mem_cons_of_mem _ he)) (fun e he=> h2 e (List.mem_cons_of_mem _ he))
   split at h
   ·rename_i hb
    rw[Nat.testBit_or,Nat.testBit_or,Nat.testBit_two_pow] at h
    simp only[Bool.or_eq_true,decide_eq_true_eq] at h
    rcases h with (rfl | h) | h
    ·exact h1 e List.mem_cons_self hb
    ·exact h2 e List.mem_cons_self hb k h
    ·exact ih' k h
   ·exact ih' k h
theorem lg {os:List Oper} {S:Nat→Prop} (hc:Clo os S):∀(j:Nat) (o:Oper),os[j]? =some o→(∀e∈o.after,Region.binds .any e=true→S e.on)→∀p,(dO [] os)[j]? =some p→∀k,p.testBit k=true→S k:=by
 intro j
 induction j using Nat.strongRecOn with
 | _ j ih=>
   intro o ho hS p hp k hk
   have h1:=Cn os [] j o ho
   simp only[List.length_nil,Nat.zero_add] at h1
   rw[h1] at hp
   simp only[Option.some.injEq] at hp
   subst hp
   refine IN (S:=S) (fun e he hb=> hS e (by simpa using he) hb) (fun e he hb k hk=> ?_) k hk
   have hSe:=hS e (by simpa using he) hb
   by_cases bW:e.on < j
   ·have uk:j < os.length:=(List.getElem?_eq_some_iff.1 ho).1
    have hlen:=fe os []
    simp only[List.length_nil,Nat.zero_add] at hlen
    have h2:(dO [] os)[e.on]? =some (dO [] os)[e.on]:=List.getElem?_eq_getElem (by omega)
    have h3:((dO [] os).take j).getD e.on 0=(dO [] os)[e.on]:=by
      simp only[List.getD,List.getElem?_take_of_lt bW,h2,Option.getD_some]
    rw[h3] at hk
    have h4:os[e.on]? =some os[e.on]:=List.getElem?_eq_getElem (by omega)
    exact ih e.on bW _ h4 (hc e.on _ h4 hSe) _ h2 k hk
   ·have h3:((dO [] os).take j).getD e.on 0=0:=by
      simp only[List.getD,List.getElem?_eq_none (show ((dO [] os).take j).length≤e.on by rw[List.length_take];omega),Option.getD_none]
    rw[h3] at hk
    simp at hk
theorem jx {os:List Oper} {ds:List GD} (h:eW os ds=true) {j k:Nat} {d e:GD} (hj:ds[j]? =some d) (hk:ds[k]? =some e):
 ∃p q,(dO [] os)[j]? =some p∧(dO [] os)[k]? =some q∧qh ⟨j,d,p,eI ds j⟩ ⟨k,e,q,eI ds k⟩=true:=by
 simp only[eW,Bool.and_eq_true,beq_iff_eq] at h
 obtain ⟨⟨⟨hlen,_⟩,_⟩,cJ⟩:=h
 have ra:=fe os []
 simp only[List.length_nil,Nat.zero_add] at ra
 have uk:j < ds.length:=(List.getElem?_eq_some_iff.1 hj).1
 have fV:k < ds.length:=(List.getElem?_eq_some_iff.1 hk).1
 have h1:(dO [] os)[j]? =some (dO [] os)[j]:=List.getElem?_eq_getElem (by omega)
 have h2:(dO [] os)[k]? =some (dO [] os)[k]:=List.getElem?_eq_getElem (by omega)
 refine ⟨_,_,h1,h2,?_⟩
 have r1:=tl ds (dO [] os) 0 0 j d _ hj h1
 have r2:=tl ds (dO [] os) 0 0 k e _ hk h2
 simp only[Nat.zero_add] at r1 r2
 exact List.all_eq_true.1 (List.all_eq_true.1 cJ _ (List.mem_of_getElem? r1)) _ (List.mem_of_getElem? r2)
theorem qO {os:List Oper} {ds:List GD} (h:eW os ds=true):Qv ds:=by
 intro j k d e t hj hk hd he
 obtain ⟨p,q,_,_,hp⟩:=jx h hj hk
 simp only[qh,Bool.or_eq_true,beq_iff_eq,Bool.and_eq_true,he,bne_iff_ne,ne_eq] at hp
 rcases hp with hp | hp
 ·exact hp
 ·exact absurd hd hp.1.1
theorem pz {os:List Oper} {ds:List GD} (h:eW os ds=true) {j k:Nat} {d e:GD} {t:Nat} (hj:ds[j]? =some d) (hk:ds[k]? =some e) (cD:j≠k) (he:e.g.dst=some t) (ht:t∈d.g.reads):
 ∃p q,(dO [] os)[j]? =some p∧(dO [] os)[k]? =some q∧if k < j then p.testBit k=true else q.testBit j=true:=by
 obtain ⟨p,q,h1,h2,hp⟩:=jx h hj hk
 refine ⟨p,q,h1,h2,?_⟩
 simp only[qh,Bool.or_eq_true,beq_iff_eq,Bool.and_eq_true,he,bne_iff_ne,ne_eq] at hp
 rcases hp with hp | ⟨⟨_,hp⟩,_⟩
 ·exact absurd hp cD
 ·have:d.g.reads.contains t=true:=by simpa using ht
  rw[this] at hp
  simp only[Bool.not_true,Bool.false_eq_true,false_or] at hp
  split at hp <;> rename_i hc <;> simp only[hc,if_true,if_false]<;> exact hp
theorem qP {os:List Oper} {ds:List GD} (h:eW os ds=true) {j k:Nat} {d e:GD} (hj:ds[j]? =some d) (hk:ds[k]? =some e) (hd:d.bQ=true) (he:e.bQ=true) (bW:k < j):
 ∃p,(dO [] os)[j]? =some p∧p.testBit k=true:=by
 obtain ⟨p,q,h1,h2,hp⟩:=jx h hj hk
 refine ⟨p,h1,?_⟩
 simp only[qh,Bool.or_eq_true,beq_iff_eq,Bool.and_eq_true,he,hd,if_true,Bool.not_true,Bool.false_eq_true,false_or,bW,decide_true] at hp
 rcases hp with hp | ⟨_,hp⟩
 ·omega
 ·exact hp
theorem nk {os:List Oper} {ds:List GD} (h:eW os ds=true) {j k:Nat} {d e:GD} (hj:ds[j]? =some d) (hk:ds[k]? =some e) (hd:d.bQ=false) (he:e.bQ=true):
 ∃p q,(dO [] os)[j]? =some p∧(dO [] os)[k]? =some q∧(eI ds k < d.lo→p.testBit k=true)∧(d.hi≤eI ds k→q.testBit j=true):=by
 obtain ⟨p,q,h1,h2,hp⟩:=jx h hj hk
 refine ⟨p,q,h1,h2,?_⟩
 simp only[qh,Bool.or_eq_true,beq_iff_eq,Bool.and_eq_true,he,hd,if_false,Bool.not_true,Bool.false_eq_true,false_or,Bool.not_eq_true',decide_eq_false_iff_not] at hp
 rcases hp with hp | ⟨_,hp⟩
 ·subst hp
  rw[hj] at hk;cases hk
  rw[hd] at he;cases he
 ·exact ⟨fun hc=> hp.1.resolve_left (fun hn=> hn hc),fun hc=> hp.2.resolve_left (fun hn=> hn hc)⟩
theorem pA {os:List Oper} {ds:List GD} (h:eW os ds=true):ds.length=os.length∧(∀d∈ds,d.lo≤eI ds ds.length)∧∀(j:Nat) (o:Oper),os[j]? =some o→∀e∈o.after,Region.binds .any e=true→e.on < j:=by
 simp only[eW,Bool.and_eq_true,beq_iff_eq,List.all_eq_true,decide_eq_true_eq] at h
 obtain ⟨⟨⟨hlen,hb⟩,gh⟩,_⟩:=h
 refine ⟨hlen,gh,fun j o ho e he hbe=> ?_⟩
 have:=List.all_eq_true.1 hb j (List.mem_range.2 (List.getElem?_eq_some_iff.1 ho).1)
 simp only[ho,List.all_eq_true,Bool.or_eq_true,Bool.not_eq_true',decide_eq_true_eq] at this
 rcases this e (by simpa using he) with h' | h'
 ·rw[hbe] at h';cases h'
 ·exact h'
end Go.Vm
namespace Go.Vm
variable {P : Program} {obj : Nat → Bool}
theorem Co {all:List Oper}:∀ {os:List Oper} {gs:List G},rh P obj all os=some gs→gs.length=os.length∧∀(j:Nat) (o:Oper) (g:G),os[j]? =some o→gs[j]? =some g→cog P obj all o=some g
 | [],gs,h=> by
   simp only[rh,Option.some.injEq] at h
   subst h
   exact ⟨rfl,fun j o g ho=> by simp at ho⟩
 | o::os,gs,h=> by
   simp only[rh] at h
   split at h
   case h_2=> cases h
   rename_i g gs' hg ij
   simp only[Option.some.injEq] at h
   subst h
   obtain ⟨h1,h2⟩:=Co ij
   refine ⟨by simp[h1],fun j o' g' ho FI=> ?_⟩
   cases j with
   | zero=>
     simp only[List.getElem?_cons_zero,Option.some.injEq] at ho FI
     subst ho FI
     exact hg
   | succ j=> exact h2 j o' g' (by simpa using ho) (by simpa using FI)
def q24z (l:Array Bool):Nat→Prop:=fun j=> l.getD j false=true
theorem cV {l:Array Bool} {i:Nat} (hi:i < l.size) (k:Nat):q24z (l.setIfInBounds i true) k↔q24z l k∨k=i:=by
 unfold q24z
 by_cases hk:i=k
 ·subst hk
  simp[hi,Array.getD_eq_getD_getElem?]
 ·rw[getD_set_ne false hk]
  constructor
  ·exact Or.inl
  ·rintro (h | h)
   ·exact h
   ·exact absurd h.symm hk
section
variable (hL : (ak P).OK) {cf : Nat → List V → Hp → Option (V × Hp)} {base : Nat} (fj : cy P (ak P) cf)
include hL fj
theorem vd {all:List Oper} {ds:List GD} (hc:rh P obj all all=some (ds.map (·.g))) (gP:eW all ds=true) {lL fr':Fr} {h0 h':Hp} {vals:Nat→V} {frs:Nat→Fr} {hs:List Hp}
 (tr:Tr cf base ds lL h0 fr' h' vals frs hs)
 (AM:∀(j:Nat) (d:GD),ds[j]? =some d→d.bQ=false→∀(m:Nat) (hp:Hp),d.lo≤m→m≤d.hi→hs[m]? =some hp→stepG cf base (frs j) hp d.g=some (vals j,hp))
 {c0:Ctx} {a0:Act} {w0:World} {Q:Exit→Act→World→Prop} (hE:Ends P c0 w0 a0 fr' h' (Q .normal)):
 ∀(fuel:Nat) (listed:Array Bool) (a:Act) (w:World) (c:Ctx) (m:Nat) (frc:Fr) (hp:Hp),listed.size=all.length→listed.toList.count true+fuel=all.length→Clo all (q24z listed)→tJ ds lL vals (q24z listed) frc→
  RF (ak P) c frc a→hs[m]? =some hp→bc (ak P) c hp w→(∀(k:Nat) (d:GD),ds[k]? =some d→d.bQ=true→(q24z listed k↔eI ds k < m))→c0.le c→St w0 w→a.defers=a0.defers→
  wpAny P .any all.toArray Q fuel listed a w:=by
 have hu:=qO gP
 obtain ⟨hlen,gh,IP⟩:=pA gP
 obtain ⟨Wa,Wb⟩:=Co hc
 have fin:∀(listed:Array Bool) (a:Act) (w:World) (c:Ctx) (m:Nat) (frc:Fr) (hp:Hp),(∀j,j < all.length→q24z listed j)→tJ ds lL vals (q24z listed) frc→
  RF (ak P) c frc a→hs[m]? =some hp→bc (ak P) c hp w→(∀(k:Nat) (d:GD),ds[k]? =some d→d.bQ=true→(q24z listed k↔eI ds k < m))→c0.le c→St w0 w→a.defers=a0.defers→Q .normal a w:=by
   intro listed a w c m frc hp cJ kn hf hm kv gE hle aR eX
   have e1:frc=fr':=by
     have h1:=tr.cur hu ds.length (Nat.le_refl _)
     rw[tr.lst] at h1
     apply List.ext_getElem?
     intro t
     refine kn.same h1 t fun k d hd _=> ?_
     have hk:k < ds.length:=(List.getElem?_eq_some_iff.1 hd).1
     exact ⟨fun _=> hk,fun _=> cJ k (by omega)⟩
   have e2:m=eI ds ds.length:=by
     have h1:m < hs.length:=(List.getElem?_eq_some_iff.1 hm).1
     rw[tr.len] at h1
     rcases Nat.lt_or_ge m (eI ds ds.length) with h2 | h2
     ·obtain ⟨k,d,h3,h4,h5,h6⟩:=jv ds h2
      have:=(gE k d h4 h5).1 (cJ k (by omega))
      omega
     ·omega
   have e3:hp=h':=by
     rw[e2,tr.Eb] at hm
     exact (Option.some.inj hm).symm
   subst e1 e3
   exact hE a c w hf kv hle aR eX
 have stp:∀(fuel:Nat),(∀(listed:Array Bool) (a:Act) (w:World) (c:Ctx) (m:Nat) (frc:Fr) (hp:Hp),listed.size=all.length→listed.toList.count true+fuel=all.length→Clo all (q24z listed)→tJ ds lL vals (q24z listed) frc→
  RF (ak P) c frc a→hs[m]? =some hp→bc (ak P) c hp w→(∀(k:Nat) (d:GD),ds[k]? =some d→d.bQ=true→(q24z listed k↔eI ds k < m))→c0.le c→St w0 w→a.defers=a0.defers→
  wpAny P .any all.toArray Q fuel listed a w)→
   ∀(listed:Array Bool) (a:Act) (w:World) (c:Ctx) (m:Nat) (frc:Fr) (hp:Hp),listed.size=all.length→listed.toList.count true+(fuel+1)=all.length→Clo all (q24z listed)→tJ ds lL vals (q24z listed) frc→
    RF (ak P) c frc a→hs[m]? =some hp→bc (ak P) c hp w→(∀(k:Nat) (d:GD),ds[k]? =some d→d.bQ=true→(q24z listed k↔eI ds k < m))→c0.le c→St w0 w→a.defers=a0.defers→
    ∀i∈Region.ready .any all.toArray listed,wpOp P all.toArray Q i (wpAny P .any all.toArray Q fuel (listed.setIfInBounds i true)) a w:=by
   intro fuel ih listed a w c m frc hp cI lh oG kn hf hm kv gE hle aR eX i hi
   obtain ⟨lV,o,ho,tm⟩:=mem_ready.1 hi
   rw[List.getElem?_toArray] at ho
   have hil:i < all.length:=(List.getElem?_eq_some_iff.1 ho).1
   have Ea:¬q24z listed i:=by
     unfold q24z
     have:i < listed.size:=by omega
     simp only[Array.getD_eq_getD_getElem?,Array.getElem?_eq_getElem this,Option.getD_some] at lV ⊢
     simp[lV]
   have hd:ds[i]? =some ds[i]:=List.getElem?_eq_getElem (by omega)
   have hg:cog P obj all o=some (ds[i]'(by omega)).g:=Wb i o _ ho (by rw[List.getElem?_map,hd];rfl)
   generalize ds[i]'(by omega)=d at hd hg
   have wq:∀p,(dO [] all)[i]? =some p→∀k,p.testBit k=true→q24z listed k:=lg oG i o ho (fun e he hb=> tm e he hb)
   have ve:∀k q,(dO [] all)[k]? =some q→q.testBit i=true→¬q24z listed k:=fun k q hq hb hk=> by
     have fV:k < all.length:=by
       have:=(List.getElem?_eq_some_iff.1 hq).1
       rw[fe] at this;simpa using this
     have IQ:all[k]? =some all[k]:=List.getElem?_eq_getElem fV
     exact Ea (lg oG k _ IQ (fun e he hb=> oG k _ IQ hk e he hb) q hq i hb)
   have mU:∀t∈d.g.reads,frc[t]? =(frs i)[t]? :=fun t ht=> by
     refine kn.same (tr.cur hu i (by omega)) t fun k e he het=> ?_
     by_cases hki:k=i
     ·subst hki
      exact ⟨fun h=> absurd h Ea,fun h=> absurd h (Nat.lt_irrefl _)⟩
     ·obtain ⟨p,q,h1,h2,h3⟩:=pz gP hd he (fun h=> hki h.symm) het ht
      split at h3
      ·rename_i bW
       exact ⟨fun _=> bW,fun _=> wq p h1 k h3⟩
      ·rename_i bW
       exact ⟨fun h=> absurd h (ve k q h2 h3),fun h=> absurd h bW⟩
   have IS:∃hq m',stepG cf base frc hp d.g=some (vals i,hq)∧hs[m']? =some hq∧(∀(k:Nat) (e:GD),ds[k]? =some e→e.bQ=true→(q24z (listed.setIfInBounds i true) k↔eI ds k < m')):=by
     by_cases he:d.bQ=true
     ·obtain ⟨Hv,hq,h1,h2,h3⟩:=tr.bQ i d hd he
      have hmi:eI ds i=m:=by
        have h4:¬eI ds i < m:=fun h=> Ea ((gE i d hd he).2 h)
        rcases Nat.lt_or_ge m (eI ds i) with h5 | h5
        ·obtain ⟨k,e,h6,h7,h8,h9⟩:=jv ds h5
         obtain ⟨p,h10,h11⟩:=qP gP hd h7 he h8 h6
         have:=(gE k e h7 h8).1 (wq p h10 k h11)
         omega
        ·omega
      rw[hmi,hm] at h1
      cases h1
      refine ⟨hq,m+1,?_,hmi ▸ h2,fun k e xt y0=> ?_⟩
      ·rw[jw mU];exact h3
      ·rw[cV (by omega),gE k e xt y0]
       constructor
       ·rintro (h | rfl)
        ·omega
        ·omega
       ·intro h
        rcases Nat.lt_or_ge (eI ds k) m with h5 | h5
        ·exact Or.inl h5
        ·right
         rcases Nat.lt_trichotomy k i with h6 | h6 | h6
         ·have:=wm xt y0 h6;omega
         ·exact h6
         ·have:=wm hd he h6;omega
     ·have FL:d.bQ=false:=by simpa using he
      have Yx:m < eI ds ds.length+1:=by
        have:=(List.getElem?_eq_some_iff.1 hm).1
        rw[tr.len] at this;exact this
      have Qw:d.lo≤m:=by
        rcases Nat.lt_or_ge m d.lo with h5 | h5
        ·have h6:=gh d (List.mem_of_getElem? hd)
         obtain ⟨k,e,h7,h8,h9,h10⟩:=jv ds (show m < eI ds ds.length by omega)
         obtain ⟨p,q,h11,h12,h13,h14⟩:=nk gP hd h8 FL h9
         have:=(gE k e h8 h9).1 (wq p h11 k (h13 (by omega)))
         omega
        ·exact h5
      have Qx:m≤d.hi:=by
        rcases Nat.lt_or_ge d.hi m with h5 | h5
        ·obtain ⟨k,e,h7,h8,h9,h10⟩:=jv ds (show d.hi < eI ds ds.length by omega)
         obtain ⟨p,q,h11,h12,h13,h14⟩:=nk gP hd h8 FL h9
         exact absurd ((gE k e h8 h9).2 (by omega)) (ve k q h12 (h14 (by omega)))
        ·exact h5
      refine ⟨hp,m,?_,hm,fun k e xt y0=> ?_⟩
      ·rw[jw mU];exact AM i d hd FL m hp Qw Qx hm
      ·rw[cV (by omega),gE k e xt y0]
       constructor
       ·rintro (h | rfl)
        ·exact h
        ·rw[hd] at xt;cases xt;rw[FL] at y0;cases y0
       ·exact Or.inl
   obtain ⟨hq,m',h1,h2,h3⟩:=IS
   unfold wpOp
   rw[List.getElem?_toArray,ho]
   simp only
   refine te (Q:=Q) hL fj hg hf kv h1 fun u c' w' hv dh Ec gB=> ?_
   refine ih _ _ w' c' m' (gu frc d.g.dst (vals i)) hq (by simpa using cI) ?_ ?_ ?_ ?_ h2 dh h3 (hle.trans Ec) (aR.trans gB) (by rw[ju,eX])
   ·have dE:listed.toList[i]? =some false:=by
      have:i < listed.size:=by omega
      rw[Array.getElem?_toList,Array.getElem?_eq_getElem this]
      simp only[q24z,Array.getD_eq_getD_getElem?,Array.getElem?_eq_getElem this,Option.getD_some,Bool.not_eq_true] at Ea
      rw[Ea]
    have bW:i < listed.toList.length:=(List.getElem?_eq_some_iff.1 dE).1
    have xM:listed.toList[i]=false:=by simpa[List.getElem?_eq_getElem bW] using dE
    rw[Array.toList_setIfInBounds,List.count_set bW,xM]
    show List.count true listed.toList - 0+1+fuel=all.length
    omega
   ·intro j o' jK hj e he hb
    rw[cV (by omega)]
    rcases (cV (by omega) j).1 hj with hj | rfl
    ·exact Or.inl (oG j o' jK hj e he hb)
    ·rw[ho] at jK;cases jK
     exact Or.inl (tm e he hb)
   ·exact kn.step hu hd fun k=> cV (by omega) k
   ·rw[(kj hg).2.1]
    exact RF.put (hf.mono Ec) hv o.dst
 intro fuel
 induction fuel with
 | zero=>
   intro listed a w c m frc hp cI lh oG kn hf hm kv gE hle aR eX
   have cJ:∀j,j < all.length→q24z listed j:=fun j hj=> by
     have h1:listed.toList.count true=listed.toList.length:=by simp at lh ⊢;omega
     have h2:=List.count_eq_length.1 h1
     have h3:j < listed.size:=by omega
     have:=h2 listed.toList[j] (List.getElem_mem _)
     simp only[q24z,Array.getD_eq_getD_getElem?,Array.getElem?_eq_getElem h3,Option.getD_some]
     simpa using this.symm
   refine ⟨?_,fin listed a w c m frc hp cJ kn hf hm kv gE hle aR eX⟩
   apply List.eq_nil_iff_forall_not_mem.2
   intro i hi
   obtain ⟨h1,o,ho,_⟩:=mem_ready.1 hi
   rw[List.getElem?_toArray] at ho
   have hil:i < all.length:=(List.getElem?_eq_some_iff.1 ho).1
   have:=cJ i hil
   have h3:i < listed.size:=by omega
   simp only[q24z,Array.getD_eq_getD_getElem?,Array.getElem?_eq_getElem h3,Option.getD_some] at this h1
   rw[this] at h1;cases h1
 | succ fuel ih=>
   intro listed a w c m frc hp cI lh oG kn hf hm kv gE hle aR eX
   refine ⟨fun np=> ?_,stp fuel ih listed a w c m frc hp cI lh oG kn hf hm kv gE hle aR eX⟩
   have cJ:∀j,j < all.length→q24z listed j:=by
     intro j
     induction j using Nat.strongRecOn with
     | _ j ihj=>
       intro hj
       by_cases hn:q24z listed j
       ·exact hn
       ·exfalso
        have ho:all[j]? =some all[j]:=List.getElem?_eq_getElem hj
        have:j∈Region.ready .any all.toArray listed:=by
          refine mem_ready.2 ⟨?_,all[j],by rw[List.getElem?_toArray,ho],fun e he hb=> ?_⟩
          ·have h3:j < listed.size:=by omega
           simp only[q24z,Array.getD_eq_getD_getElem?,Array.getElem?_eq_getElem h3,Option.getD_some,Bool.not_eq_true] at hn ⊢
           exact hn
          ·have:=IP j _ ho e he hb
           exact ihj e.on this (by omega)
        rw[np] at this
        cases this
   exact fin listed a w c m frc hp cJ kn hf hm kv gE hle aR eX
theorem AN {id:Nat} {all:List Oper} {ds:List GD} (tQ:P.follows .mixedOrders=true) (hc:rh P obj all all=some (ds.map (·.g))) (gP:eW all ds=true) {c:Ctx} {h:Hp} {w:World} {fr:Fr} {a:Act}
 (hf:RF (ak P) c fr a) (hs:bc (ak P) c h w) {fr':Fr} {h':Hp} (hr:bL cf base ds fr h=some (fr',h')) {Q:Exit→Act→World→Prop} (hE:Ends P c w a fr' h' (Q .normal)):
 (Code.region id all.toArray true).wp P Q a w:=by
 obtain ⟨vals,frs,hps,tr,hq⟩:=Cm cf base hr
 refine wp_region_any tQ ?_
 refine vd hL fj hc gP tr hq (c0:=c) (a0:=a) (w0:=w) hE _ _ a _ c 0 fr h (by simp) ?_ ?_ ?_ hf tr.yq hs.drew ?_ (Ctx.le_refl c) (St.drew w) rfl
 ·simp[List.count_replicate]
 ·intro j o ho hj
  simp only[q24z,Array.getD_eq_getD_getElem?,Array.getElem?_replicate] at hj
  split at hj <;> simp at hj
 ·refine tJ.start ds fr vals fun k hk=> ?_
  simp only[q24z,Array.getD_eq_getD_getElem?,Array.getElem?_replicate] at hk
  split at hk <;> simp at hk
 ·intro k d hd he
  constructor
  ·intro hk
   simp only[q24z,Array.getD_eq_getD_getElem?,Array.getElem?_replicate] at hk
   split at hk <;> simp at hk
  ·intro hk;omega
end
end Go.Vm
namespace Go.Vm
def O.indep :O→Bool
 | .mv | .pick | .bin _ _ | .zd _ _ _ | .eqs _ _ _ | .un _ | .aN | .CK _ _ | .idx _ | .DN | .dF _ _ _ | .jf _ _ _ | .sls _ _ | .len | .DO | .cap | .ig _ | .mki _ | .tas _ _ _ | .ext _ | .min | .max | .mkf _ | .nop | .fzp _ | .Fx _ _ _=> true
 | .s2b lit=> lit
 | _=> false
def bare (h:Hp) (o:Option (V×Hp)):Option (V×Hp):=o.map fun r=>(r.1,h)
theorem Qy (h:Hp) (c a b:V):sE h c a b=bare h (sE [] c a b):=by unfold sE;split <;> rfl
theorem Wc (h:Hp) (cl:Cl) (op:BinOp) (x y:V):lK h cl op x y=bare h (lK [] cl op x y):=by unfold lK;cases vT cl op x y <;> rfl
theorem Yy (h:Hp) (op:UnOp) (x:V):(unV op x).bind (js · h)=bare h ((unV op x).bind (js · [])):=by cases unV op x <;> rfl
theorem Wd (h:Hp) (t:Nat) (k:IntKind) (n:Bool) (x y:V):sF h t k n x y=bare h (sF [] t k n x y):=by
 unfold sF;split
 ·split
  ·split <;> rfl
  ·rfl
 ·rfl
theorem We (h:Hp) (t:Nat) (k:List LK) (n:Bool) (x y:V):uJ h t k n x y=bare h (uJ [] t k n x y):=by
 unfold uJ;split
 ·split
  ·split
   ·split <;> rfl
   ·rfl
  ·rfl
 ·rfl
theorem Wf (h:Hp) (x:V):xS h x=bare h (xS [] x):=by unfold xS;split <;> rfl
theorem Wg (h:Hp) (t i:Nat) (x:V):sI h t i x=bare h (sI [] t i x):=by
 unfold sI;split
 ·split
  ·rename_i fs _;cases fs[i]? <;> rfl
  ·rfl
 ·rfl
theorem Wh (h:Hp) (t:Nat) (x y:V):qz h t x y=bare h (qz [] t x y):=by
 unfold qz;split
 ·split
  ·rename_i es i _ _;cases es[i.toNat]? <;> rfl
  ·rfl
 ·rfl
theorem Qz (h:Hp) (x y:V):oz h x y=bare h (oz [] x y):=by
 unfold oz;split
 ·split
  ·split <;> rfl
  ·rfl
 ·rfl
theorem QA (h:Hp) (t:Nat) (z:List V) (p:List Nat) (xs:List V):p9 h t z p xs=bare h (p9 [] t z p xs):=by
 unfold p9;split
 ·cases bD z (p.zip xs)<;> rfl
 ·rfl
theorem QB (h:Hp) (t:Nat) (z:List V) (p:List Nat) (xs:List V):qa h t z p xs=bare h (qa [] t z p xs):=by
 unfold qa;split
 ·cases bD z (p.zip xs)<;> rfl
 ·rfl
theorem Cp (h:Hp) (lo hi:Bool) (x:V) (bs:List V):uP h lo hi x bs=bare h (uP [] lo hi x bs):=by
 unfold uP;split
 ·split
  ·split <;> rfl
  ·rfl
 ·rfl
theorem Wi (h:Hp) (t:Option Nat) (z:List V) (p:List Nat) (xs:List V):sP h t z p xs=bare h (sP [] t z p xs):=by
 unfold sP;split
 ·cases bD z (p.zip xs)<;> rfl
 ·rfl
theorem Wj (h:Hp) (g:Option Nat) (x:V):qI h g x=bare h (qI [] g x):=by unfold qI;split <;> rfl
theorem Wk (h:Hp) (x:V):sL h x=bare h (sL [] x):=by unfold sL;cases fq x <;> rfl
theorem Wl (h:Hp) (x:V):uN h x=bare h (uN [] x):=by unfold uN;split <;> rfl
theorem QC (h:Hp) (x:V):qb h x=bare h (qb [] x):=by unfold qb;split <;> rfl
theorem Wm (h:Hp) (k:IntKind) (x:V):uQ h k x=bare h (uQ [] k x):=by unfold uQ;cases numOf x <;> rfl
theorem Wn (h:Hp) (t:Nat) (ok:Bool) (z x:V):uS h t ok z x=bare h (uS [] t ok z x):=by
 unfold uS;split
 ·split
  ·rfl
  ·split <;> rfl
 ·rfl
theorem Wo (h:Hp) (i:Nat) (x:V):uT h i x=bare h (uT [] i x):=by
 unfold uT;split
 ·rename_i vs;cases vs[i]? <;> rfl
 ·rfl
theorem Yz (h:Hp) (mx:Bool) (x y:V):sN h mx x y=bare h (sN [] mx x y):=by unfold sN;split <;> rfl
theorem Wp (h:Hp) (x:V):qH h true x=bare h (qH [] true x):=by unfold qH;split <;> rfl
theorem IT (cf:Nat→List V→Hp→Option (V×Hp)) (base:Nat) {o:O} (hi:o.indep=true) (xs:List V) (h:Hp):aB cf base h o xs=bare h (aB cf base [] o xs):=by
 cases o <;> simp only[O.indep] at hi <;> try (cases hi;done)
 case dF t z p=> exact QA h t z p xs
 case jf t z p=> exact QB h t z p xs
 case mkf f=> rfl
 case Fx t z p=> exact Wi h t z p xs
 case s2b lit=>
   subst hi
   match xs with
   | []=> rfl
   | [x]=> exact Wp h x
   | _::_::_=> rfl
 all_goals
   match xs with
   | []=> first | rfl | done
   | [x]=> first | rfl | exact Yy h _ x | exact Wj h _ x | exact Wf h x | exact Wg h _ _ x | exact Wk h x | exact Wl h x | exact QC h x | exact Wm h _ x | exact Wn h _ _ _ x | exact Wo h _ x | exact Cp h _ _ x []
   | [x,y]=> first | rfl | exact Wc h _ _ x y | exact Wd h _ _ _ x y | exact We h _ _ _ x y | exact Wh h _ x y | exact Qz h x y | exact Yz h _ x y | exact Cp h _ _ x [y]
   | [x,y,z]=> first | rfl | exact Qy h x y z | exact Cp h _ _ x [y,z]
   | x::y::z::t::r=> first | rfl | exact Cp h _ _ x (y::z::t::r)
theorem qj {cf:Nat→List V→Hp→Option (V×Hp)} {base:Nat} {o:O} (hi:o.indep=true) {xs:List V} {h h':Hp} {v:V} (hr:aB cf base h o xs=some (v,h')) (h2:Hp):aB cf base h2 o xs=some (v,h2):=by
 rw[IT cf base hi] at hr ⊢
 cases ho:aB cf base [] o xs with
 | none=> rw[ho] at hr;cases hr
 | some r=>
   rw[ho] at hr
   simp only[bare,Option.map_some,Option.some.injEq,Prod.mk.injEq] at hr ⊢
   exact ⟨hr.1,trivial⟩
theorem i9 {α:Type} {o:Option α} {f:α→V} {h h':Hp} {v:V} (hr:(o.map fun a=>(f a,h))=some (v,h')):h'=h:=by
 cases o with
 | none=> cases hr
 | some a=> simp only[Option.map_some,Option.some.injEq,Prod.mk.injEq] at hr;exact hr.2.symm
theorem YA {h h':Hp} {t i:Nat} {x v:V} (hr:DP h t i x=some (v,h')):h'=h:=by
 unfold DP at hr
 split at hr
 ·split at hr
  ·split at hr
   ·cases hr;rfl
   ·cases hr
  ·cases hr
 ·split at hr
  ·exact i9 (f:=fun v=> .dQ v) hr
  ·cases hr
 ·cases hr
theorem Wq {h h':Hp} {t:Nat} {x y v:V} (hr:uK h t x y=some (v,h')):h'=h:=by
 unfold uK at hr
 split at hr
 ·split at hr
  ·split at hr
   ·split at hr
    ·cases hr;rfl
    ·cases hr
   ·cases hr
  ·split at hr
   ·exact i9 (f:=fun v=> .dQ v) hr
   ·cases hr
  ·cases hr
 ·cases hr
theorem Wr {h h':Hp} {g:Option Nat} {x y v:V} (hr:uL h g x y=some (v,h')):h'=h:=by
 unfold uL at hr
 split at hr
 ·split at hr
  ·split at hr
   ·split at hr
    ·cases hr;rfl
    ·cases hr
   ·cases hr
  ·split at hr
   ·exact i9 (f:=fun v=> .dQ v) hr
   ·cases hr
  ·cases hr
 ·cases hr
theorem Ws {h h':Hp} {g:Option Nat} {x v:V} (hr:re h g x=some (v,h')):h'=h:=by
 unfold re at hr
 split at hr
 ·split at hr
  ·split at hr
   ·cases hr;rfl
   ·cases hr
  ·cases hr
 ·split at hr
  ·cases hr;rfl
  ·cases hr
 ·cases hr
theorem Wt {h h':Hp} {g:Option Nat} {lo hi mx:Bool} {x v:V} {bs:List V} (hr:fZ h g lo hi mx x bs=some (v,h')):h'=h:=by
 unfold fZ at hr
 split at hr
 case h_2=> cases hr
 split at hr
 ·split at hr
  case h_2=> cases hr
  split at hr
  ·exact i9 (f:=id) hr
  ·cases hr
 ·split at hr
  ·exact i9 (f:=id) hr
  ·cases hr
 ·split at hr
  ·exact i9 (f:=id) hr
  ·cases hr
 ·cases hr
theorem Wu {h h':Hp} {t:Nat} {g:Option Nat} {lo hi:Bool} {x v:V} {bs:List V} (hr:qv h t g lo hi x bs=some (v,h')):h'=h:=by
 unfold qv at hr
 split at hr
 case h_2=> cases hr
 split at hr
 ·split at hr
  ·split at hr
   ·split at hr
    ·split at hr
     ·split at hr <;>(cases hr;rfl)
     ·cases hr
    ·cases hr
   ·cases hr
  ·cases hr
 ·split at hr
  ·split at hr
   ·split at hr
    ·cases hr;rfl
    ·cases hr
   ·cases hr
  ·cases hr
 ·cases hr
theorem Wv {h h':Hp} {x v:V} (hr:uR h x=some (v,h')):h'=h:=by
 unfold uR at hr
 obtain ⟨r,_,hr⟩:=Option.bind_eq_some_iff.1 hr
 obtain ⟨l,_,hr⟩:=Option.bind_eq_some_iff.1 hr
 cases hr;rfl
theorem Ww {one:Bool} {h h':Hp} {x v:V} (hr:sM h one x=some (v,h')):h'=h:=by
 unfold sM at hr
 split at hr
 ·split at hr
  ·cases hr;rfl
  ·cases hr
 ·obtain ⟨r,_,hr⟩:=Option.bind_eq_some_iff.1 hr
  obtain ⟨l,_,hr⟩:=Option.bind_eq_some_iff.1 hr
  cases hr;rfl
theorem lP :∀ {ps:List (Nat×V)} {es es':List V},bD es ps=some es'→es'.length=es.length
 | [],es,es',h=> by simp only[bD,Option.some.injEq] at h;subst h;rfl
 | (i,y)::ps,es,es',h=> by
   simp only[bD] at h
   split at h
   ·split at h
    ·rw[lP h,List.length_set]
    ·cases h
   ·cases h
theorem Wx {h h':Hp} {g:Option Nat} {p:List Nat} {xs:List V} {v:V} (hr:nL h g [] p xs=some (v,h')):h'=h:=by
 unfold nL at hr
 split at hr
 ·split at hr
  ·rename_i es he
   have:=lP he
   have:es=[]:=by simpa using this
   subst this
   simp only[List.isEmpty_nil,if_true,Option.some.injEq,Prod.mk.injEq] at hr
   exact hr.2.symm
  ·cases hr
 ·cases hr
theorem Wy {h h':Hp} {kc:Option (Nat×IntKind)} {ok:Bool} {z x y v:V} (hr:xX h kc ok z x y=some (v,h')):h'=h:=by
 unfold xX at hr
 split at hr
 ·split at hr
  ·exact i9 (f:=VT ok z) hr
  ·cases hr
 ·cases hr
theorem Wz {h h':Hp} {x v:V} (hr:yb h x=some (v,h')):h'=h:=by
 unfold yb at hr
 split at hr
 ·split at hr
  ·cases hr;rfl
  ·cases hr
 ·cases hr
theorem vf {cf:Nat→List V→Hp→Option (V×Hp)} {base:Nat} {o:O} (he:o.bQ=false) {xs:List V} {h h':Hp} {v:V} (hr:aB cf base h o xs=some (v,h')):h'=h:=by
 by_cases hi:o.indep=true
 ·have:=qj hi hr h
  rw[hr] at this
  cases this;rfl
 cases o <;> simp only[O.indep,not_true_eq_false,Bool.not_eq_true,Bool.false_eq_true,not_false_eq_true] at hi <;> simp only[O.bQ] at he <;> try (cases he;done)
 case s2b lit=> subst hi;simp at he
 case ie f=>
   simp only[aB,sO] at hr
   split at hr
   ·split at hr
    ·cases hr;rfl
    ·cases hr
   ·cases hr
 case bad=> simp[aB] at hr
 case ja g z p=>
   have:z=[]:=by simpa using he
   subst this
   exact Wx hr
 case fa t i=> match xs,hr with
   | [x],hr=> exact YA hr
   | [],hr=> cases hr
   | _::_::_,hr=> cases hr
 case jj t=> match xs,hr with
   | [x,y],hr=> exact Wq hr
   | [],hr=> cases hr
   | [_],hr=> cases hr
   | _::_::_::_,hr=> cases hr
 case di t=> match xs,hr with
   | [x,y],hr=> exact Wr hr
   | [],hr=> cases hr
   | [_],hr=> cases hr
   | _::_::_::_,hr=> cases hr
 case ld g=> match xs,hr with
   | [x],hr=> exact Ws hr
   | [],hr=> cases hr
   | _::_::_,hr=> cases hr
 case jg g a b c=> match xs,hr with
   | x::bs,hr=> exact Wt hr
   | [],hr=> cases hr
 case qp t g a b=> match xs,hr with
   | x::bs,hr=> exact Wu hr
   | [],hr=> cases hr
 case lku kc ok z=> match xs,hr with
   | [x,y],hr=> exact Wy hr
   | [],hr=> cases hr
   | [_],hr=> cases hr
   | _::_::_::_,hr=> cases hr
 case mln=> match xs,hr with
   | [x],hr=> exact Wz hr
   | [],hr=> cases hr
   | _::_::_,hr=> cases hr
 case Fv=> match xs,hr with
   | [x],hr=> exact Wv hr
   | [],hr=> cases hr
   | _::_::_,hr=> cases hr
 case r2s=> match xs,hr with
   | [x],hr=> exact Ww hr
   | [],hr=> cases hr
   | _::_::_,hr=> cases hr
theorem qQ {cf:Nat→List V→Hp→Option (V×Hp)} {base:Nat} {g:G} (he:g.op.bQ=false) {fr:Fr} {h h':Hp} {v:V} (hr:stepG cf base fr h g=some (v,h')):h'=h:=by
 unfold stepG at hr
 split at hr
 ·exact vf he hr
 ·cases hr;rfl
 ·cases hr
theorem yr {cf:Nat→List V→Hp→Option (V×Hp)} {base:Nat} {g:G} (hi:g.op.indep=true) {fr:Fr} {h h':Hp} {v:V} (hr:stepG cf base fr h g=some (v,h')) (h2:Hp):stepG cf base fr h2 g=some (v,h2):=by
 unfold stepG at hr ⊢
 split at hr
 ·exact qj hi hr h2
 ·cases hr;rfl
 ·cases hr
end Go.Vm
namespace Go.Vm
variable {P : Program} {obj : Nat → Bool}
structure kz where
 i:Nat
 j:Nat
 t:Nat
 T:Nat
 deriving DecidableEq
def yt (obj:Nat→Bool):O→O
 | .call f=> if obj (1000000+f) then .call f else .ie f
 | .ja g z p=> if obj 2000000 then .ja g z p else .Fx g z p
 | o=> o
def Cq (obj:Nat→Bool) (g:G):G:=⟨g.dst,yt obj g.op,g.xs,g.guard⟩
def IU (P:Program) (obj:Nat→Bool) (all:List Oper) (prs:List kz) (n:Nat) (o:Oper):Option G:=
 if prs.any (fun p=> p.i==n) then some ⟨none,.nop,[],none⟩
 else match prs.find? (fun p=> p.j==n),o.op with
   | some p,.store T _ x=>(eu P T x).map fun X=>⟨some p.t,.fzp (aC P T),[X],none⟩
   | some _,_=> none
   | none,_=>(cog P obj all o).map (Cq obj)
def qR (P:Program) (obj:Nat→Bool) (all:List Oper) (prs:List kz):Nat→List Oper→Option (List G)
 | _,[]=> some []
 | n,o::os=> match IU P obj all prs n o,qR P obj all prs (n+1) os with
   | some g,some gs=> some (g::gs)
   | _,_=> none
theorem mV {all:List Oper} {prs:List kz}:∀ {os:List Oper} {gs:List G} {n:Nat},qR P obj all prs n os=some gs→gs.length=os.length∧∀(j:Nat) (o:Oper) (g:G),os[j]? =some o→gs[j]? =some g→IU P obj all prs (n+j) o=some g
 | [],gs,n,h=> by
   simp only[qR,Option.some.injEq] at h
   subst h
   exact ⟨rfl,fun j o g ho=> by simp at ho⟩
 | o::os,gs,n,h=> by
   simp only[qR] at h
   split at h
   case h_2=> cases h
   rename_i g gs' hg ij
   simp only[Option.some.injEq] at h
   subst h
   obtain ⟨h1,h2⟩:=mV ij
   refine ⟨by simp[h1],fun j o' g' ho FI=> ?_⟩
   cases j with
   | zero=>
     simp only[List.getElem?_cons_zero,Option.some.injEq] at ho FI
     subst ho FI
     exact hg
   | succ j=>
     have:=h2 j o' g' (by simpa using ho) (by simpa using FI)
     rw[←this];congr 1;omega
def IV (P:Program) (obj:Nat→Bool) (all:List Oper) (gs:List G) (prs:List kz) (p:kz):Bool:=
 (match all[p.i]? with
   | some o=>(match o.op with | .alloc T=> T==p.T | _=> false)&& o.guard.isNone && o.dst==some p.t &&(zeroOf P obj p.T).isSome && nQ P p.T
   | none=> false)&&
 (match all[p.j]?,(dO [] all)[p.j]? with
   | some o,some q=>(match o.op with | .store T (.tmp t) _=> T==p.T && t==p.t | _=> false)&& o.guard.isNone && o.dst.isNone && q.testBit p.i
   | _,_=> false)&&
 ((List.range gs.length).all fun k=> match gs[k]?,(dO [] all)[k]? with
   | some g,some q=> !g.reads.contains p.t || q.testBit p.j
   | _,_=> true)&&
 prs.all fun q=>(q.t !=p.t && q.i !=p.i && q.j !=p.j) || decide (q=p)
structure wt (P:Program) (obj:Nat→Bool) (all:List Oper) (gs:List G) (prs:List kz) (p:kz):Prop where
 lay:∃o,all[p.i]? =some o∧o.op= .alloc p.T∧o.guard=none∧o.dst=some p.t
 zero:∃z,zeroOf P obj p.T=some z
 tg:nQ P p.T=true
 fill:∃o x q,all[p.j]? =some o∧o.op= .store p.T (.tmp p.t) x∧o.guard=none∧o.dst=none∧(dO [] all)[p.j]? =some q∧q.testBit p.i=true
 look:∀(k:Nat) (g:G) (q:Nat),gs[k]? =some g→(dO [] all)[k]? =some q→p.t∈g.reads→q.testBit p.j=true
 one:∀q∈prs,(q.t≠p.t∧q.i≠p.i∧q.j≠p.j)∨q=p
theorem IW {all:List Oper} {gs:List G} {prs:List kz} {p:kz} (h:IV P obj all gs prs p=true):wt P obj all gs prs p:=by
 simp only[IV,Bool.and_eq_true] at h
 obtain ⟨⟨⟨h1,h2⟩,h3⟩,h4⟩:=h
 split at h1
 case h_2=> cases h1
 rename_i o ho
 simp only[Bool.and_eq_true] at h1
 obtain ⟨⟨⟨⟨a1,a2⟩,a3⟩,a4⟩,a5⟩:=h1
 split at h2
 case h_2=> cases h2
 rename_i o' q jK hq
 simp only[Bool.and_eq_true] at h2
 obtain ⟨⟨⟨b1,b2⟩,b3⟩,b4⟩:=h2
 constructor
 ·refine ⟨o,ho,?_,by simpa using a2,by simpa using a3⟩
  split at a1
  ·rename_i T hT;rw[hT];simp at a1;rw[a1]
  ·cases a1
 ·exact Option.isSome_iff_exists.1 a4
 ·exact a5
 ·split at b1
  ·rename_i T t x hT
   simp only[Bool.and_eq_true,beq_iff_eq] at b1
   obtain ⟨rfl,rfl⟩:=b1
   exact ⟨o',x,q,jK,hT,by simpa using b2,by simpa using b3,hq,b4⟩
  ·cases b1
 ·intro k g q hg hq ht
  have:=List.all_eq_true.1 h3 k (List.mem_range.2 (List.getElem?_eq_some_iff.1 hg).1)
  simp only[hg,hq,Bool.or_eq_true,Bool.not_eq_true',List.contains_eq_mem,decide_eq_false_iff_not] at this
  rcases this with h | h
  ·exact absurd ht h
  ·exact h
 ·intro q hq
  have:=List.all_eq_true.1 h4 q hq
  simp only[Bool.or_eq_true,Bool.and_eq_true,bne_iff_ne,ne_eq,decide_eq_true_eq] at this
  rcases this with ⟨⟨x,y⟩,z⟩ | h
  ·exact .inl ⟨x,y,z⟩
  ·exact .inr h
end Go.Vm
namespace Go.Vm
variable {P : Program} {obj : Nat → Bool} {c : Ctx} {h : Hp} {w : World}
theorem fC.eN {L:cq} {c':Ctx} (hle:c.DK c'):∀ {vs:List V} {us:List Value},fC L c vs us→fC L c' vs us
 | [],[],_=> trivial
 | _::_,_::_,h=>⟨h.1.eN hle,fC.eN hle h.2⟩
 | [],_::_,h=> h.elim
 | _::_,[],h=> h.elim
theorem AO {r:Option (V×Hp)} {h h':Hp} {v:V} (e:sO r h=some (v,h')):r=some (v,h')∧h'=h:=by
 unfold sO at e
 split at e
 ·split at e
  ·rename_i hh
   simp only[Option.some.injEq,Prod.mk.injEq] at e
   obtain ⟨rfl,rfl⟩:=e
   exact ⟨by rw[hh],rfl⟩
  ·cases e
 ·cases e
section
variable (hL : (ak P).OK) {cf : Nat → List V → Hp → Option (V × Hp)} {base : Nat} (fj : cy P (ak P) cf)
include hL fj
theorem AP {o:Oper} {g:O} {xs:List X} {fr:Fr} {a:Act} {v:V} {h':Hp} (hf:RF (ak P) c fr a) (hs:bc (ak P) c h w) (hc:rH P obj o.type o.op=some (g,xs)) (ah:aB cf base h (yt obj g) (xs.map (X.ev fr))=some (v,h')):
 pv P (ak P) c w ((execOp a.eval o).run P w) v h':=by
 by_cases iu:∃f,g= .call f
 ·obtain ⟨f,rfl⟩:=iu
  simp only[yt] at ah
  split at ah
  ·exact sound hL fj hf hs hc ah
  ·simp only[aB] at ah
   exact sound (base:=base) hL fj hf hs hc (AO ah).1
 ·by_cases hb:∃gg z p,g= .ja gg z p
  ·obtain ⟨gg,z,pl,rfl⟩:=hb
   simp only[yt] at ah
   split at ah
   ·exact sound hL fj hf hs hc ah
   ·obtain ⟨dst,op,ty,pos,after,guard⟩:=o
    simp only at hc ⊢
    cases op <;> simp only[rH] at hc
    case buildSlice t n parts=>
      split at hc
      case h_2=> cases hc
      rename_i el hu
      split at hc
      case h_2=> cases hc
      rename_i z hz
      split at hc
      case isFalse=> cases hc
      rename_i aT
      obtain ⟨je,gq,hn⟩:=aT
      obtain ⟨ys,hy,he⟩:=Option.map_eq_some_iff.1 hc
      simp only[Prod.mk.injEq] at he
      obtain ⟨he,rfl⟩:=he
      obtain ⟨rfl,rfl,rfl⟩:=IE he
      have hv:=q12z hf hy
      rw[List.map_map] at hv
      simp only[aB] at ah
      obtain ⟨rb,iT,gZ⟩:=cO hz
      have:=q7z (P:=P) (PO (P:=P) (T:=t) hL hs hu (cB je) gq rb iT gZ hn (us:=parts.toList.map fun p=> a.eval p.2) (by simpa using hv.length) hv.get ah)
      rw[←mS] at this
      simpa only[execOp,Sem.run_bind,Sem.run_pure] using this
    all_goals (exfalso;revert hc;repeat' split)
    all_goals first | (simp[Option.map_eq_some_iff,Option.bind_eq_some_iff,IF];done) | (intro hc;simp_all;done)
  ·have:yt obj g=g:=by
     cases g <;> first
       | rfl
       | exact absurd ⟨_,rfl⟩ iu
       | exact absurd ⟨_,_,_,rfl⟩ hb
   rw[this] at ah
   exact sound hL fj hf hs hc ah
theorem Ed {ops:List Oper} {o:Oper} {g:G} (hg:cog P obj ops o=some g) {fr:Fr} {a:Act} (hf:RF (ak P) c fr a) (hs:bc (ak P) c h w) {v:V} {h':Hp} (aR:Vm.stepG cf base fr h (Cq obj g)=some (v,h'))
 {K:Act→World→Prop} {Q:Exit→Act→World→Prop}
 (hK:∀u c' w',RV (ak P) c' v u→bc (ak P) c' h' w'→c.le c'→St w w'→K (a.put o.dst u) w'):
 if Region.wanted o (yielded ops.toArray a.tmps) then o.wp P a w K Q∨(o.asks P a w∧LetsOut Q) else K (a.put o.dst undef) w:=by
 unfold Vm.stepG at aR
 have WA:want fr (Cq obj g)=want fr g:=rfl
 rw[WA] at aR
 split at aR
 ·rename_i hw
  rw[jt hg hf hw,if_pos rfl]
  obtain ⟨hc,hd,_⟩:=kj hg
  left
  unfold Oper.wp
  rcases AP hL fj hf hs hc aR with ⟨u,c',w',hr,hv,dh,hle,gB⟩ | ⟨f,us,hr,iu⟩
  ·rcases hr with hr | ⟨hr,rfl⟩
   ·rw[hr];exact hK u c' w' hv dh hle gB
   ·rw[hr];exact hK undef c' w' hv dh hle gB
  ·rw[hr]
   refine Calls.mono iu fun e w' he=> ?_
   obtain ⟨u,c',rfl,hv,dh,hle,gB⟩:=he
   exact hK u c' w' hv dh hle gB
 ·rename_i hw
  simp only[Option.some.injEq,Prod.mk.injEq] at aR
  obtain ⟨rfl,rfl⟩:=aR
  rw[jt hg hf hw]
  exact hK undef c w (cx.2 ⟨[],rfl,trivial⟩) hs (Ctx.le_refl c) (St.refl w)
 ·cases aR
theorem IX {o:Oper} {T t:Nat} (ho:o.op= .alloc T) (hd:o.dst=some t) {z:V} (hz:zeroOf P obj T=some z) {a:Act} (hs:bc (ak P) c h w) {K:Act→World→Prop} {Q:Exit→Act→World→Prop}
 (hK:∀cs:Array Value,cs.size=(ak P).az (aC P T)→bc (ak P) (c.dD w.heap.size (yd cs T)) h (w.alloc (.cells cs T))→K (a.put (some t) (.pointer (some ⟨w.heap.size,0,none⟩))) (w.alloc (.cells cs T))):
 o.wp P a w K Q:=by
 obtain ⟨⟨i,zv,h1,h2,h3⟩,hzt,gZ⟩:=cO hz
 have hlen:=(h3 c).aQ hL gZ
 have bb:(Instr.alloc T true (.tuple #[])).run P w= .ok (.pointer (some ⟨w.heap.size,0,none⟩)) (w.alloc (.cells zv.cells T)):=by
   have e:(Instr.alloc T true (.tuple #[])).run P w=(Instr.box T zv).run P w:=by
     simp[Instr.alloc,Instr.box,zeroValue,typeInfo,h1,h2]
   rw[e];simp[Instr.box,newVar,newRow]
 unfold Oper.wp
 have hex:(execOp a.eval o).run P w= .ok (.value (.pointer (some ⟨w.heap.size,0,none⟩))) (w.alloc (.cells zv.cells T)):=by
   obtain ⟨dst,op,ty,pos,after,guard⟩:=o
   simp only at ho
   subst ho
   simp only[execOp,Sem.run_bind,bb,Result.andThen_ok,Sem.run_pure]
 rw[hex,Oper.upon_value,hd]
 exact hK zv.cells (by rw[←hzt];simpa using hlen) (hs.Io _ _ (uU _ _))
theorem Ee {o:Oper} {T t:Nat} {x:Operand} (ho:o.op= .store T (.tmp t) x) (hd:o.dst=none) (je:nQ P T=true) {X0:X} (hx:eu P T x=some X0) {fr:Fr} {a:Act} (hf:RF (ak P) c fr a) (hs:bc (ak P) c h w)
 {b:Nat} (ht:a.tmps[t]? =some (.pointer (some ⟨b,0,none⟩))) {cs:Array Value} (hb:c.z b=some (yd cs T)) (xL:cs.size=(ak P).az (aC P T)) {v:V} {h':Hp} (ah:qI h (aC P T) (X0.ev fr)=some (v,h'))
 {K:Act→World→Prop} {Q:Exit→Act→World→Prop}
 (hK:∀cs' w',h'=h→bc (ak P) (c.dD b (.cells cs' T (0,0))) h w'→RV (ak P) (c.dD b (.cells cs' T (0,0))) v (.pointer (some ⟨b,0,none⟩))→St w w'→K a w'):
 o.wp P a w K Q:=by
 have hv:=q23z hf hx
 generalize X0.ev fr=y at hv ah
 unfold qI at ah
 split at ah
 case isFalse=> cases ah
 rename_i hc
 obtain ⟨du,eO⟩:=hc
 simp only[Option.some.injEq,Prod.mk.injEq] at ah
 obtain ⟨rfl,rfl⟩:=ah
 have hg:w.heap[b]? =some (.cells cs T (0,0)):=by have:=hs.z b _ hb;rwa [uU] at this
 have hlen:=hv.aQ hL eO
 have bb:=lN (P:=P) (w:=w) (o:=0) hL (ty:=T) (by rw[du];exact cB je) eO hv hg (by intro j hj;omega) (by rw[du,←xL];omega)
 have iX:=dy b T (0,0) (a.eval x).cells.toList 0 cs w hg (by rw[hlen,du,←xL];omega)
 have AF:(lay cs.toList 0 (a.eval x).cells.toList)=(a.eval x).cells.toList:=by
   simp only[lay,List.take_zero,List.nil_append,Nat.zero_add]
   rw[List.drop_of_length_le (by rw[hlen,du,←xL];simp),List.append_nil]
 rw[AF] at iX
 have hex:(execOp a.eval o).run P w= .ok .skip (w.setCells b 0 (a.eval x).cells.toList):=by
   obtain ⟨dst,op,ty,pos,after,guard⟩:=o
   simp only at ho
   subst ho
   have e1:a.eval (.tmp t)= .pointer (some ⟨b,0,none⟩):=by simp[Act.eval,Array.getD_eq_getD_getElem?,ht]
   have e2:(Instr.storeAt T (a.eval (.tmp t)) (a.eval x)).run P w= .ok () (w.setCells b 0 (a.eval x).cells.toList):=by
     rw[e1];simpa[Instr.storeAt,Instr.sureAddr] using bb
   simp[execOp,e2]
 unfold Oper.wp
 rw[hex,Oper.upon_skip,hd]
 have hnz:∀cs' ty fz,c.z b≠some (.cells cs' ty fz):=by rw[hb];intro _ _ _ h;cases h
 refine hK _ _ rfl (hs.fill hb (fun k hk=> q13z b _ _ _ k hk) iX) (fR.2 ⟨b,0,(a.eval x).cells.toList.toArray,T,(0,0),rfl,by simp[Ctx.dD],?_⟩) (St.setCells _ _ _ _)
 have h1:=((hv.cells eO).1).eN (c.qc b (.cells (a.eval x).cells.toList.toArray T (0,0)) hnz)
 simp only[nb,List.drop_zero,List.toList_toArray]
 rw[List.take_of_length_le (by rw[hlen];exact Nat.le_refl _)]
 exact h1
end
end Go.Vm
namespace Go.Vm
variable {P : Program} {obj : Nat → Bool}
def kC (S:Nat→Prop) (p:kz):Prop:=S p.i∧¬S p.j
structure Lx (P:Program) (prs:List kz) (c0 c:Ctx) (frc:Fr) (a:Act) (S:Nat→Prop) (frm:Fr) (B:Nat→Nat):Prop where
 len:frm.length=frc.length
 same:∀t,(∀p∈prs,p.t=t→¬kC S p)→frm[t]? =frc[t]?
 rf:RF (ak P) c frm a
 at_:∀p∈prs,kC S p→a.tmps[p.t]? =some (.pointer (some ⟨B p.i,0,none⟩))∧c0.z (B p.i)=none∧∃cs:Array Value,c.z (B p.i)=some (yd cs p.T)∧cs.size=(ak P).az (aC P p.T)
 inj:∀p∈prs,∀q∈prs,kC S p→kC S q→B p.i=B q.i→p=q
theorem Ctx.le.dD {c0 c:Ctx} (h:c0.le c) {b:Nat} (hb:c0.z b=none) (o:Obj):c0.le (c.dD b o) where
 z i x hi:=by
   simp only[Ctx.dD]
   by_cases e:i=b
   ·rw[e,hb] at hi;cases hi
   ·rw[if_neg e];exact h.z i x hi
 n:=h.n
 loc:=h.loc
theorem jX {α:Type}:∀ {l:List α} {i:Nat} {x:α},l[i]? =some x→l.set i x=l
 | [],i,x,h=> rfl
 | y::l,0,x,h=> by simp at h;simp[h]
 | y::l,i+1,x,h=> by simp only[List.set_cons_succ];rw[jX (by simpa using h)]
section
variable {all : List Oper} {ds : List GD} {prs : List kz} (hc : qR P obj all prs 0 all = some (ds.map (·.g))) (fY : ∀ p ∈ prs, wt P obj all (ds.map (·.g)) prs p)
include hc fY
theorem QD {p:kz} (hp:p∈prs) {d:GD} (hd:ds[p.i]? =some d):d.g=⟨none,.nop,[],none⟩:=by
 obtain ⟨o,ho,_⟩:=(fY p hp).lay
 have:=(mV hc).2 p.i o d.g ho (by rw[List.getElem?_map,hd];rfl)
 rw[Nat.zero_add] at this
 unfold IU at this
 rw[if_pos (List.any_eq_true.2 ⟨p,hp,by simp⟩)] at this
 exact (Option.some.inj this).symm
theorem QE {p:kz} (hp:p∈prs) {d:GD} (hd:ds[p.j]? =some d):∃o x X0,all[p.j]? =some o∧o.op= .store p.T (.tmp p.t) x∧o.guard=none∧o.dst=none∧eu P p.T x=some X0∧d.g=⟨some p.t,.fzp (aC P p.T),[X0],none⟩:=by
 obtain ⟨o,x,q,ho,ah,hg,tP,_⟩:=(fY p hp).fill
 have:=(mV hc).2 p.j o d.g ho (by rw[List.getElem?_map,hd];rfl)
 rw[Nat.zero_add] at this
 unfold IU at this
 split at this
 ·rename_i h
  obtain ⟨p',m7,e⟩:=List.any_eq_true.1 h
  simp only[beq_iff_eq] at e
  obtain ⟨o',jK,DZ,_⟩:=(fY p' m7).lay
  rw[e,ho] at jK;cases jK
  rw[ah] at DZ;cases DZ
 ·have hf:prs.find? (fun q=> q.j==p.j)=some p:=by
    cases hq:prs.find? (fun q=> q.j==p.j) with
    | none=> exact absurd (List.find?_eq_none.1 hq p hp) (by simp)
    | some q=>
      have h1:=List.mem_of_find?_eq_some hq
      have h2:=List.find?_some hq
      simp only[beq_iff_eq] at h2
      rcases (fY p hp).one q h1 with ⟨_,_,h⟩ | h
      ·exact absurd h2 h
      ·rw[h]
  rw[hf,ah] at this
  simp only at this
  obtain ⟨X0,h1,h2⟩:=Option.map_eq_some_iff.1 this
  exact ⟨o,x,X0,ho,ah,hg,tP,h1,h2.symm⟩
theorem AQ {i:Nat} {o:Oper} {d:GD} (ho:all[i]? =some o) (hd:ds[i]? =some d):(∃p∈prs,p.i=i)∨(∃p∈prs,p.j=i)∨
 ((∀p∈prs,p.i≠i∧p.j≠i)∧∃g,cog P obj all o=some g∧d.g=Cq obj g):=by
 by_cases h1:∃p∈prs,p.i=i
 ·exact .inl h1
 by_cases h2:∃p∈prs,p.j=i
 ·exact .inr (.inl h2)
 refine .inr (.inr ⟨fun p hp=>⟨fun e=> h1 ⟨p,hp,e⟩,fun e=> h2 ⟨p,hp,e⟩⟩,?_⟩)
 have:=(mV hc).2 i o d.g ho (by rw[List.getElem?_map,hd];rfl)
 rw[Nat.zero_add] at this
 unfold IU at this
 rw[if_neg (fun h=> by
  obtain ⟨p,hp,e⟩:=List.any_eq_true.1 h
  exact h1 ⟨p,hp,by simpa using e⟩)] at this
 have hf:prs.find? (fun q=> q.j==i)=none:=List.find?_eq_none.2 fun p hp e=> h2 ⟨p,hp,by simpa using e⟩
 rw[hf] at this
 simp only at this
 obtain ⟨g,e1,e2⟩:=Option.map_eq_some_iff.1 this
 exact ⟨g,e1,e2.symm⟩
end
end Go.Vm
namespace Go.Vm
variable {P : Program} {obj : Nat → Bool}
section
variable (hL : (ak P).OK) {cf : Nat → List V → Hp → Option (V × Hp)} {base : Nat} (fj : cy P (ak P) cf)
include hL fj
theorem AR {all:List Oper} {ds:List GD} {prs:List kz} (hc:qR P obj all prs 0 all=some (ds.map (·.g))) (fY:∀p∈prs,wt P obj all (ds.map (·.g)) prs p) (gP:eW all ds=true) {lL fr':Fr} {h0 h':Hp} {vals:Nat→V} {frs:Nat→Fr} {hs:List Hp}
 (tr:Tr cf base ds lL h0 fr' h' vals frs hs)
 (AM:∀(j:Nat) (d:GD),ds[j]? =some d→d.bQ=false→∀(m:Nat) (hp:Hp),d.lo≤m→m≤d.hi→hs[m]? =some hp→stepG cf base (frs j) hp d.g=some (vals j,hp))
 (QF:inB lL.length ds) {c0:Ctx} {a0:Act} {w0:World} {Q:Exit→Act→World→Prop} (hE:Ends P c0 w0 a0 fr' h' (Q .normal)):
 ∀(fuel:Nat) (listed:Array Bool) (a:Act) (w:World) (c:Ctx) (m:Nat) (frc:Fr) (hp:Hp) (frm:Fr) (B:Nat→Nat),listed.size=all.length→listed.toList.count true+fuel=all.length→Clo all (q24z listed)→tJ ds lL vals (q24z listed) frc→
  Lx P prs c0 c frc a (q24z listed) frm B→hs[m]? =some hp→bc (ak P) c hp w→(∀(k:Nat) (d:GD),ds[k]? =some d→d.bQ=true→(q24z listed k↔eI ds k < m))→c0.le c→St w0 w→a.defers=a0.defers→
  wpAny P .any all.toArray Q fuel listed a w:=by
 have hu:=qO gP
 obtain ⟨hlen,gh,IP⟩:=pA gP
 obtain ⟨Wa,Wb⟩:=mV hc
 have hpi:=fun (p:kz) (hp:p∈prs) (d:GD) (hd:ds[p.i]? =some d)=> QD (p:=p) hc fY hp hd
 have hpj:=fun (p:kz) (hp:p∈prs) (d:GD) (hd:ds[p.j]? =some d)=> QE (p:=p) hc fY hp hd
 have fin:∀(listed:Array Bool) (a:Act) (w:World) (c:Ctx) (m:Nat) (frc:Fr) (hp:Hp) (frm:Fr) (B:Nat→Nat),(∀j,j < all.length→q24z listed j)→tJ ds lL vals (q24z listed) frc→
  Lx P prs c0 c frc a (q24z listed) frm B→hs[m]? =some hp→bc (ak P) c hp w→(∀(k:Nat) (d:GD),ds[k]? =some d→d.bQ=true→(q24z listed k↔eI ds k < m))→c0.le c→St w0 w→a.defers=a0.defers→Q .normal a w:=by
   intro listed a w c m frc hp frm B cJ kn hf hm kv gE hle aR eX
   have e1:frc=fr':=by
     have h1:=tr.cur hu ds.length (Nat.le_refl _)
     rw[tr.lst] at h1
     apply List.ext_getElem?
     intro t
     refine kn.same h1 t fun k d hd _=> ?_
     have hk:k < ds.length:=(List.getElem?_eq_some_iff.1 hd).1
     exact ⟨fun _=> hk,fun _=> cJ k (by omega)⟩
   have e2:m=eI ds ds.length:=by
     have h1:m < hs.length:=(List.getElem?_eq_some_iff.1 hm).1
     rw[tr.len] at h1
     rcases Nat.lt_or_ge m (eI ds ds.length) with h2 | h2
     ·obtain ⟨k,d,h3,h4,h5,h6⟩:=jv ds h2
      have:=(gE k d h4 h5).1 (cJ k (by omega))
      omega
     ·omega
   have e3:hp=h':=by
     rw[e2,tr.Eb] at hm
     exact (Option.some.inj hm).symm
   have e4:frm=frc:=by
     apply List.ext_getElem?
     intro t
     refine hf.same t fun p hp _ ho=> ho.2 (cJ p.j ?_)
     obtain ⟨o,_,_,ho,_⟩:=(fY p hp).fill
     exact (List.getElem?_eq_some_iff.1 ho).1
   subst e1 e3
   rw[e4] at hf
   exact hE a c w hf.rf kv hle aR eX
 have stp:∀(fuel:Nat),(∀(listed:Array Bool) (a:Act) (w:World) (c:Ctx) (m:Nat) (frc:Fr) (hp:Hp) (frm:Fr) (B:Nat→Nat),listed.size=all.length→listed.toList.count true+fuel=all.length→Clo all (q24z listed)→tJ ds lL vals (q24z listed) frc→
  Lx P prs c0 c frc a (q24z listed) frm B→hs[m]? =some hp→bc (ak P) c hp w→(∀(k:Nat) (d:GD),ds[k]? =some d→d.bQ=true→(q24z listed k↔eI ds k < m))→c0.le c→St w0 w→a.defers=a0.defers→
  wpAny P .any all.toArray Q fuel listed a w)→
   ∀(listed:Array Bool) (a:Act) (w:World) (c:Ctx) (m:Nat) (frc:Fr) (hp:Hp) (frm:Fr) (B:Nat→Nat),listed.size=all.length→listed.toList.count true+(fuel+1)=all.length→Clo all (q24z listed)→tJ ds lL vals (q24z listed) frc→
    Lx P prs c0 c frc a (q24z listed) frm B→hs[m]? =some hp→bc (ak P) c hp w→(∀(k:Nat) (d:GD),ds[k]? =some d→d.bQ=true→(q24z listed k↔eI ds k < m))→c0.le c→St w0 w→a.defers=a0.defers→
    ∀i∈Region.ready .any all.toArray listed,wpOp P all.toArray Q i (wpAny P .any all.toArray Q fuel (listed.setIfInBounds i true)) a w:=by
   intro fuel ih listed a w c m frc hp frm B cI lh oG kn hf hm kv gE hle aR eX i hi
   obtain ⟨lV,o,ho,tm⟩:=mem_ready.1 hi
   rw[List.getElem?_toArray] at ho
   have hil:i < all.length:=(List.getElem?_eq_some_iff.1 ho).1
   have Ea:¬q24z listed i:=by
     unfold q24z
     have:i < listed.size:=by omega
     simp only[Array.getD_eq_getD_getElem?,Array.getElem?_eq_getElem this,Option.getD_some] at lV ⊢
     simp[lV]
   have hd:ds[i]? =some ds[i]:=List.getElem?_eq_getElem (by omega)
   generalize ds[i]'(by omega)=d at hd
   have wq:∀p,(dO [] all)[i]? =some p→∀k,p.testBit k=true→q24z listed k:=lg oG i o ho (fun e he hb=> tm e he hb)
   have ve:∀k q,(dO [] all)[k]? =some q→q.testBit i=true→¬q24z listed k:=fun k q hq hb hk=> by
     have fV:k < all.length:=by
       have:=(List.getElem?_eq_some_iff.1 hq).1
       rw[fe] at this;simpa using this
     have IQ:all[k]? =some all[k]:=List.getElem?_eq_getElem fV
     exact Ea (lg oG k _ IQ (fun e he hb=> oG k _ IQ hk e he hb) q hq i hb)
   have mU:∀t∈d.g.reads,frc[t]? =(frs i)[t]? :=fun t ht=> by
     refine kn.same (tr.cur hu i (by omega)) t fun k e he het=> ?_
     by_cases hki:k=i
     ·subst hki
      exact ⟨fun h=> absurd h Ea,fun h=> absurd h (Nat.lt_irrefl _)⟩
     ·obtain ⟨p,q,h1,h2,h3⟩:=pz gP hd he (fun h=> hki h.symm) het ht
      split at h3
      ·rename_i bW
       exact ⟨fun _=> bW,fun _=> wq p h1 k h3⟩
      ·rename_i bW
       exact ⟨fun h=> absurd h (ve k q h2 h3),fun h=> absurd h bW⟩
   have IY:∀t∈d.g.reads,frm[t]? =(frs i)[t]? :=fun t ht=> by
     rw[←mU t ht]
     refine hf.same t fun p hp hpt ah=> ?_
     subst hpt
     have ra:i <(dO [] all).length:=by rw[fe];simpa using hil
     exact ah.2 (wq _ (List.getElem?_eq_getElem ra) p.j ((fY p hp).look i d.g _ (by rw[List.getElem?_map,hd];rfl) (List.getElem?_eq_getElem ra) ht))
   have IS:∃hq m',stepG cf base frm hp d.g=some (vals i,hq)∧hs[m']? =some hq∧(∀(k:Nat) (e:GD),ds[k]? =some e→e.bQ=true→(q24z (listed.setIfInBounds i true) k↔eI ds k < m')):=by
     by_cases he:d.bQ=true
     ·obtain ⟨Hv,hq,h1,h2,h3⟩:=tr.bQ i d hd he
      have hmi:eI ds i=m:=by
        have h4:¬eI ds i < m:=fun h=> Ea ((gE i d hd he).2 h)
        rcases Nat.lt_or_ge m (eI ds i) with h5 | h5
        ·obtain ⟨k,e,h6,h7,h8,h9⟩:=jv ds h5
         obtain ⟨p,h10,h11⟩:=qP gP hd h7 he h8 h6
         have:=(gE k e h7 h8).1 (wq p h10 k h11)
         omega
        ·omega
      rw[hmi,hm] at h1
      cases h1
      refine ⟨hq,m+1,?_,hmi ▸ h2,fun k e xt y0=> ?_⟩
      ·rw[jw IY];exact h3
      ·rw[cV (by omega),gE k e xt y0]
       constructor
       ·rintro (h | rfl)
        ·omega
        ·omega
       ·intro h
        rcases Nat.lt_or_ge (eI ds k) m with h5 | h5
        ·exact Or.inl h5
        ·right
         rcases Nat.lt_trichotomy k i with h6 | h6 | h6
         ·have:=wm xt y0 h6;omega
         ·exact h6
         ·have:=wm hd he h6;omega
     ·have FL:d.bQ=false:=by simpa using he
      have Yx:m < eI ds ds.length+1:=by
        have:=(List.getElem?_eq_some_iff.1 hm).1
        rw[tr.len] at this;exact this
      have Qw:d.lo≤m:=by
        rcases Nat.lt_or_ge m d.lo with h5 | h5
        ·have h6:=gh d (List.mem_of_getElem? hd)
         obtain ⟨k,e,h7,h8,h9,h10⟩:=jv ds (show m < eI ds ds.length by omega)
         obtain ⟨p,q,h11,h12,h13,h14⟩:=nk gP hd h8 FL h9
         have:=(gE k e h8 h9).1 (wq p h11 k (h13 (by omega)))
         omega
        ·exact h5
      have Qx:m≤d.hi:=by
        rcases Nat.lt_or_ge d.hi m with h5 | h5
        ·obtain ⟨k,e,h7,h8,h9,h10⟩:=jv ds (show d.hi < eI ds ds.length by omega)
         obtain ⟨p,q,h11,h12,h13,h14⟩:=nk gP hd h8 FL h9
         exact absurd ((gE k e h8 h9).2 (by omega)) (ve k q h12 (h14 (by omega)))
        ·exact h5
      refine ⟨hp,m,?_,hm,fun k e xt y0=> ?_⟩
      ·rw[jw IY];exact AM i d hd FL m hp Qw Qx hm
      ·rw[cV (by omega),gE k e xt y0]
       constructor
       ·rintro (h | rfl)
        ·exact h
        ·rw[hd] at xt;cases xt;rw[FL] at y0;cases y0
       ·exact Or.inl
   obtain ⟨hq,m',h1,h2,h3⟩:=IS
   have QG:(listed.setIfInBounds i true).toList.count true+fuel=all.length:=by
     have dE:listed.toList[i]? =some false:=by
       have:i < listed.size:=by omega
       rw[Array.getElem?_toList,Array.getElem?_eq_getElem this]
       simp only[q24z,Array.getD_eq_getD_getElem?,Array.getElem?_eq_getElem this,Option.getD_some,Bool.not_eq_true] at Ea
       rw[Ea]
     have bW:i < listed.toList.length:=(List.getElem?_eq_some_iff.1 dE).1
     have xM:listed.toList[i]=false:=by simpa[List.getElem?_eq_getElem bW] using dE
     rw[Array.toList_setIfInBounds,List.count_set bW,xM]
     show List.count true listed.toList - 0+1+fuel=all.length
     omega
   have IZ:Clo all (q24z (listed.setIfInBounds i true)):=by
     intro j o' jK hj e he hb
     rw[cV (by omega)]
     rcases (cV (by omega) j).1 hj with hj | rfl
     ·exact Or.inl (oG j o' jK hj e he hb)
     ·rw[ho] at jK;cases jK
      exact Or.inl (tm e he hb)
   have hS:∀k,q24z (listed.setIfInBounds i true) k↔q24z listed k∨k=i:=fun k=> cV (by omega) k
   have I0:tJ ds lL vals (q24z (listed.setIfInBounds i true)) (gu frc d.g.dst (vals i)):=kn.step hu hd hS
   have tP:∀p∈prs,∃e,ds[p.j]? =some e∧e.g.dst=some p.t:=fun p hp=> by
     obtain ⟨o',_,_,jK,_⟩:=(fY p hp).fill
     have bW:=(List.getElem?_eq_some_iff.1 jK).1
     have he:ds[p.j]? =some ds[p.j]:=List.getElem?_eq_getElem (by omega)
     obtain ⟨_,_,_,_,_,_,_,_,h⟩:=hpj p hp _ he
     exact ⟨_,he,by rw[h]⟩
   have hij:∀p∈prs,∀q∈prs,p.i≠q.j:=fun p hp q hq e=> by
     obtain ⟨o1,h1,h2,_⟩:=(fY p hp).lay
     obtain ⟨o2,_,_,h3,h4,_⟩:=(fY q hq).fill
     rw[e,h3] at h1;cases h1
     rw[h4] at h2;cases h2
   unfold wpOp
   rw[List.getElem?_toArray,ho]
   simp only
   rcases AQ hc fY ho hd with ⟨p,m7,rfl⟩ | ⟨p,m7,rfl⟩ | ⟨hno,g,hg,hdg⟩
   ·-- it is laid out
    have hdg:=hpi p m7 _ hd
    obtain ⟨o',jK,ah,hgd,hdd⟩:=(fY p m7).lay
    rw[ho] at jK;cases jK
    obtain ⟨z,hz⟩:=(fY p m7).zero
    have FM:hq=hp:=by
      rw[hdg] at h1
      simp only[Vm.stepG,want,List.map_nil,aB,Option.some.injEq,Prod.mk.injEq] at h1
      exact h1.2.symm
    subst FM
    have hw:Region.wanted o (yielded all.toArray a.tmps)=true:=by simp[Region.wanted,hgd]
    rw[if_pos hw]
    refine Or.inl (IX hL fj ah hdd hz kv fun cs xL I1=> ?_)
    have hzn:=kv.qF
    have rb:c0.z w.heap.size=none:=by
      cases hz:c0.z w.heap.size with
      | none=> rfl
      | some x=> rw[hle.z _ _ hz] at hzn;cases hzn
    have QH:=c.kf w.heap.size (yd cs p.T) hzn
    obtain ⟨e,he,I2⟩:=tP p m7
    have tF:p.t < a.tmps.size:=by
      have h5:=QF e (List.mem_of_getElem? he) p.t I2
      have h6:=fC.length hf.rf
      rw[hf.len,kn.len] at h6
      rw[Array.length_toList] at h6
      rw[h6];exact h5
    have kR:kC (q24z (listed.setIfInBounds p.i true)) p:=⟨(hS _).2 (Or.inr rfl),fun h=> by
      rcases (hS _).1 h with h | h
      ·obtain ⟨_,_,q,_,_,_,_,hq1,Hh⟩:=(fY p m7).fill
       exact ve p.j q hq1 Hh h
      ·exact hij p m7 p m7 h.symm⟩
    have hold:∀q∈prs,kC (q24z (listed.setIfInBounds p.i true)) q→q≠p→kC (q24z listed) q:=fun q hq ho cD=> by
      refine ⟨?_,fun h=> ho.2 ((hS _).2 (Or.inl h))⟩
      rcases (hS _).1 ho.1 with h | h
      ·exact h
      ·rcases (fY p m7).one q hq with ⟨_,h',_⟩ | h'
       ·exact absurd h h'
       ·exact absurd h' cD
    refine ih _ _ _ _ m' (gu frc d.g.dst (vals p.i)) hq (frm.set p.t .top) (fun k=> if k=p.i then w.heap.size else B k) (by simpa using cI) QG IZ I0 ?_ h2 I1 h3 (hle.trans QH) (aR.trans (St.alloc _ _)) (by rw[ju,eX])
    rw[hdg]
    refine ⟨by simp[gu,hf.len],fun t hno=> ?_,?_,fun q hq ho=> ?_,fun q hq r hr ho1 ho2 hB=> ?_⟩
    ·have cD:p.t≠t:=fun e=> hno p m7 e kR
     rw[List.getElem?_set_ne cD]
     refine hf.same t fun q hq hqt ah=> hno q hq hqt ⟨(hS _).2 (Or.inl ah.1),fun h=> ?_⟩
     rcases (hS _).1 h with h | h
     ·exact ah.2 h
     ·exact hij p m7 q hq h.symm
    ·exact RF.put (v:=V.top) (hf.rf.mono QH) ⟨[.pointer (some ⟨w.heap.size,0,none⟩)],by simp only[RC];exact ⟨_,rfl⟩,rfl⟩ (some p.t)
    ·by_cases FM:q=p
     ·subst FM
      simp only[if_true]
      exact ⟨by simp[Act.put,tF],rb,cs,by simp[Ctx.dD],xL⟩
     ·have jK:=hold q hq ho FM
      obtain ⟨b1,b2,cs',b3,b4⟩:=hf.at_ q hq jK
      have hqi:q.i≠p.i∧q.t≠p.t:=by
        rcases (fY p m7).one q hq with ⟨h1,h2,_⟩ | h
        ·exact ⟨h2,h1⟩
        ·exact absurd h FM
      rw[if_neg hqi.1]
      refine ⟨by simp only[Act.put];rw[Array.getElem?_setIfInBounds_ne (Ne.symm hqi.2)];exact b1,b2,cs',QH.z _ _ b3,b4⟩
    ·by_cases FM:q=p <;> by_cases hrp:r=p
     ·rw[FM,hrp]
     ·exfalso
      obtain ⟨_,_,cs',b3,_⟩:=hf.at_ r hr (hold r hr ho2 hrp)
      have:r.i≠p.i:=by rcases (fY p m7).one r hr with ⟨_,h2,_⟩ | h;exact h2;exact absurd h hrp
      subst FM
      simp only[if_true,if_neg this] at hB
      rw[←hB,hzn] at b3;cases b3
     ·exfalso
      obtain ⟨_,_,cs',b3,_⟩:=hf.at_ q hq (hold q hq ho1 FM)
      have:q.i≠p.i:=by rcases (fY p m7).one q hq with ⟨_,h2,_⟩ | h;exact h2;exact absurd h FM
      subst hrp
      simp only[if_true,if_neg this] at hB
      rw[hB,hzn] at b3;cases b3
     ·have e1:q.i≠p.i:=by rcases (fY p m7).one q hq with ⟨_,h2,_⟩ | h;exact h2;exact absurd h FM
      have e2:r.i≠p.i:=by rcases (fY p m7).one r hr with ⟨_,h2,_⟩ | h;exact h2;exact absurd h hrp
      simp only[if_neg e1,if_neg e2] at hB
      exact hf.inj q hq r hr (hold q hq ho1 FM) (hold r hr ho2 hrp) hB
   ·-- it is filled
    obtain ⟨o',x,X0,jK,ah,hgd,hdd,hx,hdg⟩:=hpj p m7 _ hd
    rw[ho] at jK;cases jK
    have Nv:kC (q24z listed) p:=⟨by
      obtain ⟨_,_,q,_,_,_,_,hq1,Hh⟩:=(fY p m7).fill
      exact wq q hq1 p.i Hh,Ea⟩
    obtain ⟨b1,b2,cs,b3,b4⟩:=hf.at_ p m7 Nv
    have h1':qI hp (aC P p.T) (X0.ev frm)=some (vals p.j,hq):=by
      rw[hdg] at h1
      simpa only[Vm.stepG,want,List.map_cons,List.map_nil,aB] using h1
    have hw:Region.wanted o (yielded all.toArray a.tmps)=true:=by simp[Region.wanted,hgd]
    rw[if_pos hw]
    refine Or.inl (Ee hL fj ah hdd (fY p m7).tg hx hf.rf kv b1 b3 b4 h1' fun cs' w' hh I1 jC gB=> ?_)
    subst hh
    have hnz:∀cs' ty fz,c.z (B p.i)≠some (.cells cs' ty fz):=by rw[b3];intro _ _ _ h;cases h
    have YB:=c.qc (B p.i) (.cells cs' p.T (0,0)) hnz
    have hold:∀q∈prs,kC (q24z (listed.setIfInBounds p.j true)) q→kC (q24z listed) q∧q≠p:=fun q hq ho=> by
      refine ⟨⟨?_,fun h=> ho.2 ((hS _).2 (Or.inl h))⟩,fun e=> ho.2 ((hS _).2 (Or.inr (by rw[e])))⟩
      rcases (hS _).1 ho.1 with h | h
      ·exact h
      ·exact absurd h (hij q hq p m7)
    refine ih _ _ _ _ m' (gu frc d.g.dst (vals p.j)) hq (frm.set p.t (vals p.j)) B (by simpa using cI) QG IZ I0 ?_ h2 I1 h3 (hle.dD b2 _) (aR.trans gB) eX
    rw[hdg]
    refine ⟨by simp[gu,hf.len],fun t hno=> ?_,?_,fun q hq ho=> ?_,fun q hq r hr ho1 ho2 hB=> ?_⟩
    ·simp only[gu]
     by_cases e:p.t=t
     ·subst e
      rw[List.getElem?_set,List.getElem?_set,hf.len]
      simp only[if_true]
     ·rw[List.getElem?_set_ne e,List.getElem?_set_ne e]
      refine hf.same t fun q hq hqt ah=> hno q hq hqt ⟨(hS _).2 (Or.inl ah.1),fun h=> ?_⟩
      rcases (hS _).1 h with h | h
      ·exact ah.2 h
      ·rcases (fY p m7).one q hq with ⟨_,_,h'⟩ | h'
       ·exact h' h
       ·rw[h'] at hqt;exact e hqt
    ·have:=fC.set jC p.t (fC.eN YB hf.rf)
     rw[jX (l:=a.tmps.toList) (by rw[Array.getElem?_toList];exact b1)] at this
     exact this
    ·obtain ⟨jK,cD⟩:=hold q hq ho
     obtain ⟨d1,d2,cs2,d3,d4⟩:=hf.at_ q hq jK
     refine ⟨d1,d2,cs2,?_,d4⟩
     simp only[Ctx.dD]
     rw[if_neg (fun e=> cD (hf.inj q hq p m7 jK Nv e))];exact d3
    ·exact hf.inj q hq r hr (hold q hq ho1).1 (hold r hr ho2).1 hB
   ·-- any other
    rw[hdg] at h1
    have hdo:d.g.dst=o.dst:=by rw[hdg];exact (kj hg).2.1
    refine Ed (Q:=Q) hL fj hg hf.rf kv h1 fun u c' w' hv dh Ec gB=> ?_
    have hold:∀q∈prs,(kC (q24z (listed.setIfInBounds i true)) q↔kC (q24z listed) q):=fun q hq=> by
      obtain ⟨n1,n2⟩:=hno q hq
      simp only[kC,hS]
      constructor
      ·rintro ⟨h | h,h'⟩
       ·exact ⟨h,fun x=> h' (Or.inl x)⟩
       ·exact absurd h n1
      ·rintro ⟨h,h'⟩
       refine ⟨Or.inl h,fun x=> ?_⟩
       rcases x with x | x
       ·exact h' x
       ·exact n2 x
    refine ih _ _ w' c' m' (gu frc d.g.dst (vals i)) hq (gu frm d.g.dst (vals i)) B (by simpa using cI) QG IZ I0 ?_ h2 dh h3 (hle.trans Ec) (aR.trans gB) (by rw[ju,eX])
    refine ⟨by rw[mT,mT,hf.len],fun t YC=> ?_,?_,fun q hq ho=> ?_,fun q hq r hr ho1 ho2 hB=> hf.inj q hq r hr ((hold q hq).1 ho1) ((hold r hr).1 ho2) hB⟩
    ·have Cb:=hf.same t fun q hq hqt ah=> YC q hq hqt ((hold q hq).2 ah)
     cases hdd:d.g.dst with
     | none=> exact Cb
     | some t'=>
       simp only[gu]
       rw[List.getElem?_set,List.getElem?_set,hf.len]
       split
       ·rfl
       ·exact Cb
    ·rw[hdo];exact RF.put (hf.rf.mono Ec) hv o.dst
    ·obtain ⟨d1,d2,cs2,d3,d4⟩:=hf.at_ q hq ((hold q hq).1 ho)
     refine ⟨?_,d2,cs2,Ec.z _ _ d3,d4⟩
     obtain ⟨e,he,I2⟩:=tP q hq
     cases hdd:o.dst with
     | none=> simpa only[Act.put] using d1
     | some t'=>
       simp only[Act.put]
       rw[Array.getElem?_setIfInBounds_ne (fun h=> ?_)]
       ·exact d1
       ·exact (hno q hq).2 (hu q.j i e d q.t he hd I2 (by rw[hdo,hdd,h]))
 intro fuel
 induction fuel with
 | zero=>
   intro listed a w c m frc hp frm B cI lh oG kn hf hm kv gE hle aR eX
   have cJ:∀j,j < all.length→q24z listed j:=fun j hj=> by
     have h1:listed.toList.count true=listed.toList.length:=by simp at lh ⊢;omega
     have h2:=List.count_eq_length.1 h1
     have h3:j < listed.size:=by omega
     have:=h2 listed.toList[j] (List.getElem_mem _)
     simp only[q24z,Array.getD_eq_getD_getElem?,Array.getElem?_eq_getElem h3,Option.getD_some]
     simpa using this.symm
   refine ⟨?_,fin listed a w c m frc hp frm B cJ kn hf hm kv gE hle aR eX⟩
   apply List.eq_nil_iff_forall_not_mem.2
   intro i hi
   obtain ⟨h1,o,ho,_⟩:=mem_ready.1 hi
   rw[List.getElem?_toArray] at ho
   have hil:i < all.length:=(List.getElem?_eq_some_iff.1 ho).1
   have:=cJ i hil
   have h3:i < listed.size:=by omega
   simp only[q24z,Array.getD_eq_getD_getElem?,Array.getElem?_eq_getElem h3,Option.getD_some] at this h1
   rw[this] at h1;cases h1
 | succ fuel ih=>
   intro listed a w c m frc hp frm B cI lh oG kn hf hm kv gE hle aR eX
   refine ⟨fun np=> ?_,stp fuel ih listed a w c m frc hp frm B cI lh oG kn hf hm kv gE hle aR eX⟩
   have cJ:∀j,j < all.length→q24z listed j:=by
     intro j
     induction j using Nat.strongRecOn with
     | _ j ihj=>
       intro hj
       by_cases hn:q24z listed j
       ·exact hn
       ·exfalso
        have ho:all[j]? =some all[j]:=List.getElem?_eq_getElem hj
        have:j∈Region.ready .any all.toArray listed:=by
          refine mem_ready.2 ⟨?_,all[j],by rw[List.getElem?_toArray,ho],fun e he hb=> ?_⟩
          ·have h3:j < listed.size:=by omega
           simp only[q24z,Array.getD_eq_getD_getElem?,Array.getElem?_eq_getElem h3,Option.getD_some,Bool.not_eq_true] at hn ⊢
           exact hn
          ·have:=IP j _ ho e he hb
           exact ihj e.on this (by omega)
        rw[np] at this
        cases this
   exact fin listed a w c m frc hp frm B cJ kn hf hm kv gE hle aR eX
theorem yu {id:Nat} {all:List Oper} {ds:List GD} {prs:List kz} (tQ:P.follows .mixedOrders=true) (hc:qR P obj all prs 0 all=some (ds.map (·.g))) (fY:∀p∈prs,wt P obj all (ds.map (·.g)) prs p) (gP:eW all ds=true) {c:Ctx} {h:Hp} {w:World} {fr:Fr} {a:Act}
 (hf:RF (ak P) c fr a) (hs:bc (ak P) c h w) {fr':Fr} {h':Hp} (hr:bL cf base ds fr h=some (fr',h')) {Q:Exit→Act→World→Prop} (hE:Ends P c w a fr' h' (Q .normal)):
 (Code.region id all.toArray true).wp P Q a w:=by
 have QF:=IK cf base hr
 obtain ⟨vals,frs,hps,tr,hq⟩:=Cm cf base hr
 refine wp_region_any tQ ?_
 have BX:∀k,¬q24z (Array.replicate all.length false) k:=fun k hk=> by
   simp only[q24z,Array.getD_eq_getD_getElem?,Array.getElem?_replicate] at hk
   split at hk <;> simp at hk
 refine AR hL fj hc fY gP tr hq QF (c0:=c) (a0:=a) (w0:=w) hE _ _ a _ c 0 fr h fr (fun _=> 0) (by simp) ?_ ?_ ?_ ?_ tr.yq hs.drew ?_ (Ctx.le_refl c) (St.drew w) rfl
 ·simp[List.count_replicate]
 ·intro j o ho hj
  simp only[q24z,Array.getD_eq_getD_getElem?,Array.getElem?_replicate] at hj
  split at hj <;> simp at hj
 ·refine tJ.start ds fr vals fun k hk=> ?_
  simp only[q24z,Array.getD_eq_getD_getElem?,Array.getElem?_replicate] at hk
  split at hk <;> simp at hk
 ·refine ⟨rfl,fun t _=> rfl,hf,fun p hp ho=> ?_,fun p hp q hq ho=> ?_⟩<;>
  ·have hk:=ho.1
   simp only[q24z,Array.getD_eq_getD_getElem?,Array.getElem?_replicate] at hk
   split at hk <;> simp at hk
 ·intro k d hd he
  constructor
  ·intro hk
   simp only[q24z,Array.getD_eq_getD_getElem?,Array.getElem?_replicate] at hk
   split at hk <;> simp at hk
  ·intro hk;omega
end
end Go.Vm
namespace Go.Vm
variable {P : Program} {obj : Nat → Bool}
def vg (c:Nat):List GD→Bool
 | []=> true
 | d::ds=>(d.bQ || d.g.op.indep || (d.lo==c && d.hi==c))&& vg (if d.bQ then c+1 else c) ds
theorem yv :∀ {ds:List GD} {c:Nat},vg c ds=true→∀(j:Nat) (d:GD),ds[j]? =some d→d.bQ=true∨d.g.op.indep=true∨(d.lo=c+eI ds j∧d.hi=c+eI ds j)
 | [],c,h,j,d,hd=> by simp at hd
 | d'::ds,c,h,0,d,hd=> by
   simp only[List.getElem?_cons_zero,Option.some.injEq] at hd
   subst hd
   simp only[vg,Bool.and_eq_true,Bool.or_eq_true,beq_iff_eq] at h
   rw[i7]
   rcases h.1 with (h1 | h1) | h1
   ·exact Or.inl h1
   ·exact Or.inr (Or.inl h1)
   ·exact Or.inr (Or.inr (by omega))
 | d'::ds,c,h,j+1,d,hd=> by
   simp only[vg,Bool.and_eq_true] at h
   rcases yv h.2 j d (by simpa using hd) with h1 | h1 | h1
   ·exact Or.inl h1
   ·exact Or.inr (Or.inl h1)
   ·refine Or.inr (Or.inr ?_)
    rw[ew]
    split at h1
    ·rename_i he;simp[he];omega
    ·rename_i he;simp[he];omega
section
variable (cf : Nat → List V → Hp → Option (V × Hp)) (base : Nat)
theorem Ly :∀(ds:List GD) (fr:Fr) (h:Hp) (fr':Fr) (h':Hp),jW cf base (ds.map (·.g)) fr h=some (fr',h')→
 ∃vals frs hs,Tr cf base ds fr h fr' h' vals frs hs∧∀(j:Nat) (d:GD),ds[j]? =some d→d.bQ=false→∃hp,hs[eI ds j]? =some hp∧stepG cf base (frs j) hp d.g=some (vals j,hp):=by
 intro ds
 induction ds with
 | nil=>
   intro fr h fr' h' hr
   simp only[List.map_nil,jW,Option.some.injEq,Prod.mk.injEq] at hr
   obtain ⟨rfl,rfl⟩:=hr
   exact ⟨fun _=> .top,fun _=> fr,[h],⟨rfl,rfl,fun j d hd=> by simp at hd,by simp[eI],rfl,by simp[eI],fun j d hd=> by simp at hd⟩,fun j d hd=> by simp at hd⟩
 | cons d ds ih=>
   intro fr h fr' h' hr
   simp only[List.map_cons,jW] at hr
   split at hr
   case h_2=> cases hr
   rename_i v h1 aR
   obtain ⟨vals,frs,hs,t,hq⟩:=ih _ _ _ _ hr
   have hn:d.bQ=false→h1=h:=fun he=> qQ he aR
   refine ⟨(fun j=> match j with | 0=> v | j+1=> vals j),(fun j=> match j with | 0=> fr | j+1=> frs j),(if d.bQ then h::hs else hs),⟨rfl,t.lst,?_,?_,?_,?_,?_⟩,?_⟩
   ·intro j d' hd
    cases j with
    | zero=>
      simp only[List.getElem?_cons_zero,Option.some.injEq] at hd
      subst hd
      exact t.fst
    | succ j=> exact t.next j d' (by simpa using hd)
   ·rw[List.length_cons,ew]
    have:=t.len
    split <;> simp <;> omega
   ·split
    ·rfl
    ·rename_i hc
     rw[t.yq,hn (by simpa using hc)]
   ·rw[List.length_cons,ew]
    split
    ·rw[Nat.add_comm];simpa using t.Eb
    ·simpa using t.Eb
   ·intro j d' hd mu
    cases j with
    | zero=>
      simp only[List.getElem?_cons_zero,Option.some.injEq] at hd
      subst hd
      refine ⟨h,h1,?_,?_,aR⟩
      ·simp[i7,mu]
      ·simp only[i7,mu,if_true]
       simpa using t.yq
    | succ j=>
      obtain ⟨hp,hq',a1,a2,a3⟩:=t.bQ j d' (by simpa using hd) mu
      refine ⟨hp,hq',?_,?_,a3⟩
      ·rw[ew];split
       ·rw[Nat.add_comm];simpa using a1
       ·simpa using a1
      ·rw[ew];split
       ·rw[Nat.add_comm 1];simpa using a2
       ·simpa using a2
   ·intro j d' hd mu
    cases j with
    | zero=>
      simp only[List.getElem?_cons_zero,Option.some.injEq] at hd
      subst hd
      have:=hn mu
      subst this
      exact ⟨h1,by simp[i7,mu,t.yq],aR⟩
    | succ j=>
      obtain ⟨hp,a1,a2⟩:=hq j d' (by simpa using hd) mu
      refine ⟨hp,?_,a2⟩
      rw[ew];split
      ·rw[Nat.add_comm];simpa using a1
      ·simpa using a1
end
section
variable (hL : (ak P).OK) {cf : Nat → List V → Hp → Option (V × Hp)} {base : Nat} (fj : cy P (ak P) cf)
include hL fj
theorem AS {id:Nat} {all:List Oper} {ds:List GD} (tQ:P.follows .mixedOrders=true) (hc:rh P obj all all=some (ds.map (·.g))) (gP:eW all ds=true) (I3:vg 0 ds=true) {c:Ctx} {h:Hp} {w:World} {fr:Fr} {a:Act}
 (hf:RF (ak P) c fr a) (hs:bc (ak P) c h w) {fr':Fr} {h':Hp} (hr:jW cf base (ds.map (·.g)) fr h=some (fr',h')) {Q:Exit→Act→World→Prop} (hE:Ends P c w a fr' h' (Q .normal)):
 (Code.region id all.toArray true).wp P Q a w:=by
 obtain ⟨vals,frs,hps,tr,hq⟩:=Ly cf base _ _ _ _ _ hr
 refine wp_region_any tQ ?_
 refine vd hL fj hc gP tr (fun j d hd he m hp gh hhi hm=> ?_) (c0:=c) (a0:=a) (w0:=w) hE _ _ a _ c 0 fr h (by simp) ?_ ?_ ?_ hf tr.yq hs.drew ?_ (Ctx.le_refl c) (St.drew w) rfl
 ·obtain ⟨m7,h1,h2⟩:=hq j d hd he
  rcases yv I3 j d hd with h3 | h3 | ⟨h3,h4⟩
  ·rw[he] at h3;cases h3
  ·exact yr h3 h2 hp
  ·have:m=eI ds j:=by omega
   subst this
   rw[h1] at hm;cases hm
   exact h2
 ·simp[List.count_replicate]
 ·intro j o ho hj
  simp only[q24z,Array.getD_eq_getD_getElem?,Array.getElem?_replicate] at hj
  split at hj <;> simp at hj
 ·refine tJ.start ds fr vals fun k hk=> ?_
  simp only[q24z,Array.getD_eq_getD_getElem?,Array.getElem?_replicate] at hk
  split at hk <;> simp at hk
 ·intro k d hd he
  constructor
  ·intro hk
   simp only[q24z,Array.getD_eq_getD_getElem?,Array.getElem?_replicate] at hk
   split at hk <;> simp at hk
  ·intro hk;omega
end
def Cr (rs:List Row) (total:Nat) (r:Row):Nat×Nat:=
 rs.foldl (fun b k=> if k.d.bQ then (if r.p.testBit k.k then (max b.1 (k.c+1),b.2) else if k.p.testBit r.k then (b.1,min b.2 k.c) else b) else b) (0,total)
def jS (os:List Oper) (gs:List G):List GD:=
 let rs:=lO 0 0 (gs.map fun g=>⟨g,0,0⟩) (dO [] os)
 let total:=(rs.filter (·.d.bQ)).length
 rs.map fun r=> let b:=Cr rs total r;⟨r.d.g,b.1,b.2⟩
def Lz (obj:Nat→Bool) (all:List Oper):List kz:=
 (List.range all.length).filterMap fun i=> match all[i]? with
   | some o=> match o.op,o.dst,o.guard with
     | .alloc T,some t,none=> if obj (3000000+T) then none else
       match (List.range all.length).filter (fun j=> match all[j]? with
           | some o'=>(match o'.op with | .store T' (.tmp t') _=> T'==T && t'==t && o'.guard.isNone && o'.dst.isNone | _=> false)
           | none=> false) with
       | [j]=> some ⟨i,j,t,T⟩
       | _=> none
     | _,_,_=> none
   | none=> none
def Cs (P:Program) (obj:Nat→Bool) (all:List Oper) (prs:List kz):Option C:=
 match qR P obj all prs 0 all with
 | some gs=> if P.follows .mixedOrders=true∧eW all (jS all gs)=true∧(jS all gs).length=gs.length∧(prs.all (IV P obj all gs prs))=true then some (.bL (jS all gs)) else none
 | none=> none
def Nw (P:Program) (obj:Nat→Bool) (all:List Oper):Option C:=
 match Cs P obj all [] with
 | some c=> some c
 | none=> Cs P obj all (Lz obj all)
def gd (P:Program) (obj:Nat→Bool):Code→Option C
 | .skip=> some .skip
 | .region _ ops draw=> match rh P obj ops.toList ops.toList with
   | some gs=>
     if draw then
      (if P.follows .mixedOrders=true∧eW ops.toList (jS ops.toList gs)=true∧(jS ops.toList gs).length=gs.length then
        (if vg 0 (jS ops.toList gs)=true then some (.af gs) else some (.bL (jS ops.toList gs)))
      else Nw P obj ops.toList)
     else some (.af gs)
   | none=> none
 | .seq a b=> match gd P obj a,gd P obj b with | some a,some b=> some (.seq a b) | _,_=> none
 | .cond c a b=> match eu P 0 c,gd P obj a,gd P obj b with | some c,some a,some b=> some (.cond c a b) | _,_,_=> none
 | .block id a=>(gd P obj a).map (.block id)
 | .loop a=>(gd P obj a).map .loop
 | .exit id=> some (.exit id)
 | .ret=> some .ret
 | _=> none
theorem Ct :∀(gs:List G) (ps:List Nat) (k c:Nat) (f:Row→Nat×Nat),(lO k c (gs.map fun g=>⟨g,0,0⟩) ps).length=gs.length→
 (((lO k c (gs.map fun g=>⟨g,0,0⟩) ps).map fun r=>(⟨r.d.g,(f r).1,(f r).2⟩:GD)).map (·.g))=gs
 | [],ps,k,c,f,_=> by simp[lO]
 | g::gs,[],k,c,f,h=> by simp[lO] at h
 | g::gs,p::ps,k,c,f,h=> by
   simp only[List.map_cons,lO,List.length_cons,Nat.add_right_cancel_iff] at h
   simp only[List.map_cons,lO]
   rw[Ct gs ps _ _ f h]
theorem yw {os:List Oper} {gs:List G} (h:(jS os gs).length=gs.length):(jS os gs).map (·.g)=gs:=by
 unfold jS at h ⊢
 simp only[List.length_map] at h
 exact Ct gs _ 0 0 (fun r=> Cr _ _ r) h
def qk :Ex→Exit
 | .normal=> .normal
 | .exit id=> .exit id
 | .ret=> .ret
section
variable (hL : (ak P).OK) {cf : Nat → List V → Hp → Option (V × Hp)} {base : Nat} (fj : cy P (ak P) cf)
include hL fj
def Leaves (P:Program) (c:Ctx) (w:World) (a:Act) (e:Ex) (fr':Fr) (h':Hp) (Q:Exit→Act→World→Prop):Prop:=Ends P c w a fr' h' (Q (qk e))
theorem nY :∀ {code:Code} {k:C},gd P obj code=some k→∀ {c:Ctx} {h:Hp} {w:World} {fr:Fr} {a:Act},RF (ak P) c fr a→bc (ak P) c h w→
 ∀ {e:Ex} {fr':Fr} {h':Hp},exec cf base k fr h=some (e,fr',h')→∀ {Q:Exit→Act→World→Prop},Leaves P c w a e fr' h' Q→code.wp P Q a w:=by
 intro code
 induction code with
 | skip=>
   intro k hk c h w fr a hf hs e fr' h' hx Q hE
   simp only[gd,Option.some.injEq] at hk
   subst hk
   simp only[exec,Option.some.injEq,Prod.mk.injEq] at hx
   obtain ⟨rfl,rfl,rfl⟩:=hx
   exact wp_skip (hE a c w hf hs (Ctx.le_refl c) (St.refl w) rfl)
 | region id ops draw=>
   intro k hk c h w fr a hf hs e fr' h' hx Q hE
   simp only[gd] at hk
   split at hk
   case h_2=> cases hk
   rename_i gs ij
   have LA:ops=ops.toList.toArray:=by simp
   split at hk
   ·rename_i hd
    subst hd
    split at hk
    case isFalse=>
      have lC:∃prs,Cs P obj ops.toList prs=some k:=by
        unfold Nw at hk
        split at hk
        ·rename_i h1;exact ⟨_,h1.trans hk⟩
        ·exact ⟨_,hk⟩
      clear hk
      obtain ⟨prs,hk⟩:=lC
      unfold Cs at hk
      split at hk
      case h_2=> cases hk
      rename_i gs2 Am
      split at hk
      case isFalse=> cases hk
      rename_i aT
      obtain ⟨tQ,gP,hlen,QI⟩:=aT
      have hg:=yw hlen
      simp only[Option.some.injEq] at hk
      subst hk
      simp only[exec] at hx
      obtain ⟨r,hr,he⟩:=Option.map_eq_some_iff.1 hx
      simp only[Prod.mk.injEq] at he
      obtain ⟨rfl,rfl,rfl⟩:=he
      rw[LA]
      exact yu hL fj tQ (by rw[hg];exact Am) (fun p hp=> by rw[hg];exact IW (List.all_eq_true.1 QI p hp)) gP hf hs hr hE
    rename_i aT
    obtain ⟨tQ,gP,hlen⟩:=aT
    have hg:=yw hlen
    split at hk
    ·rename_i I3
     simp only[Option.some.injEq] at hk
     subst hk
     simp only[exec] at hx
     obtain ⟨r,hr,he⟩:=Option.map_eq_some_iff.1 hx
     simp only[Prod.mk.injEq] at he
     obtain ⟨rfl,rfl,rfl⟩:=he
     rw[LA]
     exact AS hL fj tQ (by rw[hg];exact ij) gP I3 hf hs (by rw[hg];exact hr) hE
    ·simp only[Option.some.injEq] at hk
     subst hk
     simp only[exec] at hx
     obtain ⟨r,hr,he⟩:=Option.map_eq_some_iff.1 hx
     simp only[Prod.mk.injEq] at he
     obtain ⟨rfl,rfl,rfl⟩:=he
     rw[LA]
     exact AN hL fj tQ (by rw[hg];exact ij) gP hf hs hr hE
   ·rename_i hd
    have:draw=false:=by simpa using hd
    subst this
    simp only[Option.some.injEq] at hk
    subst hk
    simp only[exec] at hx
    obtain ⟨r,hr,he⟩:=Option.map_eq_some_iff.1 hx
    simp only[Prod.mk.injEq] at he
    obtain ⟨rfl,rfl,rfl⟩:=he
    rw[LA]
    exact wj hL fj ij hf hs hr hE
 | seq x y ihx ihy=>
   intro k hk c h w fr a hf hs e fr' h' hx Q hE
   simp only[gd] at hk
   split at hk
   case h_2=> cases hk
   rename_i kx ky hkx yX
   simp only[Option.some.injEq] at hk
   subst hk
   simp only[exec] at hx
   apply wp_seq
   split at hx
   ·rename_i fr1 h1 xa
    refine ihx hkx hf hs xa ?_
    intro a1 c1 w1 hf1 uv hle aR eX
    refine ihy yX hf1 uv hx ?_
    intro a2 c2 w2 hf2 CQ YD rT WB
    exact hE a2 c2 w2 hf2 CQ (hle.trans YD) (aR.trans rT) (WB.trans eX)
   ·rename_i cD
    refine ihx hkx hf hs hx ?_
    intro a1 c1 w1 hf1 uv hle aR eX
    have:=hE a1 c1 w1 hf1 uv hle aR eX
    cases e with
    | normal=> exact absurd hx (cD fr' h')
    | exit id=> exact this
    | ret=> exact this
 | cond x p q ihp ihq=>
   intro k hk c h w fr a hf hs e fr' h' hx Q hE
   simp only[gd] at hk
   split at hk
   case h_2=> cases hk
   rename_i kx kp kq hkx hkp hkq
   simp only[Option.some.injEq] at hk
   subst hk
   have hv:=q23z hf hkx
   simp only[exec] at hx
   split at hx
   ·rename_i he
    rw[he] at hv
    exact wp_cond_true (bx.1 hv).1 (ihp hkp hf hs hx hE)
   ·rename_i he
    rw[he] at hv
    exact wp_cond_false (bx.1 hv).1 (ihq hkq hf hs hx hE)
   ·cases hx
 | block id x ihx=>
   intro k hk c h w fr a hf hs e fr' h' hx Q hE
   simp only[gd] at hk
   obtain ⟨kx,hkx,rfl⟩:=Option.map_eq_some_iff.1 hk
   simp only[exec] at hx
   apply wp_block
   split at hx
   ·rename_i id' fr1 h1 xa
    refine ihx hkx hf hs xa ?_
    intro a1 c1 w1 hf1 uv hle aR eX
    simp only[qk,Exit.inBlock]
    split at hx
    ·rename_i hid
     simp only[Option.some.injEq,Prod.mk.injEq] at hx
     obtain ⟨rfl,rfl,rfl⟩:=hx
     rw[if_pos hid]
     exact hE a1 c1 w1 hf1 uv hle aR eX
    ·rename_i hid
     simp only[Option.some.injEq,Prod.mk.injEq] at hx
     obtain ⟨rfl,rfl,rfl⟩:=hx
     rw[if_neg hid]
     exact hE a1 c1 w1 hf1 uv hle aR eX
   ·rename_i cD
    refine ihx hkx hf hs hx ?_
    intro a1 c1 w1 hf1 uv hle aR eX
    have:=hE a1 c1 w1 hf1 uv hle aR eX
    cases e with
    | normal=> exact this
    | exit id'=> exact absurd hx (cD id' fr' h')
    | ret=> exact this
 | loop x ihx=>
   intro k hk c0 h w0 fr a0 hf hs e fr' h' hx Q hE
   simp only[gd] at hk
   obtain ⟨kx,hkx,rfl⟩:=Option.map_eq_some_iff.1 hk
   simp only[exec] at hx
   intro b kk cs
   have key:∀(n:Nat) (fr:Fr) (h:Hp) (a:Act) (w:World) (c:Ctx),RF (ak P) c fr a→bc (ak P) c h w→c0.le c→St w0 w→a.defers=a0.defers→iter (exec cf base kx) n fr h=some (e,fr',h')→
    ∃e a' w',Q e a' w'∧Arrives P (lone (b.at a (.code x:: .inLoop x::kk)) cs w) b kk cs e a' w':=by
     intro n
     induction n with
     | zero=> intro fr h a w c hf hs _ _ _ hi;simp[iter] at hi
     | succ n ih=>
       intro fr h a w c hf hs hle aR eX hi
       simp only[iter] at hi
       split at hi
       ·rename_i fr1 h1 xa
        obtain ⟨e1,a1,w1,hq,lS⟩:=ihx hkx hf hs xa (Q:=fun e a' w'=> e= .normal∧∃c',RF (ak P) c' fr1 a'∧bc (ak P) c' h1 w'∧c.le c'∧St w w'∧a'.defers=a.defers) (fun a1 c1 w1 p1 p2 p3 p4 p5=>⟨rfl,c1,p1,p2,p3,p4,p5⟩) b (.inLoop x::kk) cs
        obtain ⟨rfl,c1,p1,p2,p3,p4,p5⟩:=hq
        obtain ⟨e2,a2,w2,Hh,WC⟩:=ih fr1 h1 a1 w1 c1 p1 p2 (hle.trans p3) (aR.trans p4) (p5.trans eX) hi
        exact ⟨e2,a2,w2,Hh,.of_steps (Steps.trans lS (.one step_inLoop)) WC⟩
       ·rename_i cD
        obtain ⟨e1,a1,w1,hq,lS⟩:=ihx hkx hf hs hi (Q:=fun e' a' w'=> e'=qk e∧Q (qk e) a' w') (fun a1 c1 w1 p1 p2 p3 p4 p5=>⟨rfl,hE a1 c1 w1 p1 p2 (hle.trans p3) (aR.trans p4) (p5.trans eX)⟩) b (.inLoop x::kk) cs
        obtain ⟨rfl,hq⟩:=hq
        cases e with
        | normal=> exact absurd hi (cD fr' h')
        | exit id=> exact ⟨_,a1,w1,hq,.pass (x:= .inLoop x) rfl (fun _ _=> .inl (by simp[qk])) lS⟩
        | ret=> exact ⟨_,a1,w1,hq,.pass (x:= .inLoop x) rfl (fun _ _=> .inl (by simp[qk])) lS⟩
   obtain ⟨n,hn⟩:=gv.1 hx
   obtain ⟨e1,a1,w1,hq,lS⟩:=key n fr h a0 w0 c0 hf hs (Ctx.le_refl c0) (St.refl w0) rfl hn
   exact ⟨e1,a1,w1,hq,.of_steps (.one step_loop) lS⟩
 | exit id=>
   intro k hk c h w fr a hf hs e fr' h' hx Q hE
   simp only[gd,Option.some.injEq] at hk
   subst hk
   simp only[exec,Option.some.injEq,Prod.mk.injEq] at hx
   obtain ⟨rfl,rfl,rfl⟩:=hx
   exact wp_exit (hE a c w hf hs (Ctx.le_refl c) (St.refl w) rfl)
 | ret=>
   intro k hk c h w fr a hf hs e fr' h' hx Q hE
   simp only[gd,Option.some.injEq] at hk
   subst hk
   simp only[exec,Option.some.injEq,Prod.mk.injEq] at hx
   obtain ⟨rfl,rfl,rfl⟩:=hx
   exact wp_ret (hE a c w hf hs (Ctx.le_refl c) (St.refl w) rfl)
 | _=> intro k hk;simp[gd] at hk
end
end Go.Vm
namespace Go.Vm
def aV.low (b:Nat):aV→Bool
 | .cells _ es=> V.low.all b es
 | .lit _ es=> V.low.all b es
 | .map es _=> es.all fun e=> e.1.low b && e.2.1.low b
 | _=> true
def Cu (b:Nat) (h:Hp):Prop:=∀id,id < b→∀k,h[id]? =some k→k.low b=true
theorem eG {b:Nat}:∀ {es:List V},V.low.all b es=true↔∀e∈es,e.low b=true
 | []=> by simp[V.low.all]
 | e::es=> by simp only[V.low.all,Bool.and_eq_true,eG,List.forall_mem_cons]
theorem oH (b:Nat):∀v:V,v.ground=true→v.low b=true:=by
 intro v
 induction v using V.rec (motive_2:=fun vs=> V.ground.all vs=true→V.low.all b vs=true) with
 | s x=> intro _;rfl
 | ptr=> intro h;cases h
 | ref=> intro h;cases h
 | al full g es ih=> intro h;exact ih h
 | dQ v ih=> intro h;exact ih h
 | st t fs ih=> intro h;exact ih h
 | arr t es ih=> intro h;exact ih h
 | bI vs ih=> intro h;exact ih h
 | iface t v ih=> intro h;exact ih h
 | fn f cap ih=> intro h;exact ih h
 | mp=> intro h;cases h
 | top=> intro h;cases h
 | nil=> rename_i h;rfl
 | cons v vs h1 h2=>
   rename_i h
   simp only[V.ground.all,Bool.and_eq_true] at h
   simp only[V.low.all,Bool.and_eq_true]
   exact ⟨h1 h.1,h2 h.2⟩
theorem Cu.append {b:Nat} {h:Hp} (hl:Cu b h) (hb:b≤h.length) (k:aV):Cu b (h++[k]):=fun id hid x hx=> by
 rw[List.getElem?_append_left (by omega)] at hx
 exact hl id hid x hx
theorem Cu.set {b:Nat} {h:Hp} (hl:Cu b h) (id:Nat) {k:aV} (hk:id < b→k.low b=true):Cu b (h.set id k):=fun i hi x hx=> by
 by_cases hii:id=i
 ·subst hii
  have bW:id < h.length:=by
    have:=(List.getElem?_eq_some_iff.1 hx).1
    simpa using this
  rw[List.getElem?_set_self bW] at hx
  cases hx
  exact hk hi
 ·rw[List.getElem?_set_ne hii] at hx
  exact hl i hi x hx
theorem Cu.row {b:Nat} {h:Hp} (hl:Cu b h) {id aw:Nat} {g:Option Nat} {es:List V} (hr:rowOf h id aw=some (g,es)) (hid:id < b):∀e∈es,e.low b=true:=
 eG.1 (hl id hid _ (q16z hr).1)
theorem ql {b:Nat} {y:V} (hy:y.low b=true):∀(p:List Nat) (v v':V),putAt y p v=some v'→v.low b=true→v'.low b=true
 | [],v,v',h,_=> by simp only[putAt,Option.some.injEq] at h;subst h;exact hy
 | i::p,v,v',h,hv=> by
   have key:∀(fs:List V) (x x':V),V.low.all b fs=true→fs[i]? =some x→putAt y p x=some x'→V.low.all b (fs.set i x')=true:=fun fs x x' hfs hx hx'=> by
     rw[eG] at hfs ⊢
     intro e he
     rcases List.mem_or_eq_of_mem_set he with he | rfl
     ·exact hfs e he
     ·exact ql hy p x e hx' (hfs x (List.mem_of_getElem? hx))
   cases v with
   | st t fs=>
     simp only[putAt] at h
     split at h
     ·rename_i x hx
      obtain ⟨x',hx',rfl⟩:=Option.map_eq_some_iff.1 h
      exact key fs x x' hv hx hx'
     ·cases h
   | arr t fs=>
     simp only[putAt] at h
     split at h
     ·rename_i x hx
      obtain ⟨x',hx',rfl⟩:=Option.map_eq_some_iff.1 h
      exact key fs x x' hv hx hx'
     ·cases h
   | _=> simp[putAt] at h
def Kp (base:Nat) (h h':Hp):Prop:=∀b,b≤base→b≤h.length→Cu b h→Cu b h'∧h.length≤h'.length
theorem Kp.refl (base:Nat) (h:Hp):Kp base h h:=fun b _ _ hl=>⟨hl,Nat.le_refl _⟩
theorem Kp.trans {base:Nat} {h h1 h2:Hp} (a:Kp base h h1) (k:Kp base h1 h2):Kp base h h2:=fun b hb tI hl=>
 let ⟨x,y⟩:=a b hb tI hl
 let ⟨x',y'⟩:=k b hb (Nat.le_trans tI y) x
 ⟨x',Nat.le_trans y y'⟩
theorem Kp.append (base:Nat) (h:Hp) (k:aV):Kp base h (h++[k]):=fun b _ tI hl=>⟨hl.append tI k,by simp⟩
theorem Kp.set {base:Nat} {h:Hp} {id:Nat} {k:aV} (hk:∀b,b≤base→Cu b h→id < b→k.low b=true):Kp base h (h.set id k):=fun b hb _ hl=>⟨hl.set id (hk b hb hl),by simp⟩
theorem oI {base id:Nat} {v:V} (h:bO base id v=true) {b:Nat} (hb:b≤base) (hid:id < b):v.low b=true:=by
 simp only[bO,Bool.or_eq_true,decide_eq_true_eq] at h
 rcases h with h | h
 ·omega
 ·exact oH b v h
theorem rI {b cl:Nat} {es:List (V×V×Nat)}:(aV.map es cl).low b=true↔∀e∈es,e.1.low b=true∧e.2.1.low b=true:=by simp[aV.low,List.all_eq_true]
theorem vh {kc:Option (Nat×IntKind)} {x:V}:∀ {es:List (V×V×Nat)} {n i:Nat} {p:V×Nat},gU kc x es n=some (some (i,p))→n≤i∧∃e,es[i - n]? =some e∧e.2=p∧mG kc x e.1=some true
 | [],n,i,p,h=> by simp[gU] at h
 | e::es,n,i,p,h=> by
   simp only[gU] at h
   split at h
   ·rename_i hk
    simp only[Option.some.injEq,Prod.mk.injEq] at h
    obtain ⟨rfl,rfl⟩:=h
    exact ⟨Nat.le_refl _,e,by simp,rfl,hk⟩
   ·obtain ⟨h1,e',h2,h3⟩:=vh h
    refine ⟨by omega,e',?_,h3⟩
    have:i - n=(i - (n+1))+1:=by omega
    rw[this];exact h2
   ·cases h
theorem AT {kc:Option (Nat×IntKind)} {x:V} {es:List (V×V×Nat)} {r:Option (Nat×V×Nat)} (h:pg kc x es=some r):mG kc x x=some true∧gU kc x es 0=some r:=by
 unfold pg at h
 split at h
 ·rename_i hc;exact ⟨hc,h⟩
 ·cases h
theorem tn {base:Nat} {h:Hp} {id cl cl':Nat} {es es':List (V×V×Nat)} (hg:h[id]? =some (.map es cl))
 (hm:∀e∈es',(e.1.ground=true∨∃e0∈es,e.1=e0.1)∧(bO base id e.2.1=true∨∃e0∈es,e.2.1=e0.2.1)):Kp base h (h.set id (.map es' cl')):=by
 refine Kp.set fun b hb hl hid=> rI.2 fun e he=> ?_
 have cM:=rI.1 (hl id hid _ hg)
 obtain ⟨h1,h2⟩:=hm e he
 refine ⟨?_,?_⟩
 ·rcases h1 with h1 | ⟨e0,h0,h1⟩
  ·exact oH b _ h1
  ·rw[h1];exact (cM e0 h0).1
 ·rcases h2 with h2 | ⟨e0,h0,h2⟩
  ·exact oI h2 hb hid
  ·rw[h2];exact (cM e0 h0).2
theorem QJ {base:Nat} {h h':Hp} {kc:Option (Nat×IntKind)} {g:Option Nat} {x k v r:V} (hr:xY base h kc g x k v=some (r,h')):Kp base h h':=by
 unfold xY at hr
 split at hr
 case h_2=> cases hr
 split at hr
 case isFalse=> cases hr
 rename_i hc
 simp only[Bool.and_eq_true,decide_eq_true_eq] at hc
 split at hr
 case h_2=> cases hr
 rename_i es cl hg
 obtain ⟨q,hq,he⟩:=Option.map_eq_some_iff.1 hr
 split at he <;> cases he
 ·refine tn hg fun e he=> ?_
  rcases List.mem_or_eq_of_mem_set he with he | rfl
  ·exact ⟨.inr ⟨e,he,rfl⟩,.inr ⟨e,he,rfl⟩⟩
  ·exact ⟨.inl hc.1.1.2,.inl hc.1.1.1⟩
 ·refine tn hg fun e he=> ?_
  rcases List.mem_append.1 he with he | he
  ·exact ⟨.inr ⟨e,he,rfl⟩,.inr ⟨e,he,rfl⟩⟩
  ·simp only[List.mem_singleton] at he;subst he
   exact ⟨.inl hc.1.1.2,.inl hc.1.1.1⟩
theorem QK {base:Nat} {h h':Hp} {kc:Option (Nat×IntKind)} {z x k r:V} (hr:xZ base h kc z x k=some (r,h')):Kp base h h':=by
 unfold xZ at hr
 split at hr
 case h_2=> cases hr
 split at hr
 case isFalse=> cases hr
 rename_i hc
 simp only[Bool.and_eq_true] at hc
 split at hr
 case h_2=> cases hr
 rename_i es cl hg
 obtain ⟨q,hq,he⟩:=Option.map_eq_some_iff.1 hr
 split at he <;> cases he
 ·obtain ⟨_,e0,h1,h2,_⟩:=vh (AT hq).2
  refine tn hg fun e he=> ?_
  rcases List.mem_or_eq_of_mem_set he with he | rfl
  ·exact ⟨.inr ⟨e,he,rfl⟩,.inr ⟨e,he,rfl⟩⟩
  ·exact ⟨.inl hc.2,.inr ⟨e0,List.mem_of_getElem? h1,by rw[h2]⟩⟩
 ·refine tn hg fun e he=> ?_
  rcases List.mem_append.1 he with he | he
  ·exact ⟨.inr ⟨e,he,rfl⟩,.inr ⟨e,he,rfl⟩⟩
  ·simp only[List.mem_singleton] at he;subst he
   exact ⟨.inl hc.2,.inl hc.1⟩
theorem yx {n:Int} {v:V}:∀ {es es':List (V×V×Nat)},x9 n v es=some es'→∀e∈es',e∈es∨((∃e0∈es,e.1=e0.1)∧e.2.1=v)
 | [],es',h=> by simp[x9] at h
 | e::es,es',h=> by
   simp only[x9] at h
   split at h
   ·cases h
    intro x hx
    rcases List.mem_cons.1 hx with rfl | hx
    ·exact .inr ⟨⟨e,by simp,rfl⟩,rfl⟩
    ·exact .inl (by simp[hx])
   ·obtain ⟨q,hq,rfl⟩:=Option.map_eq_some_iff.1 h
    intro x hx
    rcases List.mem_cons.1 hx with rfl | hx
    ·exact .inl (by simp)
    ·rcases yx hq x hx with h1 | ⟨⟨e0,h1,h2⟩,h3⟩
     ·exact .inl (by simp[h1])
     ·exact .inr ⟨⟨e0,by simp[h1],h2⟩,h3⟩
theorem QL {base:Nat} {h h':Hp} {g:Option Nat} {x k v r:V} (hr:ya base h g x k v=some (r,h')):Kp base h h':=by
 unfold ya at hr
 split at hr
 case h_2=> cases hr
 split at hr
 case isFalse=> cases hr
 rename_i hc
 simp only[Bool.and_eq_true,decide_eq_true_eq] at hc
 split at hr
 case h_2=> cases hr
 rename_i es cl hg
 obtain ⟨q,hq,he⟩:=Option.map_eq_some_iff.1 hr
 cases he
 refine tn hg fun e he=> ?_
 rcases yx hq e he with h1 | ⟨⟨e0,h1,h2⟩,h3⟩
 ·exact ⟨.inr ⟨e,h1,rfl⟩,.inr ⟨e,h1,rfl⟩⟩
 ·exact ⟨.inr ⟨e0,h1,h2⟩,.inl (by rw[h3];exact hc.1.1)⟩
theorem QM {base:Nat} {h h':Hp} {g:Option Nat} {x y v:V} (hr:xT base h g x y=some (v,h')):Kp base h h':=by
 unfold xT at hr
 split at hr
 case h_2=> cases hr
 rename_i id path aw
 split at hr
 case h_2=> cases hr
 split at hr
 case isFalse=> cases hr
 rename_i aT
 obtain ⟨h1,aR,he⟩:=Option.map_eq_some_iff.1 hr
 simp only[Prod.mk.injEq] at he
 obtain ⟨rfl,rfl⟩:=he
 unfold store at aR
 split at aR
 case h_2=> cases aR
 rename_i g' es i p ck nM
 split at aR
 case h_2=> cases aR
 rename_i w hw
 obtain ⟨w',lH,rfl⟩:=Option.map_eq_some_iff.1 aR
 refine Kp.set fun b hb hl hid=> ?_
 have cM:=hl.row ck hid
 simp only[aV.low]
 rw[eG]
 intro e he
 rcases List.mem_or_eq_of_mem_set he with he | rfl
 ·exact cM e he
 ·exact ql (oI aT.2.2.2 hb hid) p w e lH (cM w (List.mem_of_getElem? hw))
theorem I4 {base:Nat} {h h':Hp} {g:Option Nat} {x v:V} (hr:sJ h g x=some (v,h')):Kp base h h':=by
 unfold sJ at hr
 split at hr
 ·cases hr;exact Kp.append base h _
 ·cases hr
theorem QN {base:Nat} {h h':Hp} {g:Option Nat} {z:List V} {p:List Nat} {xs:List V} {v:V} (hr:nL h g z p xs=some (v,h')):Kp base h h':=by
 unfold nL at hr
 split at hr
 ·split at hr
  ·split at hr <;> cases hr
   ·exact Kp.refl base h
   ·exact Kp.append base h _
  ·cases hr
 ·cases hr
theorem QO {base:Nat} {h h':Hp} {x v:V} (hr:uM h x=some (v,h')):Kp base h h':=by
 unfold uM at hr
 split at hr
 ·split at hr
  ·split at hr
   ·cases hr;exact Kp.set fun _ _ _ _=> rfl
   ·cases hr
  ·unfold Ik at hr
   split at hr
   ·split at hr
    ·cases hr;exact Kp.set fun _ _ _ _=> rfl
    ·cases hr
   ·cases hr
 ·cases hr
theorem I5 {base:Nat} {h h1 h':Hp} {v v':V} (hk:Kp base h h1) (hr:qx (v,h1)=some (v',h')):Kp base h h':=by
 unfold qx at hr
 split at hr
 ·cases hr;exact hk
 ·split at hr
  ·split at hr
   ·cases hr;exact hk.trans (Kp.set fun _ _ _ _=> rfl)
   ·cases hr
  ·cases hr
 ·cases hr
theorem QP {base:Nat} {h h':Hp} {t n:Nat} {g:Option Nat} {x v:V} (hr:uo h t g n x=some (v,h')):Kp base h h':=by
 unfold uo at hr
 obtain ⟨⟨v1,h1⟩,ym,mz⟩:=Option.bind_eq_some_iff.1 hr
 simp only at mz
 split at mz
 ·split at mz
  ·cases mz;exact I5 (Kp.refl base h) ym
  ·cases mz
 ·cases mz
theorem QQ {base:Nat} {h h':Hp} {g:Option Nat} {z:List V} {p:List Nat} {xs:List V} {v:V} (hr:sK h g z p xs=some (v,h')):Kp base h h':=by
 unfold sK at hr
 split at hr
 ·split at hr
  ·split at hr <;> cases hr
   exact Kp.append base h _
  ·cases hr
 ·cases hr
theorem QR {base:Nat} {h h':Hp} {g:Option Nat} {z x y v:V} (hr:uO h g z x y=some (v,h')):Kp base h h':=by
 unfold uO at hr
 split at hr
 ·split at hr
  ·split at hr <;> cases hr
   ·exact Kp.refl base h
   ·exact Kp.append base h _
  ·cases hr
 ·cases hr
theorem lp {base id:Nat} {ys:List V} (h:ys.all (bO base id)=true) {b:Nat} (hb:b≤base) (hid:id < b):∀y∈ys,y.low b=true:=fun y hy=>
 oI (List.all_eq_true.1 h y hy) hb hid
theorem AU {base:Nat} {h h':Hp} {g gy:Option Nat} {bytes:Nat} {x v:V} {ys:List V} (hr:cT base g bytes h x gy ys=some (v,h')):Kp base h h':=by
 unfold cT at hr
 split at hr
 ·obtain ⟨n,_,he⟩:=Option.map_eq_some_iff.1 hr
  cases he;exact Kp.refl base h
 ·split at hr
  ·split at hr
   ·split at hr
    ·cases hr;exact Kp.append base h _
    ·cases hr
   ·split at hr
    ·rename_i ck
     split at hr
     ·rename_i aT
      split at hr
      ·cases hr
       refine Kp.set fun b hb hl hid=> ?_
       simp only[aV.low]
       rw[eG]
       intro e he
       have cM:=hl.row ck hid
       rcases List.mem_append.1 he with he | he
       ·rcases List.mem_append.1 he with he | he
        ·exact cM e (List.mem_of_mem_take he)
        ·exact lp aT.2.2 hb hid e he
       ·exact cM e (List.mem_of_mem_drop he)
      ·split at hr
       ·cases hr
        refine Kp.set fun b hb hl hid=> ?_
        simp only[aV.low]
        rw[eG]
        intro e he
        rcases List.mem_append.1 he with he | he
        ·exact hl.row ck hid e he
        ·exact lp aT.2.2 hb hid e he
       ·cases hr
     ·cases hr
    ·cases hr
   ·cases hr
  ·cases hr
theorem QS {base:Nat} {h h':Hp} {g:Option Nat} {bytes:Nat} {z x y v:V} (hr:ub base h g bytes z x y=some (v,h')):Kp base h h':=by
 unfold ub at hr
 split at hr
 ·split at hr
  ·exact AU hr
  ·cases hr
 ·cases hr
theorem Cv {base:Nat} {h h':Hp} {g gy:Option Nat} {x v:V} {ys:List V} (hr:copyV base g h x gy ys=some (v,h')):Kp base h h':=by
 unfold copyV at hr
 split at hr
 ·split at hr
  ·rename_i ck
   simp only at hr
   split at hr
   ·rename_i aT
    cases hr
    refine Kp.set fun b hb hl hid=> ?_
    simp only[aV.low]
    rw[eG]
    intro e he
    have cM:=hl.row ck hid
    rcases List.mem_append.1 he with he | he
    ·rcases List.mem_append.1 he with he | he
     ·exact cM e (List.mem_of_mem_take he)
     ·exact lp aT.2.2.2.2 hb hid e (List.mem_of_mem_take he)
    ·exact cM e (List.mem_of_mem_drop he)
   ·cases hr
  ·cases hr
 ·cases hr
theorem tp {b:Nat}:∀(p:List Nat) (v v':V),nodeAt p v=some v'→v.low b=true→v'.low b=true
 | [],v,v',h,hl=> by cases v <;>(cases h;exact hl)
 | i::p,v,v',h,hl=> by
   have key:∀fs:List V,V.low.all b fs=true→(match fs[i]? with | some v=> nodeAt p v | none=> none)=some v'→v'.low b=true:=fun fs hf hn=> by
     cases hx:fs[i]? with
     | none=> rw[hx] at hn;cases hn
     | some x=> rw[hx] at hn;exact tp p x v' hn (eG.1 hf x (List.mem_of_getElem? hx))
   cases v with
   | st t fs=> exact key fs (by simpa only[V.low] using hl) h
   | arr t fs=> exact key fs (by simpa only[V.low] using hl) h
   | _=> cases h
theorem I6 {base:Nat} {h h':Hp} {g gy:Option Nat} {x v:V} {ys:List V} (hr:xR base g h x gy ys=some (v,h')):Kp base h h':=by
 unfold xR at hr
 split at hr
 ·rename_i id i p g' off len aw
  split at hr
  case h_2=> cases hr
  rename_i t es nM
  split at hr
  case isFalse=> cases hr
  rename_i aT
  obtain ⟨h1,aR,he⟩:=Option.map_eq_some_iff.1 hr
  simp only[Prod.mk.injEq] at he
  obtain ⟨rfl,rfl⟩:=he
  unfold store at aR
  split at aR
  case h_2=> cases aR
  rename_i g1 es1 i1 p1 ck hpp
  cases hpp
  split at aR
  case h_2=> cases aR
  rename_i w hw
  obtain ⟨w',lH,rfl⟩:=Option.map_eq_some_iff.1 aR
  unfold node at nM
  rw[ck] at nM
  simp only[hw] at nM
  refine Kp.set fun b hb hl hid=> ?_
  have cM:=eG.1 (hl id hid _ (q16z ck).1)
  have hwl:=cM w (List.mem_of_getElem? hw)
  have FD:∀e∈es,e.low b=true:=by
    have:=tp p w _ nM hwl
    simpa only[V.low,eG] using this
  have lV:(V.arr t (es.take off++ys.take (min ys.length len)++es.drop (off+min ys.length len))).low b=true:=by
    simp only[V.low]
    rw[eG]
    intro e he
    rcases List.mem_append.1 he with he | he
    ·rcases List.mem_append.1 he with he | he
     ·exact FD e (List.mem_of_mem_take he)
     ·exact lp aT.2.2.2 hb hid e (List.mem_of_mem_take he)
    ·exact FD e (List.mem_of_mem_drop he)
  simp only[aV.low]
  rw[eG]
  intro e he
  rcases List.mem_or_eq_of_mem_set he with he | rfl
  ·exact cM e he
  ·exact ql lV p w e lH hwl
 ·exact Cv hr
theorem QT {base:Nat} {h h':Hp} {g:Option Nat} {z x v:V} (hr:xU base h g z x=some (v,h')):Kp base h h':=by
 unfold xU at hr
 split at hr
 ·cases hr;exact Kp.refl base h
 ·obtain ⟨r,ym,he⟩:=Option.map_eq_some_iff.1 hr
  cases he
  exact Cv ym
 ·cases hr
theorem QU {base:Nat} {h h':Hp} {lit:Bool} {x v:V} (hr:qH h lit x=some (v,h')):Kp base h h':=by
 unfold qH at hr
 split at hr
 ·split at hr
  ·cases hr;exact Kp.refl base h
  ·split at hr
   ·cases hr
   ·cases hr;exact Kp.append base h _
 ·cases hr
theorem QV {base:Nat} {h h':Hp} {x v:V} (hr:xV h x=some (v,h')):Kp base h h':=by
 unfold xV at hr
 split at hr
 ·cases hr;exact Kp.append base h _
 ·cases hr
theorem QW {base:Nat} {h h':Hp} {x v:V} (hr:xW h x=some (v,h')):Kp base h h':=by
 unfold xW at hr
 split at hr
 ·split at hr
  ·split at hr
   ·cases hr;exact Kp.set fun _ _ _ _=> rfl
   ·cases hr;exact Kp.refl base h
  ·cases hr
 ·cases hr
def KpF (base:Nat) (cf:Nat→List V→Hp→Option (V×Hp)):Prop:=∀f vs h v h',cf f vs h=some (v,h')→Kp base h h'
theorem WD {cf:Nat→List V→Hp→Option (V×Hp)} {base:Nat} (fj:KpF base cf) {o:O} {xs:List V} {h h':Hp} {v:V} (hr:aB cf base h o xs=some (v,h')):Kp base h h':=by
 by_cases he:o.bQ=false
 ·have:=vf he hr
  subst this
  exact Kp.refl base _
 cases o <;> simp only[O.bQ,not_true_eq_false,Bool.not_eq_false,not_false_eq_true] at he <;> try (cases he;done)
 case bd g=> match xs,hr with
   | [x,y],hr=> exact QM hr
   | [],hr=> cases hr
   | [_],hr=> cases hr
   | _::_::_::_,hr=> cases hr
 case box g=> match xs,hr with
   | [x],hr=> exact I4 hr
   | [],hr=> cases hr
   | _::_::_,hr=> cases hr
 case eJ g z=> match xs,hr with
   | [],hr=> exact I4 hr
   | _::_,hr=> cases hr
 case ja g z p=> exact QN (xs:=xs) hr
 case qX=> match xs,hr with
   | [x],hr=> exact QO hr
   | [],hr=> cases hr
   | _::_::_,hr=> cases hr
 case mks g z=> match xs,hr with
   | [x,y],hr=> exact QR hr
   | [],hr=> cases hr
   | [_],hr=> cases hr
   | _::_::_::_,hr=> cases hr
 case app g by'=> match xs,hr with
   | [x,y],hr=>
     obtain ⟨r,_,hr⟩:=Option.bind_eq_some_iff.1 (show (source h y).bind (fun r=> cT base g by' h x r.1 r.2)=some (v,h') from hr)
     exact AU hr
   | [],hr=> cases hr
   | [_],hr=> cases hr
   | _::_::_::_,hr=> cases hr
 case apx g by'=> match xs,hr with
   | [x,y],hr=>
     obtain ⟨⟨v1,h1⟩,ym,mz⟩:=Option.bind_eq_some_iff.1 (show (nF base h g by' x y).bind qx=some (v,h') from hr)
     obtain ⟨r,_,hr⟩:=Option.bind_eq_some_iff.1 (show (source h y).bind (fun r=> cT base g by' h x r.1 r.2)=some (v1,h1) from ym)
     exact I5 (AU hr) mz
   | [],hr=> cases hr
   | [_],hr=> cases hr
   | _::_::_::_,hr=> cases hr
 case bsx g z p=> exact QQ (xs:=xs) hr
 case apz g by' z=> match xs,hr with
   | [x,y],hr=> exact QS hr
   | [],hr=> cases hr
   | [_],hr=> cases hr
   | _::_::_::_,hr=> cases hr
 case s2a t g n=> match xs,hr with
   | [x],hr=> exact QP hr
   | [],hr=> cases hr
   | _::_::_,hr=> cases hr
 case mkm=> match xs,hr with
   | [],hr=> cases hr;exact Kp.append base h _
   | _::_,hr=> cases hr
 case mup kc g=> match xs,hr with
   | [x,k,y],hr=> exact QJ hr
   | [],hr=> cases hr
   | [_],hr=> cases hr
   | [_,_],hr=> cases hr
   | _::_::_::_::_,hr=> cases hr
 case mpe kc z=> match xs,hr with
   | [x,y],hr=> exact QK hr
   | [],hr=> cases hr
   | [_],hr=> cases hr
   | _::_::_::_,hr=> cases hr
 case ens g=> match xs,hr with
   | [x,k,y],hr=> exact QL hr
   | [],hr=> cases hr
   | [_],hr=> cases hr
   | [_,_],hr=> cases hr
   | _::_::_::_::_,hr=> cases hr
 case cpy g=> match xs,hr with
   | [x,y],hr=>
     obtain ⟨r,_,hr⟩:=Option.bind_eq_some_iff.1 (show (source h y).bind (fun r=> xR base g h x r.1 r.2)=some (v,h') from hr)
     exact I6 hr
   | [],hr=> cases hr
   | [_],hr=> cases hr
   | _::_::_::_,hr=> cases hr
 case clr g z=> match xs,hr with
   | [x],hr=> exact QT hr
   | [],hr=> cases hr
   | _::_::_,hr=> cases hr
 case s2b lit=> match xs,hr with
   | [x],hr=> exact QU hr
   | [],hr=> cases hr
   | _::_::_,hr=> cases hr
 case rng=> match xs,hr with
   | [x],hr=> exact QV hr
   | [],hr=> cases hr
   | _::_::_,hr=> cases hr
 case nxt=> match xs,hr with
   | [x],hr=> exact QW hr
   | [],hr=> cases hr
   | _::_::_,hr=> cases hr
 case call f=> exact fj f xs h v h' hr
 case lX=> match xs,hr with
   | .fn f cap::xs,hr=> exact fj f (xs++cap) h v h' hr
   | [],hr=> cases hr
theorem Cw {cf:Nat→List V→Hp→Option (V×Hp)} {base:Nat} (fj:KpF base cf) {fr:Fr} {g:G} {h h':Hp} {v:V} (hr:stepG cf base fr h g=some (v,h')):Kp base h h':=by
 unfold stepG at hr
 split at hr
 ·exact WD fj hr
 ·cases hr;exact Kp.refl base _
 ·cases hr
theorem Cx {cf:Nat→List V→Hp→Option (V×Hp)} {base:Nat} (fj:KpF base cf):∀ {gs:List G} {fr:Fr} {h:Hp} {fr':Fr} {h':Hp},jW cf base gs fr h=some (fr',h')→Kp base h h'
 | [],fr,h,fr',h',hr=> by simp only[jW,Option.some.injEq,Prod.mk.injEq] at hr;rw[←hr.2];exact Kp.refl base _
 | g::gs,fr,h,fr',h',hr=> by
   simp only[jW] at hr
   split at hr
   ·rename_i v h1 h2
    exact (Cw fj h2).trans (Cx fj hr)
   ·cases hr
theorem wv {cf:Nat→List V→Hp→Option (V×Hp)} {base:Nat} (fj:KpF base cf):∀ {ds:List GD} {fr:Fr} {h:Hp} {hs:List Hp} {xs:List Seen} {fr':Fr} {h':Hp} {dh:List Hp} {xs':List Seen},mH cf base ds fr h hs xs=some (fr',h',dh,xs')→Kp base h h'
 | [],fr,h,hs,xs,fr',h',dh,xs',hr=> by simp only[mH,Option.some.injEq,Prod.mk.injEq] at hr;rw[←hr.2.1];exact Kp.refl base _
 | d::ds,fr,h,hs,xs,fr',h',dh,xs',hr=> by
   simp only[mH] at hr
   split at hr
   ·rename_i v h1 h2
    split at hr
    ·exact (Cw fj h2).trans (wv fj hr)
    ·exact wv fj hr
   ·cases hr
theorem wx {cf:Nat→List V→Hp→Option (V×Hp)} {base:Nat} (fj:KpF base cf):∀(k:C) {fr:Fr} {h:Hp} {e:Ex} {fr':Fr} {h':Hp},exec cf base k fr h=some (e,fr',h')→Kp base h h':=by
 intro k
 induction k with
 | skip=> intro fr h e fr' h' hx;simp only[exec,Option.some.injEq,Prod.mk.injEq] at hx;rw[←hx.2.2];exact Kp.refl base _
 | af gs=>
   intro fr h e fr' h' hx
   simp only[exec] at hx
   obtain ⟨r,hr,he⟩:=Option.map_eq_some_iff.1 hx
   cases he
   exact Cx fj hr
 | bL ds=>
   intro fr h e fr' h' hx
   simp only[exec] at hx
   obtain ⟨r,hr,he⟩:=Option.map_eq_some_iff.1 hx
   cases he
   unfold bL at hr
   split at hr
   ·rename_i bb
    split at hr
    ·cases hr;exact wv fj bb
    ·cases hr
   ·cases hr
 | seq a b iha ihb=>
   intro fr h e fr' h' hx
   simp only[exec] at hx
   split at hx
   ·rename_i xa;exact (iha xa).trans (ihb hx)
   ·exact iha hx
 | cond c a b iha ihb=>
   intro fr h e fr' h' hx
   simp only[exec] at hx
   split at hx
   ·exact iha hx
   ·exact ihb hx
   ·cases hx
 | block id a iha=>
   intro fr h e fr' h' hx
   simp only[exec] at hx
   split at hx
   ·rename_i xa
    split at hx <;>(cases hx;exact iha xa)
   ·exact iha hx
 | loop a iha=>
   intro fr h e fr' h' hx
   simp only[exec] at hx
   obtain ⟨n,hn⟩:=gv.1 hx
   induction n generalizing fr h with
   | zero=> simp[iter] at hn
   | succ n ih=>
     simp only[iter] at hn
     split at hn
     ·rename_i fr1 h1 xa
      exact (iha xa).trans (ih (gv.2 ⟨n,hn⟩) hn)
     ·exact iha hn
 | exit id=> intro fr h e fr' h' hx;simp only[exec,Option.some.injEq,Prod.mk.injEq] at hx;rw[←hx.2.2];exact Kp.refl base _
 | ret=> intro fr h e fr' h' hx;simp only[exec,Option.some.injEq,Prod.mk.injEq] at hx;rw[←hx.2.2];exact Kp.refl base _
theorem I7 {cf:Nat→Nat→List V→Hp→Option (V×Hp)} (fj:∀base,KpF base (cf base)) {base:Nat} {F:Fn} {args:List V} {h h':Hp} {v:V} (hr:ke cf base F args h=some (v,h')):Kp base h h':=by
 unfold ke at hr
 split at hr
 ·split at hr
  ·cases hr
  ·rename_i hx
   split at hr
   ·split at hr
    ·cases hr
     intro b lU xz hl
     obtain ⟨h1,h2⟩:=wx (fj h.length) F.body hx b xz xz hl
     refine ⟨fun id hid k hk=> ?_,by rw[List.length_take];omega⟩
     rw[List.getElem?_take_of_lt (by omega)] at hk
     exact h1 id hid k hk
    ·cases hr
   ·cases hr
  ·cases hr
 ·split at hr
  ·cases hr
  ·rename_i hx
   split at hr
   ·cases hr
    exact wx (fj base) F.body hx
   ·cases hr
  ·cases hr
def KpP (pr:Nat→List V→Hp→Option (V×Hp)):Prop:=∀f vs h v h',pr f vs h=some (v,h')→∀base,Kp base h h'
theorem I8 {fns:Nat→Option Fn} {pr:Nat→List V→Hp→Option (V×Hp)} (hp:KpP pr):∀(d base:Nat),KpF base (den fns pr d base)
 | 0,base,f,vs,h,v,h',hr=> by simp[den] at hr
 | d+1,base,f,vs,h,v,h',hr=> by
   simp only[den] at hr
   split at hr
   ·rename_i F hF
    exact I7 (fun base=> I8 hp d base) hr
   ·exact hp f vs h v h' hr base
end Go.Vm
namespace Go.Vm
variable {P : Program} {obj : Nat → Bool} {L : cq}
theorem wy {c:Ctx}:∀v:V,(∀us,RC L c v us→v.low c.n=true):=by
 intro v
 induction v using V.rec (motive_2:=fun vs=>(∀us,bV L c vs us→V.low.all c.n vs=true)∧(∀us,RW L c vs us→V.low.all c.n vs=true)∧(∀v∈vs,∀us,RC L c v us→v.low c.n=true)) with
 | s x=> intro us h;rfl
 | ptr id path aw=> intro us h;simp only[RC] at h;obtain ⟨a,_,hid,_⟩:=h;simp[V.low,hid]
 | ref id path g off len aw=> intro us h;simp only[RC] at h;obtain ⟨a,k,_,hid,_⟩:=h;simp[V.low,hid]
 | al full g es ih=>
   intro us h;simp only[RC] at h
   obtain ⟨a,k,h,h1,h2,h3,h4⟩:=h
   rcases h4 with rfl | ⟨b,off,cs,ty,fz,ha,hz,hr⟩
   ·rfl
   ·exact ih.1 _ hr
 | dQ v ih=> intro us h;simp only[RC] at h;obtain ⟨b,off,cs,ty,fz,h,hz,hr⟩:=h;exact ih _ hr
 | st t fs ih=> intro us h;simp only[RC] at h;exact ih.1 _ h.1
 | arr t es ih=> intro us h;simp only[RC] at h;exact ih.1 _ h.1
 | bI vs ih=> intro us h;simp only[RC] at h;obtain ⟨ws,h1,h2⟩:=h;exact ih.2.1 _ h2
 | iface t v ih=> intro us h;simp only[RC] at h;obtain ⟨u,us',h1,h2,h3⟩:=h;exact ih _ h2
 | fn f cap ih=> intro us h;simp only[RC] at h;obtain ⟨ws,h1,h2⟩:=h;exact ih.2.1 _ h2
 | mp id=> intro us h;simp only[RC] at h;obtain ⟨a,_,hid,_⟩:=h;simp[V.low,hid]
 | top=> intro us h;rfl
 | nil=> exact ⟨fun _ _=> rfl,fun _ _=> rfl,fun v hv=> by cases hv⟩
 | cons v vs h1 h2=>
   refine ⟨fun us h=> ?_,fun us h=> ?_,fun x hx us h=> ?_⟩
   ·simp only[bV] at h
    obtain ⟨u1,u2,rfl,k1,k2⟩:=h
    simp only[V.low.all,Bool.and_eq_true]
    exact ⟨h1 _ k1,h2.1 _ k2⟩
   ·simp only[RW] at h
    obtain ⟨u,us',rfl,⟨u1,k1,k2⟩,k3⟩:=h
    simp only[V.low.all,Bool.and_eq_true]
    exact ⟨h1 _ k1,h2.2.1 _ k3⟩
   ·rcases List.mem_cons.1 hx with rfl | hx
    ·exact h1 us h
    ·exact h2.2.2 x hx us h
theorem wz {c:Ctx}:∀ {vs:List V} {us:List Value},bV L c vs us→V.low.all c.n vs=true
 | [],_,_=> rfl
 | v::vs,us,h=> by
   simp only[bV] at h
   obtain ⟨u1,u2,rfl,k1,k2⟩:=h
   simp only[V.low.all,Bool.and_eq_true]
   exact ⟨wy v _ k1,wz k2⟩
theorem Cy {c:Ctx}:∀ {es:List (V×V×Nat)} {ms:List MapEntry},kW L c es ms→∀e∈es,e.1.low c.n=true∧e.2.1.low c.n=true
 | [],[],_=> by simp
 | e::es,m::ms,h=> by
   obtain ⟨⟨⟨u1,a1,a2⟩,⟨u2,a3,a4⟩,a5⟩,a6⟩:=h
   intro x hx
   rcases List.mem_cons.1 hx with rfl | hx
   ·exact ⟨wy _ _ a1,wy _ _ a3⟩
   ·exact Cy a6 x hx
 | [],_::_,h=> h.elim
 | _::_,[],h=> h.elim
theorem bc.low {c:Ctx} {h:Hp} {w:World} (hs:bc L c h w):Cu h.length h:=fun id hid k hk=> by
 rcases hs.live id k hk with ⟨l,hl⟩ | rfl
 ·obtain ⟨k',h1,h2,h3⟩:=hs.loc id l hl
  rw[hk] at h1;cases h1
  cases k with
  | cells g es=>
    obtain ⟨_,_,_,_,us,ty,fz,_,_,_,hr⟩:=h3
    have:=wz hr
    rw[hs.n] at this
    exact this
  | lit g es=>
    obtain ⟨_,_,_,_,us,ty,fz,_,_,_,hr⟩:=h3
    have:=wz hr
    rw[hs.n] at this
    exact this
  | map es cl=>
    obtain ⟨_,_,ms,_,hr⟩:=h3
    have:=Cy hr
    rw[hs.n] at this
    exact rI.2 this
  | fN s pos=> rfl
  | dead=> rfl
 ·rfl
open Classical in
noncomputable def Ctx.cut (c:Ctx) (n:Nat) (w:World):Ctx where
 z b:=match c.z b with
   | some o=> some o
   | none=> if ∃id l,n≤id∧c.loc id=some l∧l.bq=b then w.heap[b]? else none
 loc id:=if id < n then c.loc id else none
 n:=n
theorem Ctx.yy {c:Ctx} {n:Nat} {w:World} {b:Nat} {o:Obj} (h:c.z b=some o):(c.cut n w).z b=some o:=by simp[Ctx.cut,h]
theorem Ctx.LB {c:Ctx} {n:Nat} {w:World} {id:Nat} {l:Loc} (hid:n≤id) (hl:c.loc id=some l) (hz:c.z l.bq=none):(c.cut n w).z l.bq=w.heap[l.bq]? :=by
 simp only[Ctx.cut,hz]
 rw[if_pos ⟨id,l,hid,hl,rfl⟩]
theorem Ctx.jy {c:Ctx} {n:Nat} {w:World} {id:Nat} (hid:id < n):(c.cut n w).loc id=c.loc id:=by simp[Ctx.cut,hid]
theorem Ctx.QX {c c':Ctx} {w:World} (hle:c.le c'):c.le (c'.cut c.n w) where
 z b o hb:=Ctx.yy (hle.z b o hb)
 n:=Nat.le_refl _
 loc id l' hid hl:=hle.loc id l' hid (by rw[Ctx.jy hid] at hl;exact hl)
theorem pC {c:Ctx} {n:Nat} {w:World} (hn:n≤c.n):∀v:V,v.low n=true→(∀us,RC L c v us→RC L (c.cut n w) v us):=by
 intro v
 induction v using V.rec (motive_2:=fun vs=> V.low.all n vs=true→(∀us,bV L c vs us→bV L (c.cut n w) vs us)∧(∀us,RW L c vs us→RW L (c.cut n w) vs us)) with
 | s x=> intro _ us h;simpa only[RC] using h
 | ptr id path aw=>
   intro hl us h;simp only[RC] at h ⊢
   simp only[V.low,decide_eq_true_eq] at hl
   obtain ⟨a,h,hid,hh⟩:=h
   exact ⟨a,h,hl,fun l n9=> hh l (by rw[Ctx.jy hl] at n9;exact n9)⟩
 | ref id path g off len aw=>
   intro hl us h;simp only[RC] at h ⊢
   simp only[V.low,decide_eq_true_eq] at hl
   obtain ⟨a,k,h,hid,lR,hh⟩:=h
   exact ⟨a,k,h,hl,lR,fun l n9=> hh l (by rw[Ctx.jy hl] at n9;exact n9)⟩
 | al full g es ih=>
   intro hl us h;simp only[RC] at h ⊢
   obtain ⟨a,k,h,h1,h2,h3,h4⟩:=h
   refine ⟨a,k,h,h1,h2,h3,?_⟩
   rcases h4 with h4 | ⟨b,off,cs,ty,fz,ha,hz,hr⟩
   ·exact .inl h4
   ·exact .inr ⟨b,off,cs,ty,fz,ha,Ctx.yy hz,(ih hl).1 _ hr⟩
 | dQ v ih=>
   intro hl us h;simp only[RC] at h ⊢
   obtain ⟨b,off,cs,ty,fz,h,hz,hr⟩:=h
   exact ⟨b,off,cs,ty,fz,h,Ctx.yy hz,ih hl _ hr⟩
 | st t fs ih=> intro hl us h;simp only[RC] at h ⊢;exact ⟨(ih hl).1 _ h.1,h.2⟩
 | arr t es ih=> intro hl us h;simp only[RC] at h ⊢;exact ⟨(ih hl).1 _ h.1,h.2⟩
 | bI vs ih=> intro hl us h;simp only[RC] at h ⊢;obtain ⟨ws,h1,h2⟩:=h;exact ⟨ws,h1,(ih hl).2 _ h2⟩
 | iface t v ih=> intro hl us h;simp only[RC] at h ⊢;obtain ⟨u,us',h1,h2,h3⟩:=h;exact ⟨u,us',h1,ih hl _ h2,h3⟩
 | fn f cap ih=> intro hl us h;simp only[RC] at h ⊢;obtain ⟨ws,h1,h2⟩:=h;exact ⟨ws,h1,(ih hl).2 _ h2⟩
 | mp id=>
   intro hl us h;simp only[RC] at h ⊢
   simp only[V.low,decide_eq_true_eq] at hl
   obtain ⟨b,h,hid,hh⟩:=h
   exact ⟨b,h,hl,fun l n9=> hh l (by rw[Ctx.jy hl] at n9;exact n9)⟩
 | top=> intro _ us h;simpa only[RC] using h
 | nil=> rename_i hl;exact ⟨fun us h=> by simpa only[bV] using h,fun us h=> by simpa only[RW] using h⟩
 | cons v vs h1 h2=>
   rename_i hl
   simp only[V.low.all,Bool.and_eq_true] at hl
   refine ⟨fun us h=> ?_,fun us h=> ?_⟩
   ·simp only[bV] at h ⊢
    obtain ⟨u1,u2,rfl,k1,k2⟩:=h
    exact ⟨u1,u2,rfl,h1 hl.1 _ k1,(h2 hl.2).1 _ k2⟩
   ·simp only[RW] at h ⊢
    obtain ⟨u,us',rfl,⟨u1,k1,k2⟩,k3⟩:=h
    exact ⟨u,us',rfl,⟨u1,h1 hl.1 _ k1,k2⟩,(h2 hl.2).2 _ k3⟩
theorem rJ {c:Ctx} {n:Nat} {w:World} (hn:n≤c.n):∀ {vs:List V} {us:List Value},V.low.all n vs=true→bV L c vs us→bV L (c.cut n w) vs us
 | [],us,_,h=> by simpa only[bV] using h
 | v::vs,us,hl,h=> by
   simp only[V.low.all,Bool.and_eq_true] at hl
   simp only[bV] at h ⊢
   obtain ⟨u1,u2,rfl,k1,k2⟩:=h
   exact ⟨u1,u2,rfl,pC hn v hl.1 _ k1,rJ hn hl.2 k2⟩
theorem Cz {c:Ctx} {n:Nat} {w:World} (hn:n≤c.n):∀ {es:List (V×V×Nat)} {ms:List MapEntry},(∀e∈es,e.1.low n=true∧e.2.1.low n=true)→kW L c es ms→kW L (c.cut n w) es ms
 | [],[],_,_=> trivial
 | e::es,m::ms,hl,h=> by
   obtain ⟨⟨⟨u1,a1,a2⟩,⟨u2,a3,a4⟩,a5⟩,a6⟩:=h
   obtain ⟨l1,l2⟩:=hl e (by simp)
   exact ⟨⟨⟨u1,pC hn _ l1 _ a1,a2⟩,⟨u2,pC hn _ l2 _ a3,a4⟩,a5⟩,Cz hn (fun x hx=> hl x (by simp[hx])) a6⟩
 | [],_::_,_,h=> h.elim
 | _::_,[],_,h=> h.elim
theorem bc.cut {c:Ctx} {n:Nat} {h:Hp} {w:World} (hs:bc L c h w) (hn:n≤c.n) (hl:Cu n h):bc L (c.cut n w) (h.take n) w where
 z b o hb:=by
   cases hz:c.z b with
   | some o'=> rw[Ctx.yy hz] at hb;cases hb;exact hs.z b o hz
   | none=>
     simp only[Ctx.cut,hz] at hb
     split at hb
     ·rename_i hx
      obtain ⟨id,l,_,dv,rfl⟩:=hx
      obtain ⟨k,_,_,h3⟩:=hs.loc id l dv
      rw[hb,h3.real hb]
     ·cases hb
 n:=by rw[List.length_take,←hs.n];exact (Nat.min_eq_left hn).symm
 loc id l n9:=by
   by_cases hid:id < n
   ·rw[Ctx.jy hid] at n9
    obtain ⟨k,h1,h2,h3⟩:=hs.loc id l n9
    refine ⟨k,by rw[List.getElem?_take_of_lt hid];exact h1,?_,?_⟩
    ·simp only[Ctx.cut,h2]
     rw[if_neg]
     rintro ⟨i,li,hi,hli,he⟩
     have:=hs.inj i id li l hli n9 he
     omega
    ·cases k with
     | cells g es=>
       obtain ⟨a1,a2,a3,a4,us,ty,fz,a5,a6,a7,a8⟩:=h3
       exact ⟨a1,a2,a3,a4,us,ty,fz,a5,a6,a7,rJ hn (hl id hid _ h1) a8⟩
     | lit g es=>
       obtain ⟨a1,a2,a3,a4,us,ty,fz,a5,a6,a7,a8⟩:=h3
       exact ⟨a1,a2,a3,a4,us,ty,fz,a5,a6,a7,rJ hn (hl id hid _ h1) a8⟩
     | map es cl=>
       obtain ⟨a1,a2,ms,a3,a4⟩:=h3
       exact ⟨a1,a2,ms,a3,Cz hn (rI.1 (hl id hid _ h1)) a4⟩
     | fN s pos=> exact h3
     | dead=> exact h3
   ·simp[Ctx.cut,hid] at n9
 live id k hk:=by
   have hid:id < n:=by
     have:=(List.getElem?_eq_some_iff.1 hk).1
     rw[List.length_take] at this;omega
   rw[List.getElem?_take_of_lt hid] at hk
   rw[Ctx.jy hid]
   exact hs.live id k hk
 inj i j li lj hi hj he:=by
   by_cases h1:i < n
   ·by_cases h2:j < n
    ·rw[Ctx.jy h1] at hi
     rw[Ctx.jy h2] at hj
     exact hs.inj i j li lj hi hj he
    ·simp[Ctx.cut,h2] at hj
   ·simp[Ctx.cut,h1] at hi
def Nx (L:cq) (c:Ctx) (n:Nat) (w:World) (v v':V):Prop:=
 v'.ty=v.ty∧v'.ax=v.ax∧(∀us u,wr v us u→wr v' us u)∧∀us,RC L c v us→RC L (c.cut n w) v' us
theorem kD {c:Ctx} {n:Nat} {w:World} (hn:n≤c.n) {v v':V} (h:(if v.low n then some v else none)=some v'):Nx L c n w v v':=by
 split at h
 ·rename_i hl
  cases h
  exact ⟨rfl,rfl,fun _ _ h=> h,fun us h=> pC hn v hl us h⟩
 ·cases h
theorem QY (hL:L.OK) {c:Ctx} {n:Nat} {h:Hp} {w:World} (hs:bc L c h w) (hn:n≤c.n):∀v v':V,bA n h v=some v'→Nx L c n w v v':=by
 intro v
 induction v using V.rec (motive_2:=fun vs=>∀vs',bA.all n h vs=some vs'→vs'.length=vs.length∧vs'.map V.ty=vs.map V.ty∧(∀x'∈vs',∃x∈vs,x'.ty=x.ty∧x'.ax=x.ax)∧(∀us,bV L c vs us→bV L (c.cut n w) vs' us)∧(∀us,RW L c vs us→RW L (c.cut n w) vs' us)) with
 | s x=> intro v' hf;exact kD hn hf
 | ptr id path aw=> intro v' hf;exact kD hn hf
 | ref id path g off len aw=>
   intro v' hf
   simp only[bA] at hf
   split at hf
   ·rename_i hid
    cases hf
    exact ⟨rfl,rfl,fun _ _ h=> h,fun us h=> pC hn _ (by simp[V.low,hid]) us h⟩
   ·rename_i hid
    split at hf
    case h_2=> cases hf
    split at hf
    case h_2=> cases hf
    rename_i g' es ck
    split at hf
    case isFalse=> cases hf
    rename_i aT
    obtain ⟨rfl,hlen,QZ⟩:=aT
    cases hf
    refine ⟨rfl,rfl,fun us u h=> h,fun us hr=> ?_⟩
    simp only[RC] at hr ⊢
    obtain ⟨a,k,rfl,Zj,lR,hh⟩:=hr
    obtain ⟨l,hl,cC,bZ,hz,_,_,fM,cM,cs,ty,fz,hg,cI,df,fp⟩:=hs.row ck
    obtain ⟨tF,hh2⟩:=hh l hl
    obtain ⟨o,m,oj,ha,hm⟩:=hh2 cC
    simp only[cq.row,Option.some.injEq,Prod.mk.injEq] at oj
    obtain ⟨rfl,je,rfl⟩:=oj
    obtain ⟨_,nD⟩:=q16z ck
    have AG:((es.drop off).take len).length=len:=by simp;omega
    refine ⟨some a,k,by rw[AG],by rw[AG];exact lR,(fun hf=> by cases hf),fun e he=> cM e (List.mem_of_mem_drop (List.mem_of_mem_take he)),?_⟩
    right
    refine ⟨l.bq,0+off * L.az g',cs,ty,fz,by rw[ha],?_,?_⟩
    ·rw[Ctx.LB (by omega) hl hz];exact hg
    ·refine rJ hn QZ ?_
     have:=vS hL fp (fun e he=>(cM e he).1) off len (by omega)
     rw[AG]
     simp only[nb,Nat.zero_add]
     have hb:(off+len)* L.az g'≤es.length * L.az g':=Nat.mul_le_mul_right _ (by omega)
     rw[Nat.add_mul] at hb
     rw[List.drop_take,List.take_take,Nat.min_eq_left (by omega)] at this
     exact this
 | al full g es ih=>
   intro v' hf
   simp only[bA] at hf
   obtain ⟨es',he,rfl⟩:=Option.map_eq_some_iff.1 hf
   obtain ⟨h1,h2,h3,h4,h5⟩:=ih es' he
   refine ⟨rfl,rfl,fun us u h=> h,fun us hr=> ?_⟩
   simp only[RC] at hr ⊢
   obtain ⟨a,k,rfl,k1,k2,k3,k4⟩:=hr
   refine ⟨a,k,by rw[h1],by rw[h1];exact k1,(fun hf=> by cases hf),fun e he=> ?_,?_⟩
   ·obtain ⟨x,hx,xa,hx2⟩:=h3 e he
    rw[xa,hx2];exact k3 x hx
   ·rcases k4 with rfl | ⟨b,off,cs,ty,fz,ha,hz,hr⟩
    ·left;exact List.length_eq_zero_iff.1 (by simpa using h1)
    ·right;exact ⟨b,off,cs,ty,fz,ha,Ctx.yy hz,by rw[h1];exact h4 _ hr⟩
 | dQ v ih=> intro v' hf;exact kD hn hf
 | mp id=> intro v' hf;exact kD hn hf
 | st t fs ih=>
   intro v' hf
   simp only[bA] at hf
   obtain ⟨es',he,rfl⟩:=Option.map_eq_some_iff.1 hf
   obtain ⟨h1,h2,h3,h4,h5⟩:=ih es' he
   refine ⟨rfl,rfl,fun us u h=> h,fun us hr=> ?_⟩
   simp only[RC] at hr ⊢
   refine ⟨h4 _ hr.1,by rw[h2];exact hr.2.1,fun f hf=> ?_⟩
   obtain ⟨x,hx,_,hx2⟩:=h3 f hf
   rw[hx2];exact hr.2.2 x hx
 | arr t es ih=>
   intro v' hf
   simp only[bA] at hf
   obtain ⟨es',he,rfl⟩:=Option.map_eq_some_iff.1 hf
   obtain ⟨h1,h2,h3,h4,h5⟩:=ih es' he
   refine ⟨rfl,rfl,fun us u h=> h,fun us hr=> ?_⟩
   simp only[RC] at hr ⊢
   obtain ⟨k1,e,k2,k3⟩:=hr
   refine ⟨h4 _ k1,e,by rw[h1];exact k2,fun f hf=> ?_⟩
   obtain ⟨x,hx,xa,hx2⟩:=h3 f hf
   rw[xa,hx2];exact k3 x hx
 | bI vs ih=>
   intro v' hf
   simp only[bA] at hf
   obtain ⟨es',he,rfl⟩:=Option.map_eq_some_iff.1 hf
   obtain ⟨h1,h2,h3,h4,h5⟩:=ih es' he
   refine ⟨rfl,rfl,fun us u h=> h,fun us hr=> ?_⟩
   simp only[RC] at hr ⊢
   obtain ⟨ws,k1,k2⟩:=hr
   exact ⟨ws,k1,h5 _ k2⟩
 | iface t v ih=>
   intro v' hf
   simp only[bA] at hf
   obtain ⟨x,he,rfl⟩:=Option.map_eq_some_iff.1 hf
   obtain ⟨h1,h2,h3,h4⟩:=ih x he
   refine ⟨rfl,rfl,fun us u h=> h,fun us hr=> ?_⟩
   simp only[RC] at hr ⊢
   obtain ⟨u,us',k1,k2,k3⟩:=hr
   exact ⟨u,us',k1,h4 _ k2,h3 _ _ k3⟩
 | fn f cap ih=> intro v' hf;exact kD hn hf
 | top=> intro v' hf;exact kD hn hf
 | nil=>
   rename_i vs' hf
   simp only[bA.all,Option.some.injEq] at hf
   subst hf
   exact ⟨rfl,rfl,fun x hx=>(by cases hx),fun us h=> by simpa only[bV] using h,fun us h=> by simpa only[RW] using h⟩
 | cons v vs h1 h2=>
   rename_i vs' hf
   simp only[bA.all] at hf
   split at hf
   case h_2=> cases hf
   rename_i x xs hx nw
   cases hf
   obtain ⟨a1,a2,a3,a4⟩:=h1 x hx
   obtain ⟨b1,b2,b3,b4,b5⟩:=h2 xs nw
   refine ⟨by simp[b1],by simp[a1,b2],fun y hy=> ?_,fun us h=> ?_,fun us h=> ?_⟩
   ·rcases List.mem_cons.1 hy with rfl | hy
    ·exact ⟨v,List.mem_cons_self,a1,a2⟩
    ·obtain ⟨z,hz,Ch⟩:=b3 y hy
     exact ⟨z,List.mem_cons_of_mem _ hz,Ch⟩
   ·simp only[bV] at h ⊢
    obtain ⟨u1,u2,rfl,k1,k2⟩:=h
    exact ⟨u1,u2,rfl,a4 _ k1,b4 _ k2⟩
   ·simp only[RW] at h ⊢
    obtain ⟨u,us',rfl,⟨u1,k1,k2⟩,k3⟩:=h
    exact ⟨u,us',rfl,⟨u1,a4 _ k1,a3 _ _ k2⟩,b5 _ k3⟩
end Go.Vm
