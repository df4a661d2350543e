/- An abstract machine for loaded programs, part 1: what it computes is what Go computes. Conditions: none. -/
import Derived.ProofKit
import Derived.WalkKit
import Derived.Laws.Cover4
set_option linter.defProp false
def ach:=@Option.map_eq_some_iff
def aci:=@List.getElem?_eq_getElem
def acj:=@List.getElem?_eq_some_iff
def ack:=@List.take_of_length_le
def acm:=@Nat.le_refl
def acn:=@Bool.and_eq_true
def aco:=@List.length_append
def acp:=@List.getElem?_set_ne
def acq:=@List.take_left
def acr:=@Option.bind_eq_some_iff
def acs:=@List.append_assoc
def acu:=@Array.getD_eq_getD_getElem?
def acv:=@List.getElem?_map
def acw:=@List.mem_of_getElem?
def acx:=@List.map_cons
def acy:=@List.length_map
def acz:=@Bool.false_eq_true
def acA:=@List.mem_of_mem_take
def acB:=@List.getElem?_append_right
def acC:=@Int.toNat_natCast
def acD:=@Bool.beq_eq_decide_eq
def acE:=@Nat.mul_le_mul_right
def acF:=@List.map_nil
def acG:=@List.mem_append
def acH:=@Bool.not_false
def acI:=@List.length_take
def acJ:=@List.all_eq_true
def acK:=@Bool.not_true
def acL:=@List.append_nil
def acM:=@List.getElem?_cons_zero
def acN:=@Nat.le_trans
def acO:=@Option.map_some
def acP:=@Array.getElem?_eq_getElem
def acQ:=@List.mem_cons
def acR:=@List.length_cons
def acS:=@Nat.le_add_right
def acT:=@List.take_succ_eq_append_getElem
def acU:=@Nat.zero_add
def acV:=@List.take_append_of_le_length
def acW:=@List.getElem?_eq_none
def acX:=@Option.getD_some
def acY:=@List.mem_of_mem_drop
def acZ:=@Nat.min_eq_left
def ac0:=@List.getElem?_append_left
def ac1:=@List.nil_append
def ac2:=@List.drop_zero
def ac3:=@List.getElem_mem
def ac4:=@List.eq_of_mem_replicate
def ac5:=@Array.getElem?_replicate
def ac6:=@List.mem_map
def ac7:=@List.getElem?_set
def ac8:=@List.length_replicate
def ac9:=@List.set_append_right
def ada:=@List.length_nil
def adb:=@List.length_drop
def ade:=@List.cons_append
def adf:=@List.set_set
def adg:=@Bool.or_eq_true
def adh:=@List.drop_eq_getElem_cons
def adi:=@Bool.true_or
def adj:=@List.mem_or_eq_of_mem_set
def adk:=@List.getD_eq_getElem?_getD
def adl:=@List.ext_getElem?
def adm:=@List.map_append
def adn:=@List.drop_drop
def ado:=@List.mem_range
def adp:=@List.drop_of_length_le
def adq:=@Bool.true_and
def adr:=@Option.isSome_some
def ads:=@List.take_take
def adt:=@List.mem_cons_self
def adu:=@Bool.or_true
def adv:=@List.getElem?_toArray
def adw:=@Int.tmod_eq_emod_of_nonneg
def adx:=@Int.tdiv_eq_ediv_of_nonneg
def ady:=@Array.getElem?_eq_some_iff
def adz:=@List.length_set
def adA:=@List.map_map
def adB:=@List.mem_cons_of_mem
def adC:=@Bool.and_true
def adD:=@Bool.false_or
def adE:=@List.mem_singleton
def adF:=@Option.isSome_none
def adG:=@Nat.add_mul
def adH:=@Bool.false_and
def adI:=@Bool.and_false
def adJ:=@Nat.le_mul_of_pos_right
def adK:=@List.range_eq_range'
def adL:=@List.getElem?_take
def adM:=@List.drop_take
def adN:=@List.take_length
def adO:=@List.toList_toArray
def adP:=@Array.length_toList
def adQ:=@List.getElem?_take_of_lt
def adR:=@Bool.true_eq_false
def adS:=@Nat.zero_mul
def adT:=@Array.toList_setIfInBounds
def adU:=@List.getElem?_set_self
def adV:=@List.take_succ_cons
def adW:=@List.mapM_cons
def adX:=@List.range_succ
def adY:=@Ne.symm
def adZ:=@Nat.lt_or_ge
def ad0:=@Array.getElem?_modify
def ad1:=@Array.eq_empty_of_size_eq_zero
def ad2:=@Array.getElem?_toList
def ad3:=@BitVec.toNat_ofNat
def ad4:=@List.set_cons_zero
def ad5:=@List.getElem?_drop
def ad6:=@Option.bind_some
def ad7:=@List.eq_nil_of_length_eq_zero
def ad8:=@List.filter_cons_of_pos
def ad9:=@List.filter_cons_of_neg
def aea:=@Array.getElem?_setIfInBounds
def aeb:=@Nat.mul_comm
def aec:=@Nat.le_of_eq
def aed:=@List.flatten_cons
def aee:=@List.take_add_one
def aef:=@Array.ext'
def aeg:=@Int.tmod_nonneg
def aeh:=@List.replicate_succ
def aei:=@List.flatMap_append
def aej:=@Option.map_none
def aek:=@Nat.add_assoc
def ael:=@Nat.lt_of_lt_of_le
def aem:=@Int.tmod_lt_of_pos
def aen:=@Nat.add_comm
def aeo:=@List.mem_append_left
def aep:=@Nat.div_le_self
def aeq:=@Bool.not_eq_true'
def aer:=@Option.isSome_iff_exists
def aes:=@List.map_congr_left
def aet:=@List.getElem?_replicate
def aeu:=@Nat.mod_eq_of_lt
def aev:=@Bool.not_eq_true
def aew:=@List.range'_succ
def aex:=@List.take_zero
def aey:=@Nat.div_div_eq_div_mul
def aez:=@Nat.lt_of_le_of_lt
def aeA:=@Option.toList_none
def aeB:=@Option.toList_some
def aeC:=@Nat.add_zero
def aeD:=@Bool.and_eq_false_iff
def aeE:=@UInt8.lt_iff_toNat_lt
def aeF:=@List.foldl_cons
def aeG:=@Option.pure_def
def aeH:=@List.mem_append_right
def aeI:=@Nat.mod_lt
def aeJ:=@List.flatMap_cons
def aeK:=@List.size_toArray
def aeL:=@Int.fdiv_eq_ediv_of_nonneg
def aeM:=@List.set_append_left
def aeN:=@List.pairwise_append
def aeO:=@List.pairwise_iff_getElem
def aeP:=@List.drop_left
def aeQ:=@List.any_eq_true
def aeR:=@List.drop_length
def aeS:=@Nat.le_of_not_lt
def aeT:=@List.getElem_of_mem
def aeU:=@Nat.sub_self
def aeV:=@UInt8.toNat_ofNat'
def aeW:=@List.length_eq_zero_iff
def aeX:=@List.map_take
def aeY:=@List.pairwise_cons
def aeZ:=@List.findIdx?_eq_some_iff_getElem
def ae0:=@Nat.min_le_left
def ae1:=@Nat.zero_le
def ae2:=@Decidable.not_not
def ae3:=@Nat.one_mul
def ae4:=@Array.getElem?_setIfInBounds_ne
def ae5:=@Nat.pow_succ
def ae6:=@List.eq_nil_iff_forall_not_mem
def ae7:=@Nat.div_eq_of_lt
def ae8:=@List.not_mem_nil
def ae9:=@List.count_replicate
def afa:=@Nat.two_pow_pos
def afb:=@List.replicate_zero
def afc:=@List.take_set_of_le
def afd:=@List.length_pos_iff
def afe:=@UInt8.toNat_inj
def aff:=@List.countP_eq_zero
def afg:=@List.drop_succ_cons
def afh:=@List.filter_eq_self
def afi:=@Array.toList_append
def afj:=@List.take_left'
def afk:=@Int.emod_lt_of_pos
def afl:=@List.map_replicate
def afm:=@Nat.add_sub_cancel
def afn:=@Nat.sub_zero
def afo:=@List.findIdx?_eq_none_iff
def afp:=@Array.mapM_eq_mapM_toList
def afq:=@List.getElem?_eq_none_iff
def afr:=@List.any_eq_false
def afs:=@Array.size_append
def aft:=@Nat.mul_assoc
def afu:=@List.getElem?_cons_succ
def afv:=@List.sum_cons
def afw:=@Int.eq_ofNat_of_zero_le
def afx:=@Bool.and_self
def afy:=@List.drop_append
def afz:=@List.flatten_nil
def afA:=@List.flatMap_nil
def afB:=@List.countP_cons
def afC:=@Nat.min_le_right
def afD:=@Option.getD_none
def afE:=@Array.toList_map
def afF:=@List.filter_eq_nil_iff
def afG:=@List.length_eq_one_iff
def afH:=@Int.emod_nonneg
def afI:=@BitVec.eq_of_toNat_eq
def afJ:=@Nat.div_lt_iff_lt_mul
def afK:=@Bool.eq_iff_iff
def afL:=@List.mem_filter
def afM:=@List.length_singleton
def afN:=@List.take_append_drop
def afO:=@Nat.div_one
def afP:=@Nat.sub_mul
def afQ:=@Nat.min_def
def afR:=@List.take_set
def afS:=@List.all_cons
def afT:=@Nat.pow_zero
def afU:=@List.map_set
set_option linter.unusedSimpArgs false
set_option linter.unusedVariables false
set_option linter.unusedSectionVars false
namespace Go.Vm
inductive V where
 | s (x:Value)
 | ptr (id:Nat) (path:List Nat) (aB:Nat)
 | ref (id:Nat) (path:List Nat) (g:Option Nat) (off len aB:Nat)
 | al (full:Bool) (g:Option Nat) (es:List V)
 | eb (v:V)
 | st (t:Nat) (fs:List V)
 | arr (t:Nat) (es:List V)
 | bP (vs:List V)
 | iface (t:Nat) (v:V)
 | fn (f:Nat) (cap:List V)
 | mp (id:Nat)
 | top
 deriving Inhabited
def V.ty :V→Option Nat
 | .st t _=> some t
 | .arr t _=> some t
 | _=> none
def V.aA :V→Bool
 | .bP _=> false
 | .top=> false
 | _=> true
structure cG where
 size:Nat→Nat
 fields:Nat→Option (List (Option Nat))
 arr:Nat→Option (Nat×Option Nat)
def cG.aD (L:cG):Option Nat→Nat
 | some t=> L.size t
 | none=> 1
structure cG.OK (L:cG):Prop where
 st:∀t fs,L.fields t=some fs→L.size t=(fs.map L.aD).sum
 ar:∀t n e,L.arr t=some (n,e)→L.size t=n * L.aD e
 no:∀t r,L.arr t=some r→L.fields t=none
def cG.walk (L:cG):Option Nat→List Nat→Option (Nat×Option Nat)
 | g,[]=> some (0,g)
 | none,_::_=> none
 | some t,i::p=>
   match L.fields t with
   | some fs=> match fs[i]? with
     | some g=>(L.walk g p).map fun r=>(((fs.take i).map L.aD).sum+r.1,r.2)
     | none=> none
   | none=> match L.arr t with
     | some (n,e)=> if i < n then (L.walk e p).map fun r=>(i * L.aD e+r.1,r.2) else none
     | none=> none
def cG.row (L:cG) (g:Option Nat):List Nat→Option (Nat×Option Nat×Option Nat)
 | []=> some (0,g,none)
 | i::p=> match L.walk g p with
   | some (o,some t)=>(L.arr t).map fun r=>(i * L.aD g+o,r.2,some r.1)
   | _=> none
def cG.off (L:cG) (g:Option Nat):List Nat→Option Nat
 | []=> some 0
 | i::p=>(L.walk g p).map fun r=> i * L.aD g+r.1
structure Loc where
 bE:Nat
 cap:Nat
 tag:Option Nat
 aB:Nat
structure Ctx where
 z:Nat→Option Obj
 loc:Nat→Option Loc
 n:Nat
def og (cs:Array Value) (off n:Nat):List Value:=(cs.toList.drop off).take n
def wr :V→List Value→Value→Prop
 | .st _ _,us,u=> u= .agg us.toArray
 | .arr _ _,us,u=> u= .agg us.toArray
 | _,us,u=> us=[u]
def fp (m:Option Nat) (off len aB k cap:Nat):Prop:=
 match m with
 | none=> off+len≤aB∧aB≤off+k∧off+k≤cap
 | some n=> off+k=n
section
variable (L : cG) (c : Ctx)
mutual
def RC :V→List Value→Prop
 | .s x,us=> us=[x]∧x.oneCell'=true
 | .ptr id path aB,us=>∃a,us=[.pointer (some a)]∧id < c.n∧
     ∀l,c.loc id=some l→aB≤l.aB∧(l.aB=aB→∃o,L.off l.tag path=some o∧a=⟨l.bE,o,none⟩)
 | .ref id path g off len aB,us=>∃a k,us=[.slice (some a) len k]∧id < c.n∧len≤k∧
     ∀l,c.loc id=some l→aB≤l.aB∧(l.aB=aB→∃o m,L.row l.tag path=some (o,g,m)∧a=⟨l.bE,o+off * L.aD g,none⟩∧fp m off len aB k l.cap)
 | .al full g es,us=>∃a k,us=[.slice a es.length k]∧es.length≤k∧(full=true→k=es.length)∧(∀e∈es,e.ty=g∧e.aA=true)∧
     (es=[]∨∃b off cs ty fz,a=some ⟨b,off,none⟩∧c.z b=some (.cells cs ty fz)∧cB es (og cs off (es.length * L.aD g)))
 | .eb v,us=>∃b off cs ty fz,us=[.pointer (some ⟨b,off,none⟩)]∧c.z b=some (.cells cs ty fz)∧RC v (og cs off (L.aD v.ty))
 | .st t fs,us=> cB fs us∧L.fields t=some (fs.map V.ty)∧∀f∈fs,f.aA=true
 | .arr t es,us=> cB es us∧∃e,L.arr t=some (es.length,e)∧∀x∈es,x.ty=e∧x.aA=true
 | .bP vs,us=>∃ws:List Value,us=[.tuple ws.toArray]∧RW vs ws
 | .iface t v,us=>∃u us',us=[.iface t u]∧RC v us'∧wr v us' u
 | .fn f cap,us=>∃ws:List Value,us=[.func (.func f) #[] ws.toArray]∧RW cap ws
 | .mp id,us=>∃b,us=[.map (some b)]∧id < c.n∧∀l,c.loc id=some l→l.aB=0→b=l.bE
 | .top,us=>∃u,us=[u]
def cB :List V→List Value→Prop
 | [],us=> us=[]
 | v::vs,us=>∃u1 u2,us=u1++u2∧RC v u1∧cB vs u2
def RW :List V→List Value→Prop
 | [],us=> us=[]
 | v::vs,us=>∃u us',us=u::us'∧(∃u1,RC v u1∧wr v u1 u)∧RW vs us'
end
def RV (v:V) (u:Value):Prop:=∃us,RC L c v us∧wr v us u
end
end Go.Vm
namespace Go.Vm
variable {L : cG} {c c' : Ctx}
theorem kR (hL:L.OK) {vs:List V} (ih:∀v∈vs,∀us,RC L c v us→us.length=L.aD v.ty):∀us,cB L c vs us→us.length=(vs.map fun v=> L.aD v.ty).sum:=by
 induction vs with
 | nil=> intro us h;simp[cB] at h;simp[h]
 | cons v vs iv=>
   intro us h
   simp only[cB] at h
   obtain ⟨u1,u2,rfl,h1,h2⟩:=h
   have:=ih v (by simp) u1 h1
   have:=iv (fun x hx=> ih x (by simp[hx])) u2 h2
   simp;omega
theorem q9 {α:Type} (l:List α) (f:α→Nat) (k:Nat) (h:∀x∈l,f x=k):(l.map f).sum=l.length * k:=by
 induction l with
 | nil=> simp
 | cons a l ih=> simp[ih (fun x hx=> h x (by simp[hx])),h a (by simp),adG];omega
theorem q22z (hL:L.OK):∀(v:V) (us:List Value),RC L c v us→us.length=L.aD v.ty:=by
 intro v
 induction v using V.rec (motive_2:=fun vs=>∀v∈vs,∀us,RC L c v us→us.length=L.aD v.ty) with
 | s x=> intro us h;simp only[RC] at h;simp[h.1,V.ty,cG.aD]
 | ptr=> intro us h;simp only[RC] at h;obtain ⟨a,h,_⟩:=h;simp[h,V.ty,cG.aD]
 | ref=> intro us h;simp only[RC] at h;obtain ⟨a,k,h,_⟩:=h;simp[h,V.ty,cG.aD]
 | al=> intro us h;simp only[RC] at h;obtain ⟨a,k,h,_⟩:=h;simp[h,V.ty,cG.aD]
 | eb=> intro us h;simp only[RC] at h;obtain ⟨_,_,_,_,_,h,_⟩:=h;simp[h,V.ty,cG.aD]
 | st t fs ih=>
   intro us h
   simp only[RC] at h
   obtain ⟨h,hf,_⟩:=h
   rw[kR hL ih us h]
   simp[V.ty,cG.aD,hL.st _ _ hf,adA]
   rfl
 | arr t es ih=>
   intro us h
   simp only[RC] at h
   obtain ⟨h,e,ha,he⟩:=h
   rw[kR hL ih us h,q9 es _ (L.aD e) (fun x hx=> by rw[(he x hx).1])]
   simp[V.ty,cG.aD,hL.ar _ _ _ ha]
 | bP=> intro us h;simp only[RC] at h;obtain ⟨ws,h,_⟩:=h;simp[h,V.ty,cG.aD]
 | iface=> intro us h;simp only[RC] at h;obtain ⟨u,us',h,_⟩:=h;simp[h,V.ty,cG.aD]
 | fn=> intro us h;simp only[RC] at h;obtain ⟨ws,h,_⟩:=h;simp[h,V.ty,cG.aD]
 | mp=> intro us h;simp only[RC] at h;obtain ⟨b,h,_⟩:=h;simp[h,V.ty,cG.aD]
 | top=> intro us h;simp only[RC] at h;obtain ⟨u,h⟩:=h;simp[h,V.ty,cG.aD]
 | nil=> rename_i hv _ _;exact absurd hv (by simp)
 | cons v vs h1 h2=>
   rename_i x hx us h
   rcases acQ.1 hx with rfl | hx
   ·exact h1 us h
   ·exact h2 x hx us h
theorem uf (hL:L.OK) {vs:List V} {us:List Value} (h:cB L c vs us):us.length=(vs.map fun v=> L.aD v.ty).sum:=
 kR hL (fun v _=> q22z hL v) us h
theorem q8z (hL:L.OK) {vs:List V} {us:List Value} {g:Option Nat} (h:cB L c vs us) (hg:∀e∈vs,e.ty=g):us.length=vs.length * L.aD g:=by
 rw[uf hL h]
 exact q9 _ _ _ (fun x hx=> by rw[hg x hx])
theorem ej {a b:List V} {us:List Value}:cB L c (a++b) us↔∃u1 u2,us=u1++u2∧cB L c a u1∧cB L c b u2:=by
 induction a generalizing us with
 | nil=> exact ⟨fun h=>⟨[],us,rfl,by simp[cB],h⟩,fun ⟨u1,u2,h1,h2,h3⟩=> by simp only[cB] at h2;subst h2;subst h1;exact h3⟩
 | cons v vs ih=>
   simp only[ade,cB]
   constructor
   ·rintro ⟨u1,u2,rfl,h1,h2⟩
    obtain ⟨x,y,rfl,h3,h4⟩:=ih.1 h2
    exact ⟨u1++x,y,by simp,⟨u1,x,rfl,h1,h3⟩,h4⟩
   ·rintro ⟨_,u2,rfl,⟨u1,x,rfl,h1,h3⟩,h4⟩
    exact ⟨u1,x++u2,by simp,h1,ih.2 ⟨x,u2,rfl,h3,h4⟩⟩
theorem oh (hL:L.OK) {vs:List V} {us:List Value} (h:cB L c vs us) {i:Nat} {v:V} (hi:vs[i]? =some v):
 RC L c v ((us.drop ((vs.take i).map fun v=> L.aD v.ty).sum).take (L.aD v.ty)):=by
 induction vs generalizing us i with
 | nil=> simp at hi
 | cons x xs ih=>
   simp only[cB] at h
   obtain ⟨u1,u2,rfl,h1,h2⟩:=h
   have hlen:=q22z hL x u1 h1
   cases i with
   | zero=>
     simp at hi;subst hi
     simpa[←hlen] using h1
   | succ i=>
     simp at hi
     have:=ih h2 hi
     simp only[adV,acx,afv,←hlen]
     rw[←List.drop_drop,aeP]
     exact this
theorem rK {α:Type} (f:α→Nat):∀(l:List α) (i:Nat) (v:α),l[i]? =some v→((l.take i).map f).sum+f v≤(l.map f).sum
 | [],i,v,h=> by simp at h
 | x::xs,0,v,h=> by simp at h;subst h;simp
 | x::xs,i+1,v,h=> by
   have:=rK f xs i v (by simpa using h)
   simp only[adV,acx,afv];omega
theorem jN (hL:L.OK) {vs:List V} {us:List Value} (h:cB L c vs us) {i:Nat} {v:V} (hi:vs[i]? =some v):
 ((vs.take i).map fun v=> L.aD v.ty).sum+L.aD v.ty≤us.length:=by
 rw[uf hL h]
 exact rK (fun v=> L.aD v.ty) vs i v hi
theorem dV {α:Type} (l:List α) (f:α→Nat) (k i:Nat) (h:∀x∈l,f x=k) (hi:i≤l.length):((l.take i).map f).sum=i * k:=by
 rw[q9 _ f k (fun x hx=> h x (acA hx))]
 simp[acZ hi]
theorem da (hL:L.OK) {vs:List V} {us:List Value} {g:Option Nat} (h:cB L c vs us) (hg:∀e∈vs,e.ty=g) {i:Nat} {v:V} (hi:vs[i]? =some v):
 RC L c v ((us.drop (i * L.aD g)).take (L.aD g)):=by
 have hv:v.ty=g:=hg v (acw hi)
 have bR:i < vs.length:=(acj.1 hi).1
 have:=oh hL h hi
 rw[dV vs _ (L.aD g) i (fun x hx=> by rw[hg x hx]) (by omega),hv] at this
 exact this
theorem dq (hL:L.OK) {vs:List V} {us:List Value} {g:Option Nat} (h:cB L c vs us) (hg:∀e∈vs,e.ty=g) {i:Nat} {v:V} (hi:vs[i]? =some v):
 i * L.aD g+L.aD g≤us.length:=by
 rw[q8z hL h hg]
 have bR:i < vs.length:=(acj.1 hi).1
 have:(i+1)* L.aD g≤vs.length * L.aD g:=acE _ (by omega)
 rw[adG] at this;omega
theorem fq (hL:L.OK) {vs:List V} {us:List Value} {g:Option Nat} (h:cB L c vs us) (hg:∀e∈vs,e.ty=g) (i:Nat) (hi:i≤vs.length):
 cB L c (vs.take i) (us.take (i * L.aD g))∧cB L c (vs.drop i) (us.drop (i * L.aD g)):=by
 have h':=h
 rw[←List.take_append_drop i vs] at h'
 obtain ⟨u1,u2,rfl,h1,h2⟩:=ej.1 h'
 have hl:=q8z hL h1 (fun e he=> hg e (acA he))
 rw[acI,acZ hi] at hl
 rw[←hl,acq,aeP]
 exact ⟨h1,h2⟩
theorem xO (hL:L.OK) {vs:List V} {us:List Value} {g:Option Nat} (h:cB L c vs us) (hg:∀e∈vs,e.ty=g) (i n:Nat) (hi:i+n≤vs.length):
 cB L c ((vs.drop i).take n) ((us.drop (i * L.aD g)).take (n * L.aD g)):=by
 have h1:=(fq hL h hg i (by omega)).2
 exact (fq hL h1 (fun e he=> hg e (acY he)) n (by simp;omega)).1
structure Ctx.le (c c':Ctx):Prop where
 z:∀b o,c.z b=some o→c'.z b=some o
 n:c.n≤c'.n
 loc:∀id l',id < c.n→c'.loc id=some l'→∃l,c.loc id=some l∧l.tag=l'.tag∧l.aB≤l'.aB∧(l.aB=l'.aB→l'.bE=l.bE∧l'.cap=l.cap)
structure Ctx.Fq (c c':Ctx):Prop where
 z:∀b cs ty fz,c.z b=some (.cells cs ty fz)→c'.z b=some (.cells cs ty fz)
 n:c.n≤c'.n
 loc:∀id l',id < c.n→c'.loc id=some l'→∃l,c.loc id=some l∧l.tag=l'.tag∧l.aB≤l'.aB∧(l.aB=l'.aB→l'.bE=l.bE∧l'.cap=l.cap)
theorem Ctx.le.Fq (h:c.le c'):c.Fq c':=⟨fun b cs ty fz hb=> h.z b _ hb,h.n,h.loc⟩
theorem Ctx.le_refl (c:Ctx):c.le c:=⟨fun _ _ h=> h,acm _,fun _ l _ h=>⟨l,h,rfl,acm _,fun _=>⟨rfl,rfl⟩⟩⟩
theorem Ctx.le.trans {a b d:Ctx} (h:a.le b) (h':b.le d):a.le d where
 z b o hb:=h'.z _ _ (h.z _ _ hb)
 n:=acN h.n h'.n
 loc id l'' hid hl:=by
   obtain ⟨l',h1,h2,h3,h4⟩:=h'.loc id l'' (ael hid h.n) hl
   obtain ⟨l,k1,k2,k3,k4⟩:=h.loc id l' hid h1
   refine ⟨l,k1,k2.trans h2,acN k3 h3,fun e=> ?_⟩
   obtain ⟨x,y⟩:=h4 (by omega)
   obtain ⟨x',y'⟩:=k4 (by omega)
   exact ⟨x.trans x',y.trans y'⟩
theorem J8 (hle:c.Fq c'):∀v:V,(∀us,RC L c v us→RC L c' v us):=by
 intro v
 induction v using V.rec (motive_2:=fun vs=>(∀us,cB L c vs us→cB L c' vs us)∧(∀us,RW L c vs us→RW L c' vs us)) with
 | s x=> intro us h;simpa only[RC] using h
 | ptr id path aB=>
   intro us h;simp only[RC] at h ⊢
   obtain ⟨a,h,hid,hl⟩:=h
   refine ⟨a,h,ael hid hle.n,fun l' dF=> ?_⟩
   obtain ⟨l,h1,h2,h3,h4⟩:=hle.loc id l' hid dF
   obtain ⟨k1,k2⟩:=hl l h1
   refine ⟨acN k1 h3,fun e=> ?_⟩
   have e1:l.aB=aB:=by omega
   obtain ⟨o,ho,ha⟩:=k2 e1
   obtain ⟨x,_⟩:=h4 (by omega)
   exact ⟨o,by rw[←h2];exact ho,by rw[x];exact ha⟩
 | ref id path g off len aB=>
   intro us h;simp only[RC] at h ⊢
   obtain ⟨a,k,h,hid,mR,hl⟩:=h
   refine ⟨a,k,h,ael hid hle.n,mR,fun l' dF=> ?_⟩
   obtain ⟨l,h1,h2,h3,h4⟩:=hle.loc id l' hid dF
   obtain ⟨k1,k2⟩:=hl l h1
   refine ⟨acN k1 h3,fun e=> ?_⟩
   have e1:l.aB=aB:=by omega
   obtain ⟨o,m,hr,ha,hm⟩:=k2 e1
   obtain ⟨x,y⟩:=h4 (by omega)
   refine ⟨o,m,by rw[←h2];exact hr,by rw[x];exact ha,?_⟩
   rw[y];exact hm
 | al full g es ih=>
   intro us h;simp only[RC] at h ⊢
   obtain ⟨a,k,h,h1,h2,h3,h4⟩:=h
   refine ⟨a,k,h,h1,h2,h3,?_⟩
   rcases h4 with h4 | ⟨b,off,cs,ty,fz,ha,hz,hr⟩
   ·exact .inl h4
   ·exact .inr ⟨b,off,cs,ty,fz,ha,hle.z _ _ _ _ hz,ih.1 _ hr⟩
 | eb v ih=>
   intro us h;simp only[RC] at h ⊢
   obtain ⟨b,off,cs,ty,fz,h,hz,hr⟩:=h
   exact ⟨b,off,cs,ty,fz,h,hle.z _ _ _ _ hz,ih _ hr⟩
 | st t fs ih=> intro us h;simp only[RC] at h ⊢;exact ⟨ih.1 _ h.1,h.2⟩
 | arr t es ih=> intro us h;simp only[RC] at h ⊢;exact ⟨ih.1 _ h.1,h.2⟩
 | bP vs ih=> intro us h;simp only[RC] at h ⊢;obtain ⟨ws,h1,h2⟩:=h;exact ⟨ws,h1,ih.2 _ h2⟩
 | iface t v ih=> intro us h;simp only[RC] at h ⊢;obtain ⟨u,us',h1,h2,h3⟩:=h;exact ⟨u,us',h1,ih _ h2,h3⟩
 | fn f cap ih=> intro us h;simp only[RC] at h ⊢;obtain ⟨ws,h1,h2⟩:=h;exact ⟨ws,h1,ih.2 _ h2⟩
 | mp id=>
   intro us h;simp only[RC] at h ⊢
   obtain ⟨b,h,hid,hl⟩:=h
   refine ⟨b,h,ael hid hle.n,fun l' dF h0=> ?_⟩
   obtain ⟨l,h1,h2,h3,h4⟩:=hle.loc id l' hid dF
   rw[hl l h1 (by omega),(h4 (by omega)).1]
 | top=> intro us h;simpa only[RC] using h
 | nil=> exact ⟨fun us h=> by simpa only[cB] using h,fun us h=> by simpa only[RW] using h⟩
 | cons v vs h1 h2=>
   refine ⟨fun us h=> ?_,fun us h=> ?_⟩
   ·simp only[cB] at h ⊢
    obtain ⟨u1,u2,rfl,k1,k2⟩:=h
    exact ⟨u1,u2,rfl,h1 _ k1,h2.1 _ k2⟩
   ·simp only[RW] at h ⊢
    obtain ⟨u,us',rfl,⟨u1,k1,k2⟩,k3⟩:=h
    exact ⟨u,us',rfl,⟨u1,h1 _ k1,k2⟩,h2.2 _ k3⟩
theorem RC.fu (hle:c.Fq c') {v:V} {us:List Value} (h:RC L c v us):RC L c' v us:=J8 hle v us h
theorem RC.mono (hle:c.le c') {v:V} {us:List Value} (h:RC L c v us):RC L c' v us:=h.fu hle.Fq
theorem RV.fu (hle:c.Fq c') {v:V} {u:Value} (h:RV L c v u):RV L c' v u:=let ⟨us,h1,h2⟩:=h;⟨us,h1.fu hle,h2⟩
theorem RV.mono (hle:c.le c') {v:V} {u:Value} (h:RV L c v u):RV L c' v u:=let ⟨us,h1,h2⟩:=h;⟨us,h1.mono hle,h2⟩
theorem cB.fu (hle:c.Fq c') {vs:List V}:∀ {us:List Value},cB L c vs us→cB L c' vs us:=by
 induction vs with
 | nil=> intro us h;simpa only[cB] using h
 | cons v vs ih=>
   intro us h;simp only[cB] at h ⊢
   obtain ⟨u1,u2,rfl,k1,k2⟩:=h
   exact ⟨u1,u2,rfl,k1.fu hle,ih k2⟩
theorem cB.mono (hle:c.le c') {vs:List V}:∀ {us:List Value},cB L c vs us→cB L c' vs us:=fun h=> cB.fu hle.Fq h
theorem eD {v:V} {u:Value} (hv:v.ty=none):RV L c v u↔RC L c v [u]:=by
 cases v <;> first
   | (simp[V.ty] at hv;done)
   | exact ⟨fun ⟨us,h1,h2⟩=> by simp only[wr] at h2;rw[←h2];exact h1,fun h=>⟨[u],h,rfl⟩⟩
theorem fN {v:V} {u:Value} {t:Nat} (hv:v.ty=some t):RV L c v u↔∃us,u= .agg us.toArray∧RC L c v us:=by
 cases v <;> first
   | (simp[V.ty] at hv;done)
   | exact ⟨fun ⟨us,h1,h2⟩=>⟨us,h2,h1⟩,fun ⟨us,h1,h2⟩=>⟨us,h2,h1⟩⟩
end Go.Vm
namespace Go.Vm
inductive bc where
 | cells (tag:Option Nat) (es:List V)
 | gI (s:ByteArray) (pos:Nat)
 | map (es:List (V×V×Nat)) (clock:Nat)
 | lit (tag:Option Nat) (es:List V)
 | dead
 deriving Inhabited
abbrev Hp :=List bc
abbrev Fr :=List V
def bc.tag :bc→Option Nat
 | .cells g _=> g
 | _=> none
def bc.aB :bc→Nat
 | .cells _ es=> es.length
 | _=> 0
inductive X where
 | t (n:Nat)
 | c (v:V)
 deriving Inhabited
def X.ev (fr:Fr):X→V
 | .t n=> fr.getD n (.bP [])
 | .c v=> v
def V.ground :V→Bool
 | .s _=> true
 | .ptr _ _ _=> false
 | .ref _ _ _ _ _ _=> false
 | .al _ _ es=> all es
 | .eb v=> v.ground
 | .st _ fs=> all fs
 | .arr _ es=> all es
 | .bP vs=> all vs
 | .iface _ v=> v.ground
 | .fn _ vs=> all vs
 | .mp _=> false
 | .top=> false
where all:List V→Bool
  | []=> true
  | v::vs=> v.ground && all vs
def nodeAt :List Nat→V→Option V
 | [],v=> some v
 | i::p,.st _ fs=> match fs[i]? with | some v=> nodeAt p v | none=> none
 | i::p,.arr _ es=> match es[i]? with | some v=> nodeAt p v | none=> none
 | _::_,_=> none
def putAt (y:V):List Nat→V→Option V
 | [],_=> some y
 | i::p,.st t fs=> match fs[i]? with | some v=>(putAt y p v).map fun v'=> .st t (fs.set i v') | none=> none
 | i::p,.arr t es=> match es[i]? with | some v=>(putAt y p v).map fun v'=> .arr t (es.set i v') | none=> none
 | _::_,_=> none
def rowOf (h:Hp) (id aB:Nat):Option (Option Nat×List V):=
 match h[id]? with
 | some (.cells g es)=> if es.length=aB then some (g,es) else none
 | _=> none
def node (h:Hp) (id:Nat) (path:List Nat) (aB:Nat):Option V:=
 match rowOf h id aB,path with
 | some (_,es),i::p=> match es[i]? with | some v=> nodeAt p v | none=> none
 | _,_=> none
def rowAt (h:Hp) (id:Nat) (path:List Nat) (aB:Nat):Option (List V):=
 match path with
 | []=>(rowOf h id aB).map (·.2)
 | _=> match node h id path aB with | some (.arr _ es)=> some es | _=> none
def store (h:Hp) (id:Nat) (path:List Nat) (aB:Nat) (y:V):Option Hp:=
 match rowOf h id aB,path with
 | some (g,es),i::p=> match es[i]? with
   | some v=>(putAt y p v).map fun v'=> h.set id (.cells g (es.set i v'))
   | none=> none
 | _,_=> none
def elems (h:Hp):V→Option (Option Nat×List V)
 | .al _ g es=> some (g,es)
 | .ref id path g off len aB=>(rowAt h id path aB).map fun es=>(g,(es.drop off).take len)
 | _=> none
def jK (op:BinOp) (k:IntKind) (a b:Int):Option Value:=
 match op with
 | .add=> some (.int k (k.wrap (a+b)))
 | .sub=> some (.int k (k.wrap (a - b)))
 | .mul=> some (.int k (k.wrap (a * b)))
 | .quo=> if b=0 then none else some (.int k (k.wrap (a.tdiv b)))
 | .rem=> if b=0 then none else some (.int k (a.tmod b))
 | .and=> some (.int k (k.wrap (BitVec.ofInt k.bits a &&& BitVec.ofInt k.bits b).toNat))
 | .or=> some (.int k (k.wrap (BitVec.ofInt k.bits a ||| BitVec.ofInt k.bits b).toNat))
 | .xor=> some (.int k (k.wrap (BitVec.ofInt k.bits a ^^^ BitVec.ofInt k.bits b).toNat))
 | .andNot=> some (.int k (k.wrap (BitVec.ofInt k.bits a &&& ~~~(BitVec.ofInt k.bits b)).toNat))
 | .eql=> some (.bool (a==b))
 | .neq=> some (.bool (a !=b))
 | .lss=> some (.bool (decide (a < b)))
 | .leq=> some (.bool (decide (a≤b)))
 | .gtr=> some (.bool (decide (b < a)))
 | .geq=> some (.bool (decide (b≤a)))
 | _=> none
def nD (op:BinOp) (k:IntKind) (a b:Int):Option Value:=
 if b < 0 then none else
 match op with
 | .shl=> some (.int k (k.wrap (a * 2 ^(min b.toNat k.bits))))
 | .shr=> some (.int k (a.fdiv (2 ^(min b.toNat k.bits))))
 | _=> none
def ra (op:BinOp) (x y:ByteArray):Option Value:=
 match op with
 | .add=> if x.size+y.size≤9223372036854775807 then some (.string (x++y)) else none
 | .eql=> some (.bool (x.toList==y.toList))
 | .neq=> some (.bool !(x.toList==y.toList))
 | .lss=> some (.bool (Op.bytesLess x.toList y.toList))
 | .leq=> some (.bool (Op.bytesLess x.toList y.toList || x.toList==y.toList))
 | .gtr=> some (.bool !(Op.bytesLess x.toList y.toList || x.toList==y.toList))
 | .geq=> some (.bool !(Op.bytesLess x.toList y.toList))
 | _=> none
def ints (k:IntKind):List V→Option (List Int)
 | []=> some []
 | .s (.int k' n)::vs=> if k'=k then (ints k vs).map (n:: ·) else none
 | _::_=> none
def Ft (op:BinOp) (b:Bool):Option Value:=
 match op with
 | .eql=> some (.bool b)
 | .neq=> some (.bool !b)
 | _=> none
inductive Cl where
 | num | tru | ptr
 deriving Inhabited
def vp (cl:Cl) (op:BinOp) (x y:V):Option Value:=
 match cl with
 | .num=> match x,y with
   | .s (.int k a),.s (.int k' b)=> match op with
     | .shl | .shr=> nD op k a b
     | _=> if k=k' then jK op k a b else none
   | .s (.string a),.s (.string b)=> ra op a b
   | _,_=> none
 | .tru=> match x,y with
   | .s (.bool a),.s (.bool b)=> Ft op (a==b)
   | _,_=> none
 | .ptr=> match x,y with
   | .s (.pointer none),.s (.pointer none)=> Ft op true
   | .ptr _ _ _,.s (.pointer none)=> Ft op false
   | .s (.pointer none),.ptr _ _ _=> Ft op false
   | _,_=> none
def unV (op:UnOp):V→Option Value
 | .s (.int k n)=> match op with
   | .neg=> some (.int k (k.wrap (0 - n)))
   | .xor=> jK .xor k (if k.signed then -1 else k.max) n
   | _=> none
 | .s (.bool b)=> match op with | .not=> some (.bool !b) | _=> none
 | _=> none
def bytesOf :List V→Option (List UInt8)
 | []=> some []
 | .s (.int .u8 n)::vs=>(bytesOf vs).map (UInt8.ofNat n.toNat:: ·)
 | _::_=> none
def aa (b:UInt8):V:= .s (.int .u8 b.toNat)
def bK :List V→List (Nat×V)→Option (List V)
 | es,[]=> some es
 | es,(i,y)::ps=> match es[i]? with
   | some o=> if o.ty=y.ty∧y.aA=true then bK (es.set i y) ps else none
   | none=> none
inductive LK where
 | i (k:IntKind)
 | b
 | s
 deriving Inhabited,DecidableEq
inductive O where
 | mv
 | pick
 | bin (cl:Cl) (op:BinOp)
 | ve (t:Nat) (k:IntKind) (neg:Bool)
 | eqs (t:Nat) (ks:List LK) (neg:Bool)
 | un (op:UnOp)
 | aU
 | fa (t i:Nat)
 | fld (t i:Nat)
 | fg (t:Nat)
 | de (g:Option Nat)
 | idx (t:Nat)
 | Fu
 | ld (g:Option Nat)
 | aY (g:Option Nat)
 | box (g:Option Nat)
 | eS (g:Option Nat) (zero:V)
 | dN (t:Nat) (zero:List V) (places:List Nat)
 | jD (t:Nat) (zero:List V) (places:List Nat)
 | gT (g:Option Nat) (zero:List V) (places:List Nat)
 | oy
 | mks (g:Option Nat) (zero:V)
 | j2 (g:Option Nat) (lo hi mx:Bool)
 | nU (t:Nat) (g:Option Nat) (lo hi:Bool)
 | sls (lo hi:Bool)
 | len
 | Fv
 | app (g:Option Nat) (bytes:Nat)
 | cpy (g:Option Nat)
 | clr (g:Option Nat) (zero:V)
 | gO (k:IntKind)
 | yp
 | r2s (one:Bool)
 | s2b (lit:Bool)
 | mki (t:Nat)
 | tas (t:Nat) (ok:Bool) (zero:V)
 | ext (i:Nat)
 | min
 | max
 | rng
 | nxt
 | call (f:Nat)
 | mW
 | mkf (f:Nat)
 | nop
 | fzp (g:Option Nat)
 | mA (f:Nat)
 | CP (g:Option Nat) (zero:List V) (places:List Nat)
 | apx (g:Option Nat) (bytes:Nat)
 | bsx (g:Option Nat) (zero:List V) (places:List Nat)
 | mkm
 | lku (kc:Option (Nat×IntKind)) (ok:Bool) (zero:V)
 | mup (kc:Option (Nat×IntKind)) (g:Option Nat)
 | mpe (kc:Option (Nat×IntKind)) (zero:V)
 | ens (g:Option Nat)
 | mln
 | s2a (t:Nat) (g:Option Nat) (n:Nat)
 | apz (g:Option Nat) (bytes:Nat) (zero:V)
 | cap
 | bad
 deriving Inhabited
def O.cq :O→Bool
 | .aY _ | .box _ | .eS _ _ | .mks _ _ | .app _ _ | .cpy _ | .clr _ _ | .rng | .nxt | .call _ | .mW=> true
 | .gT _ zero _=> !zero.isEmpty
 | .oy=> true
 | .apx _ _=> true
 | .bsx _ _ _=> true
 | .mkm | .mup _ _ | .mpe _ _ | .ens _ | .s2a _ _ _ | .apz _ _ _=> true
 | .s2b lit=> !lit
 | _=> false
structure G where
 dst:Option Nat
 op:O
 xs:List X
 guard:Option (Nat×Bool)
 deriving Inhabited
def j6 (v:Value) (h:Hp):Option (V×Hp):=some (.s v,h)
def bQ (base id:Nat) (v:V):Bool:=decide (base≤id) || v.ground
def aO (lo hi:Bool) (xs:List V):Option (Option V×Option V):=
 match lo,hi,xs with
 | true,true,[a,b]=> some (some a,some b)
 | true,false,[a]=> some (some a,none)
 | false,true,[b]=> some (none,some b)
 | false,false,[]=> some (none,none)
 | _,_,_=> none
def cX :Option V→Nat→Option Nat
 | none,d=> some d
 | some (.s (.int _ n)),_=> if 0≤n then some n.toNat else none
 | some _,_=> none
def dH (h:Hp) (g:Option Nat) (x:V) (l hi:Nat):Option V:=
 if l≤hi then
  match x with
  | .al full g' es=> if g'=g∧hi≤es.length then some (.al (full && hi==es.length) g ((es.drop l).take (hi - l))) else none
  | .ref id path g' off len aB=> match rowAt h id path aB with
    | some es=> if g'=g∧(hi≤len∨off+hi≤es.length) then (if l=0∨l < hi then some (.ref id path g (off+l) (hi - l) aB) else some (.al false g [])) else none
    | none=> none
  | _=> none
 else none
def sN (h:Hp) (g:Option Nat) (x:V) (l hi mx:Nat):Option V:=
 if l≤hi∧hi≤mx then
  match x with
  | .al full g' es=> if g'=g∧mx≤es.length then some (.al (mx==hi) g ((es.drop l).take (hi - l))) else none
  | .ref id path g' off len aB=> match rowAt h id path aB with
    | some es=> if mx≤len∨off+mx≤es.length then (if l=mx then some (.al true g []) else some .top) else none
    | none=> none
  | _=> none
 else none
def fj :V→Option Nat
 | .al _ _ es=> some es.length
 | .ref _ _ _ _ len _=> some len
 | _=> none
def df (base:Nat) (g:Option Nat) (bytes:Nat) (h:Hp) (x:V) (gy:Option Nat) (ys:List V):Option (V×Hp):=
 if ys=[] then (fj x).map fun _=>(x,h) else
 if gy=g then
  match x with
  | .al true g' es=>
    if g'=g∧(es.length+ys.length)* bytes≤140737488355328 then some (.ref h.length [] g 0 (es.length+ys.length) (es.length+ys.length),h++[.cells g (es++ys)])
    else none
  | .ref id [] g' off len aB=> match rowOf h id aB with
    | some (g'',es)=>
      if g'=g∧g''=g∧ys.all (bQ base id) then
       if off+len+ys.length≤aB then
        some (.ref id [] g off (len+ys.length) aB,h.set id (.cells g (es.take (off+len)++ys++es.drop (off+len+ys.length))))
       else if off=0∧len=aB∧(len+ys.length)* bytes≤140737488355328 then
         some (.ref id [] g 0 (len+ys.length) (aB+ys.length),h.set id (.cells g (es++ys)))
       else none
      else none
    | none=> none
  | _=> none
 else none
def dW (s:ByteArray):List V:=s.data.toList.map aa
def source (h:Hp):V→Option (Option Nat×List V)
 | .s (.string s)=> some (none,dW s)
 | x=> elems h x
def copyV (base:Nat) (g:Option Nat) (h:Hp) (x:V) (gy:Option Nat) (ys:List V):Option (V×Hp):=
 match x with
 | .ref id [] g' off len aB=> match rowOf h id aB with
   | some (g'',es)=>
     let n:=min ys.length len
     if gy=g∧g'=g∧g''=g∧off+len≤aB∧ys.all (bQ base id) then
      some (.s (.int .i64 n),h.set id (.cells g (es.take off++ys.take n++es.drop (off+n))))
     else none
   | none=> none
 | _=> none
def zp (base:Nat) (g:Option Nat) (h:Hp) (x:V) (gy:Option Nat) (ys:List V):Option (V×Hp):=
 match x with
 | .ref id (i::p) g' off len aB=> match node h id (i::p) aB with
   | some (.arr t es)=>
     if gy=g∧g'=g∧off+len≤es.length∧ys.all (bQ base id) then
      (store h id (i::p) aB (.arr t (es.take off++ys.take (min ys.length len)++es.drop (off+min ys.length len)))).map fun h'=>(.s (.int .i64 (min ys.length len:Nat)),h')
     else none
   | _=> none
 | x=> copyV base g h x gy ys
def ug (h:Hp) (c a b:V):Option (V×Hp):=
 match c with
 | .s (.bool c)=> some (if c then a else b,h)
 | _=> none
def lK (h:Hp) (cl:Cl) (op:BinOp) (x y:V):Option (V×Hp):=(vp cl op x y).bind (j6 · h)
def uh (h:Hp) (t:Nat) (k:IntKind) (neg:Bool) (x y:V):Option (V×Hp):=
 match x,y with
 | .arr t1 es,.arr t2 fs=>
   if t1=t∧t2=t then match ints k es,ints k fs with | some a,some b=> j6 (.bool (if neg then !(a==b) else a==b)) h | _,_=> none else none
 | _,_=> none
def V.flat :V→Option (List Value)
 | .s x=> some [x]
 | .st _ fs=> all fs
 | .arr _ es=> all es
 | _=> none
where all:List V→Option (List Value)
  | []=> some []
  | v::vs=> match v.flat,all vs with | some a,some b=> some (a++b) | _,_=> none
def J9 :LK→Value→Bool
 | .i k,.int q n=> decide (q=k∧k.min≤n∧n≤k.max)
 | .b,.bool _=> true
 | .s,.string s=> decide (s.size≤140737488351232)
 | _,_=> false
def uj :List LK→List Value→Bool
 | [],[]=> true
 | k::ks,v::vs=> J9 k v && uj ks vs
 | _,_=> false
def uk :Value→Value→Bool
 | .int _ a,.int _ b=> a==b
 | .bool a,.bool b=> a==b
 | .string a,.string b=> a.data.toList==b.data.toList
 | _,_=> false
def gJ :List Value→List Value→Bool
 | [],[]=> true
 | a::as,b::bs=> uk a b && gJ as bs
 | _,_=> false
def wv (h:Hp) (t:Nat) (ks:List LK) (neg:Bool) (x y:V):Option (V×Hp):=
 match x,y with
 | .st t1 fs,.st t2 gs=>
   if t1=t∧t2=t then match V.flat.all fs,V.flat.all gs with
    | some us,some ws=> if uj ks us=true∧uj ks ws=true then j6 (.bool (if neg then !gJ us ws else gJ us ws)) h else none
    | _,_=> none
   else none
 | _,_=> none
def zq (h:Hp) (x:V):Option (V×Hp):=
 match x with
 | .ptr _ _ _=> some (x,h)
 | .eb _=> some (x,h)
 | .fn _ _=> some (x,h)
 | _=> none
def Fx (h:Hp) (t i:Nat) (x:V):Option (V×Hp):=
 match x with
 | .ptr id path aB=> match node h id path aB with
   | some (.st t' fs)=> if t'=t∧i < fs.length then some (.ptr id (path++[i]) aB,h) else none
   | _=> none
 | .eb (.st t' fs)=> if t'=t then (fs[i]?).map fun v=>(.eb v,h) else none
 | _=> none
def uo (h:Hp) (t i:Nat) (x:V):Option (V×Hp):=
 match x with
 | .st t' fs=> if t'=t then (fs[i]?).map fun v=>(v,h) else none
 | _=> none
def numOf :V→Option Int
 | .s (.int _ n)=> some n
 | _=> none
def wx (h:Hp) (t:Nat) (x y:V):Option (V×Hp):=
 match numOf y with
 | some i=>
   match x with
   | .ptr id path aB=> match node h id path aB with
     | some (.arr t' es)=> if t'=t∧0≤i∧i < es.length then some (.ptr id (path++[i.toNat]) aB,h) else none
     | _=> none
   | .eb (.arr t' es)=> if t'=t∧0≤i∧i < es.length then (es[i.toNat]?).map fun v=>(.eb v,h) else none
   | _=> none
 | none=> none
def wy (h:Hp) (g:Option Nat) (x y:V):Option (V×Hp):=
 match numOf y with
 | some i=>
   match x with
   | .ref id path g' off len aB=> match rowAt h id path aB with
     | some es=> if g'=g∧0≤i∧i < len∧off+i.toNat < es.length then some (.ptr id (path++[off+i.toNat]) aB,h) else none
     | none=> none
   | .al _ g' es=> if g'=g∧0≤i then (es[i.toNat]?).map fun v=>(.eb v,h) else none
   | _=> none
 | none=> none
def rE (h:Hp) (t:Nat) (x y:V):Option (V×Hp):=
 match x,numOf y with
 | .arr t' es,some i=> if t'=t∧0≤i then (es[i.toNat]?).map fun v=>(v,h) else none
 | _,_=> none
def pt (h:Hp) (x y:V):Option (V×Hp):=
 match x,numOf y with
 | .s (.string s),some i=> if 0≤i then match s[i.toNat]? with | some b=> some (aa b,h) | none=> none else none
 | _,_=> none
def sj (h:Hp) (g:Option Nat) (x:V):Option (V×Hp):=
 match x with
 | .ptr id path aB=> match node h id path aB with
   | some v=> if v.ty=g then some (v,h) else none
   | none=> none
 | .eb v=> if v.ty=g then some (v,h) else none
 | _=> none
def zr (base:Nat) (h:Hp) (g:Option Nat) (x y:V):Option (V×Hp):=
 match x with
 | .ptr id path aB=> match node h id path aB with
   | some v=> if v.ty=g∧y.ty=g∧y.aA=true∧bQ base id y=true then (store h id path aB y).map fun h'=>(.bP [],h') else none
   | none=> none
 | _=> none
def uq (h:Hp) (g:Option Nat) (x:V):Option (V×Hp):=
 if x.ty=g∧x.aA=true then some (.ptr h.length [0] 1,h++[.cells g [x]]) else none
def rb (h:Hp) (t:Nat) (zero:List V) (places:List Nat) (xs:List V):Option (V×Hp):=
 if places.length=xs.length then (bK zero (places.zip xs)).map fun fs=>(.st t fs,h) else none
def re (h:Hp) (t:Nat) (zero:List V) (places:List Nat) (xs:List V):Option (V×Hp):=
 if places.length=xs.length then (bK zero (places.zip xs)).map fun es=>(.arr t es,h) else none
def oT (h:Hp) (g:Option Nat) (zero:List V) (places:List Nat) (xs:List V):Option (V×Hp):=
 if places.length=xs.length then match bK zero (places.zip xs) with
  | some es=> if es.isEmpty then some (.al true g [],h) else some (.ref h.length [] g 0 es.length es.length,h++[.cells g es])
  | none=> none
 else none
def Ka (h:Hp) (id:Nat) (g':Option Nat) (len aB:Nat):Option (V×Hp):=
 match h[id]? with
 | some (.lit g es)=> if len=aB∧es.length=aB∧g'=g then some (.al true g es,h.set id .dead) else none
 | _=> none
def wz (h:Hp) (x:V):Option (V×Hp):=
 match x with
 | .ref id [] g' 0 len aB=> match rowOf h id aB with
   | some (g,es)=> if len=aB∧g'=g then some (.al false g es,h.set id .dead) else none
   | none=> Ka h id g' len aB
 | _=> none
def rC (r:V×Hp):Option (V×Hp):=
 match r.1 with
 | .al _ g es=> some (.al false g es,r.2)
 | .ref id [] g' 0 len aB=> match rowOf r.2 id aB with
   | some (g,es)=> if len=aB∧g'=g then some (.al false g es,r.2.set id .dead) else none
   | none=> none
 | _=> none
def wA (h:Hp) (x:V):Option (V×Hp):=
 match x with
 | .al true _ es=> j6 (.int .i64 es.length) h
 | _=> none
def vN (h:Hp) (t:Nat) (g:Option Nat) (n:Nat) (x:V):Option (V×Hp):=
 (rC (x,h)).bind fun r=> match r.1 with
   | .al _ g' es=> if g'=g∧0 < n∧n≤es.length then some (.eb (.arr t (es.take n)),r.2) else none
   | _=> none
def uu (h:Hp) (g:Option Nat) (zero:List V) (places:List Nat) (xs:List V):Option (V×Hp):=
 if places.length=xs.length then match bK zero (places.zip xs) with
  | some es=> if es.isEmpty then none else some (.ref h.length [] g 0 es.length es.length,h++[.lit g es])
  | none=> none
 else none
def wB (h:Hp) (g:Option Nat) (zero x y:V):Option (V×Hp):=
 match numOf x,numOf y with
 | some n,some m=>
   if n=m∧0≤n∧n≤16777216 then
    (if n=0 then some (.al true g [],h) else some (.ref h.length [] g 0 n.toNat n.toNat,h++[.cells g (List.replicate n.toNat zero)]))
   else none
 | _,_=> none
def gV (h:Hp) (g:Option Nat) (lo hi mx:Bool) (x:V) (bs:List V):Option (V×Hp):=
 match fj x with
 | some len=>
   match lo,hi,mx,bs with
   | lo,hi,false,bs=> match aO lo hi bs with
     | some (a,b)=> match cX a 0,cX b len with | some l,some r=>(dH h g x l r).map fun v=>(v,h) | _,_=> none
     | none=> none
   | false,true,true,[b,m]=> match cX (some b) 0,cX (some m) 0 with | some r,some m=>(sN h g x 0 r m).map fun v=>(v,h) | _,_=> none
   | true,true,true,[a,b,m]=> match cX (some a) 0,cX (some b) 0,cX (some m) 0 with | some l,some r,some m=>(sN h g x l r m).map fun v=>(v,h) | _,_,_=> none
   | _,_,_,_=> none
 | none=> none
def rB (h:Hp) (t:Nat) (g:Option Nat) (lo hi:Bool) (x:V) (bs:List V):Option (V×Hp):=
 match aO lo hi bs with
 | some (a,b)=> match x with
   | .ptr id path aB=> match node h id path aB with
     | some (.arr t' es)=> if t'=t then match cX a 0,cX b es.length with | some l,some r=> if l≤r∧r≤es.length then (if l=0∨l < es.length then some (.ref id path g l (r - l) aB,h) else some (.al true g [],h)) else none | _,_=> none else none
     | _=> none
   | .eb (.arr t' es)=> if t'=t then match cX a 0,cX b es.length with | some l,some r=> if l≤r∧r≤es.length then some (.al (r==es.length) g ((es.drop l).take (r - l)),h) else none | _,_=> none else none
   | _=> none
 | none=> none
def wC (h:Hp) (lo hi:Bool) (x:V) (bs:List V):Option (V×Hp):=
 match x,aO lo hi bs with
 | .s (.string s),some (a,b)=> match cX a 0,cX b s.size with | some l,some r=> if l≤r∧r≤s.size then j6 (.string (s.extract l r)) h else none | _,_=> none
 | _,_=> none
def uv (h:Hp) (x:V):Option (V×Hp):=(fj x).bind fun n=> j6 (.int .i64 n) h
def rh (h:Hp) (x:V):Option (V×Hp):=
 match x with
 | .s (.string s)=> j6 (.int .i64 s.size) h
 | _=> none
def oM (base:Nat) (h:Hp) (g:Option Nat) (bytes:Nat) (x y:V):Option (V×Hp):=(source h y).bind fun r=> df base g bytes h x r.1 r.2
def vI (base:Nat) (h:Hp) (g:Option Nat) (bytes:Nat) (zero x y:V):Option (V×Hp):=
 match y with
 | .s (.int .i64 k)=> if 0≤k∧k.toNat * bytes≤140737488355328 then df base g bytes h x g (List.replicate k.toNat zero) else none
 | _=> none
def PB (base:Nat) (h:Hp) (g:Option Nat) (bytes:Nat) (x y:V):Option (V×Hp):=(oM base h g bytes x y).bind rC
def Kb (base:Nat) (h:Hp) (g:Option Nat) (x y:V):Option (V×Hp):=(source h y).bind fun r=> zp base g h x r.1 r.2
def zt (base:Nat) (h:Hp) (g:Option Nat) (zero x:V):Option (V×Hp):=
 match fj x with
 | some 0=> some (.bP [],h)
 | some n=>(copyV base g h x g (List.replicate n zero)).map fun r=>(.bP [],r.2)
 | none=> none
def wD (h:Hp) (k:IntKind) (x:V):Option (V×Hp):=(numOf x).bind fun n=> j6 (.int k (k.wrap n)) h
def oi :List V→Option (List Int)
 | []=> some []
 | .s (.int .i32 n)::vs=>(oi vs).map (n:: ·)
 | _::_=> none
def uw (h:Hp) (one:Bool) (x:V):Option (V×Hp):=
 if one then match x with
  | .s (.int .i32 n)=> j6 (.string (Utf8.encode n)) h
  | _=> none
 else (elems h x).bind fun r=>(oi r.2).bind fun l=> j6 (.string (runesBytes l)) h
def wE (h:Hp) (x:V):Option (V×Hp):=(elems h x).bind fun r=>(bytesOf r.2).bind fun l=> j6 (.string ⟨l.toArray⟩) h
def rL (h:Hp) (lit:Bool) (x:V):Option (V×Hp):=
 match x with
 | .s (.string s)=> if lit then some (.al false none (dW s),h) else if s.size=0 then none else some (.ref h.length [] none 0 s.size s.size,h++[.cells none (dW s)])
 | _=> none
def wF (h:Hp) (t:Nat) (ok:Bool) (zero x:V):Option (V×Hp):=
 match x with
 | .iface t' y=> if t'=t then some (if ok then .bP [y,.s (.bool true)] else y,h) else if ok then some (.bP [zero,.s (.bool false)],h) else none
 | _=> none
def wG (h:Hp) (i:Nat) (x:V):Option (V×Hp):=
 match x with
 | .bP vs=>(vs[i]?).map fun v=>(v,h)
 | _=> none
def uA (h:Hp) (mx:Bool) (x y:V):Option (V×Hp):=
 match x,y with
 | .s (.int k a),.s (.int _ b)=> j6 (.int k (if mx then (if b > a then b else a) else (if b < a then b else a))) h
 | _,_=> none
def zu (h:Hp) (x:V):Option (V×Hp):=
 match x with
 | .s (.string s)=> some (.ptr h.length [] 0,h++[.gI s 0])
 | _=> none
def zw (h:Hp) (x:V):Option (V×Hp):=
 match x with
 | .ptr id [] 0=> match h[id]? with
   | some (.gI s pos)=>
     if pos < s.size then some (.bP [.s (.bool true),.s (.int .i64 pos),.s (.int .i32 (Utf8.decode s pos).1)],h.set id (.gI s (pos+(Utf8.decode s pos).2)))
     else some (.bP [.s (.bool false)],h)
   | _=> none
 | _=> none
def rM (h:Hp) (g:Option Nat) (x:V):Option (V×Hp):=
 if x.ty=g∧x.aA=true then some (.eb x,h) else none
open Classical in
noncomputable def uB (r:Option (V×Hp)) (h:Hp):Option (V×Hp):=
 match r with
 | some (v,h')=> if h'=h then some (v,h) else none
 | none=> none
def uC (h:Hp) (g:Option Nat) (zero:List V) (places:List Nat) (xs:List V):Option (V×Hp):=
 if places.length=xs.length then (bK zero (places.zip xs)).map fun es=>(.al true g es,h) else none
def nE (kc:Option (Nat×IntKind)) (x y:V):Option Bool:=
 match kc,x,y with
 | none,.s (.int k a),.s (.int k' b)=> if k=k' then some (a==b) else none
 | some (t,k),.arr t1 es,.arr t2 fs=> if t1=t∧t2=t then match ints k es,ints k fs with | some a,some b=> some (a==b) | _,_=> none else none
 | _,_,_=> none
def iR (kc:Option (Nat×IntKind)) (x:V):List (V×V×Nat)→Nat→Option (Option (Nat×V×Nat))
 | [],_=> some none
 | e::es,i=> match nE kc x e.1 with
   | some true=> some (some (i,e.2))
   | some false=> iR kc x es (i+1)
   | none=> none
def qm (kc:Option (Nat×IntKind)) (x:V) (es:List (V×V×Nat)):Option (Option (Nat×V×Nat)):=if nE kc x x=some true then iR kc x es 0 else none
def YZ (ok:Bool) (zero:V):Option (Nat×V×Nat)→V
 | some (_,v,_)=> if ok then .bP [v,.s (.bool true)] else v
 | none=> if ok then .bP [zero,.s (.bool false)] else zero
def zx (h:Hp) (kc:Option (Nat×IntKind)) (ok:Bool) (zero x k:V):Option (V×Hp):=
 match x with
 | .mp id=> match h[id]? with
   | some (.map es _)=>(qm kc k es).map fun r=>(YZ ok zero r,h)
   | _=> none
 | _=> none
def zy (base:Nat) (h:Hp) (kc:Option (Nat×IntKind)) (g:Option Nat) (x k v:V):Option (V×Hp):=
 match x with
 | .mp id=> if (bQ base id v && k.ground && v.aA && decide (v.ty=g))=true then match h[id]? with
   | some (.map es cl)=>(qm kc k es).map fun r=> match r with
     | some (i,_,b)=>(.bP [],h.set id (.map (es.set i (k,v,b)) cl))
     | none=>(.bP [],h.set id (.map (es++[(k,v,cl)]) (cl+1)))
   | _=> none
   else none
 | _=> none
def zz (base:Nat) (h:Hp) (kc:Option (Nat×IntKind)) (zero x k:V):Option (V×Hp):=
 match x with
 | .mp id=> if (bQ base id zero && k.ground)=true then match h[id]? with
   | some (.map es cl)=>(qm kc k es).map fun r=> match r with
     | some (i,v,b)=>(.bP [v,.s (.int .i64 b)],h.set id (.map (es.set i (k,v,b)) cl))
     | none=>(.bP [zero,.s (.int .i64 cl)],h.set id (.map (es++[(k,zero,cl)]) (cl+1)))
   | _=> none
   else none
 | _=> none
def zA (n:Int) (v:V):List (V×V×Nat)→Option (List (V×V×Nat))
 | []=> none
 | e::es=> if (e.2.2:Int)=n then some ((e.1,v,e.2.2)::es) else (zA n v es).map (e:: ·)
def zB (base:Nat) (h:Hp) (g:Option Nat) (x k v:V):Option (V×Hp):=
 match x,k with
 | .mp id,.s (.int _ n)=> if (bQ base id v && v.aA && decide (v.ty=g))=true then match h[id]? with
   | some (.map es cl)=>(zA n v es).map fun es'=>(.bP [],h.set id (.map es' cl))
   | _=> none
   else none
 | _,_=> none
def zC (h:Hp) (x:V):Option (V×Hp):=
 match x with
 | .mp id=> match h[id]? with
   | some (.map es _)=> some (.s (.int .i64 es.length),h)
   | _=> none
 | _=> none
noncomputable def aC (cf:Nat→List V→Hp→Option (V×Hp)) (base:Nat) (h:Hp):O→List V→Option (V×Hp)
 | .mv,[x]=> some (x,h)
 | .pick,[c,a,b]=> ug h c a b
 | .bin cl op,[x,y]=> lK h cl op x y
 | .ve t k neg,[x,y]=> uh h t k neg x y
 | .eqs t ks neg,[x,y]=> wv h t ks neg x y
 | .un op,[x]=>(unV op x).bind (j6 · h)
 | .aU,[x]=> zq h x
 | .fa t i,[x]=> Fx h t i x
 | .fld t i,[x]=> uo h t i x
 | .fg t,[x,y]=> wx h t x y
 | .de g,[x,y]=> wy h g x y
 | .idx t,[x,y]=> rE h t x y
 | .Fu,[x,y]=> pt h x y
 | .ld g,[x]=> sj h g x
 | .aY g,[x,y]=> zr base h g x y
 | .box g,[x]=> uq h g x
 | .eS g zero,[]=> uq h g zero
 | .dN t zero places,xs=> rb h t zero places xs
 | .jD t zero places,xs=> re h t zero places xs
 | .gT g zero places,xs=> oT h g zero places xs
 | .oy,[x]=> wz h x
 | .mks g zero,[x,y]=> wB h g zero x y
 | .j2 g lo hi mx,x::bs=> gV h g lo hi mx x bs
 | .nU t g lo hi,x::bs=> rB h t g lo hi x bs
 | .sls lo hi,x::bs=> wC h lo hi x bs
 | .len,[x]=> uv h x
 | .Fv,[x]=> rh h x
 | .app g bytes,[x,y]=> oM base h g bytes x y
 | .cpy g,[x,y]=> Kb base h g x y
 | .clr g zero,[x]=> zt base h g zero x
 | .gO k,[x]=> wD h k x
 | .yp,[x]=> wE h x
 | .r2s one,[x]=> uw h one x
 | .s2b lit,[x]=> rL h lit x
 | .mki t,[x]=> some (.iface t x,h)
 | .tas t ok zero,[x]=> wF h t ok zero x
 | .ext i,[x]=> wG h i x
 | .min,[x,y]=> uA h false x y
 | .max,[x,y]=> uA h true x y
 | .rng,[x]=> zu h x
 | .nxt,[x]=> zw h x
 | .call f,xs=> cf f xs h
 | .mW,.fn f cap::xs=> cf f (xs++cap) h
 | .mkf f,xs=> some (.fn f xs,h)
 | .nop,[]=> some (.bP [],h)
 | .fzp g,[x]=> rM h g x
 | .mA f,xs=> uB (cf f xs h) h
 | .CP g zero places,xs=> uC h g zero places xs
 | .apx g bytes,[x,y]=> PB base h g bytes x y
 | .bsx g zero places,xs=> uu h g zero places xs
 | .mkm,[]=> some (.mp h.length,h++[.map [] 0])
 | .lku kc ok zero,[x,k]=> zx h kc ok zero x k
 | .mup kc g,[x,k,v]=> zy base h kc g x k v
 | .mpe kc zero,[x,k]=> zz base h kc zero x k
 | .ens g,[x,k,v]=> zB base h g x k v
 | .mln,[x]=> zC h x
 | .s2a t g n,[x]=> vN h t g n x
 | .apz g bytes z,[x,y]=> vI base h g bytes z x y
 | .cap,[x]=> wA h x
 | _,_=> none
def want (fr:Fr) (g:G):Option Bool:=
 match g.guard with
 | none=> some true
 | some (t,b)=> match fr.getD t .top with
   | .s (.bool b')=> some (b'==b)
   | .bP []=> some false
   | _=> none
noncomputable def stepG (cf:Nat→List V→Hp→Option (V×Hp)) (base:Nat) (fr:Fr) (h:Hp) (g:G):Option (V×Hp):=
 match want fr g with
 | some true=> aC cf base h g.op (g.xs.map (X.ev fr))
 | some false=> some (.bP [],h)
 | none=> none
def ik (fr:Fr) (d:Option Nat) (v:V):Fr:=
 match d with
 | some t=> fr.set t v
 | none=> fr
noncomputable def lf (cf:Nat→List V→Hp→Option (V×Hp)) (base:Nat):List G→Fr→Hp→Option (Fr×Hp)
 | [],fr,h=> some (fr,h)
 | g::gs,fr,h=> match stepG cf base fr h g with
   | some (v,h')=> lf cf base gs (ik fr g.dst v) h'
   | none=> none
structure GD where
 g:G
 lo:Nat
 hi:Nat
 deriving Inhabited
def pv (cf:Nat→List V→Hp→Option (V×Hp)) (base:Nat) (fr:Fr) (g:G) (v:V):List Hp→Prop
 | []=> True
 | h::hs=> stepG cf base fr h g=some (v,h)∧pv cf base fr g v hs
structure Seen where
 d:GD
 fr:Fr
 v:V
def oj (cf:Nat→List V→Hp→Option (V×Hp)) (base:Nat) (hs:List Hp):List Seen→Prop
 | []=> True
 | x::xs=> pv cf base x.fr x.d.g x.v ((hs.drop x.d.lo).take (x.d.hi+1 - x.d.lo))∧oj cf base hs xs
noncomputable def nF (cf:Nat→List V→Hp→Option (V×Hp)) (base:Nat):List GD→Fr→Hp→List Hp→List Seen→Option (Fr×Hp×List Hp×List Seen)
 | [],fr,h,hs,xs=> some (fr,h,hs++[h],xs)
 | d::ds,fr,h,hs,xs=> match stepG cf base fr h d.g with
   | some (v,h')=> if d.g.op.cq then nF cf base ds (ik fr d.g.dst v) h' (hs++[h]) xs else nF cf base ds (ik fr d.g.dst v) h hs (xs++[⟨d,fr,v⟩])
   | none=> none
def inB (n:Nat) (ds:List GD):Prop:=∀d∈ds,∀t,d.g.dst=some t→t < n
open Classical in
noncomputable def bL (cf:Nat→List V→Hp→Option (V×Hp)) (base:Nat) (ds:List GD) (fr:Fr) (h:Hp):Option (Fr×Hp):=
 match nF cf base ds fr h [] [] with
 | some (fr',h',hs,xs)=> if inB fr.length ds∧oj cf base hs xs then some (fr',h') else none
 | none=> none
inductive C where
 | skip
 | af (gs:List G)
 | bL (ds:List GD)
 | seq (a b:C)
 | cond (c:X) (a b:C)
 | block (id:Nat) (a:C)
 | loop (a:C)
 | exit (id:Nat)
 | ret
 deriving Inhabited
inductive Ex where
 | normal
 | exit (id:Nat)
 | ret
 deriving Inhabited,DecidableEq
abbrev Out :=Option (Ex×Fr×Hp)
def iter (f:Fr→Hp→Out):Nat→Fr→Hp→Out
 | 0,_,_=> none
 | n+1,fr,h=> match f fr h with
   | some (.normal,fr',h')=> iter f n fr' h'
   | r=> r
theorem zD {f:Fr→Hp→Out}:∀ {n m:Nat} {fr:Fr} {h:Hp} {r r':Ex×Fr×Hp},iter f n fr h=some r→iter f m fr h=some r'→r=r'
 | 0,_,_,_,_,_,h1,_=> by simp[iter] at h1
 | _+1,0,_,_,_,_,_,h2=> by simp[iter] at h2
 | n+1,m+1,fr,h,r,r',h1,h2=> by
   simp only[iter] at h1 h2
   split at h1
   ·rename_i fr1 h1' he
    rw[he] at h2
    exact zD h1 h2
   ·rename_i cC
    cases hf:f fr h with
    | none=> rw[hf] at h1;cases h1
    | some q=>
      rw[hf] at h1 h2
      obtain ⟨e,a,b⟩:=q
      cases e with
      | normal=> exact absurd hf (cC a b)
      | exit id=> simp only[Option.some.injEq] at h1 h2;rw[←h1,←h2]
      | ret=> simp only[Option.some.injEq] at h1 h2;rw[←h1,←h2]
open Classical in
noncomputable def Kc (f:Fr→Hp→Out) (fr:Fr) (h:Hp):Out:=
 if hx:∃r n,iter f n fr h=some r then some hx.choose else none
theorem il {f:Fr→Hp→Out} {fr:Fr} {h:Hp} {r:Ex×Fr×Hp}:Kc f fr h=some r↔∃n,iter f n fr h=some r:=by
 unfold Kc
 constructor
 ·intro hr
  split at hr
  ·rename_i hx
   simp only[Option.some.injEq] at hr
   rw[←hr]
   exact hx.choose_spec
  ·cases hr
 ·rintro ⟨n,hn⟩
  have hx:∃r n,iter f n fr h=some r:=⟨r,n,hn⟩
  rw[dif_pos hx]
  obtain ⟨m,hm⟩:=hx.choose_spec
  rw[zD hm hn]
noncomputable def exec (cf:Nat→List V→Hp→Option (V×Hp)) (base:Nat):C→Fr→Hp→Out
 | .skip,fr,h=> some (.normal,fr,h)
 | .af gs,fr,h=>(lf cf base gs fr h).map fun r=>(.normal,r.1,r.2)
 | .bL ds,fr,h=>(Vm.bL cf base ds fr h).map fun r=>(.normal,r.1,r.2)
 | .seq a b,fr,h=> match exec cf base a fr h with
   | some (.normal,fr',h')=> exec cf base b fr' h'
   | r=> r
 | .cond c a b,fr,h=> match c.ev fr with
   | .s (.bool true)=> exec cf base a fr h
   | .s (.bool false)=> exec cf base b fr h
   | _=> none
 | .block id a,fr,h=> match exec cf base a fr h with
   | some (.exit id',fr',h')=> if id'=id then some (.normal,fr',h') else some (.exit id',fr',h')
   | r=> r
 | .loop a,fr,h=> Kc (exec cf base a) fr h
 | .exit id,fr,h=> some (.exit id,fr,h)
 | .ret,fr,h=> some (.ret,fr,h)
inductive Rs where
 | t (n:Nat)
 | cell (n:Nat) (g:Option Nat)
 deriving Inhabited
structure Fn where
 nt:Nat
 body:C
 res:List Rs
 pure:Bool
 deriving Inhabited
def Nn (fr:Fr) (h:Hp):Rs→Option V
 | .t n=> some (fr.getD n (.bP []))
 | .cell n g=>(sj h g (fr.getD n (.bP []))).map (·.1)
def kZ (fr:Fr) (h:Hp):List Rs→Option (List V)
 | []=> some []
 | r::rs=> match Nn fr h r,kZ fr h rs with | some v,some vs=> some (v::vs) | _,_=> none
def pw :List V→V
 | [v]=> v
 | vs=> .bP vs
def V.low (n:Nat):V→Bool
 | .s _=> true
 | .ptr id _ _=> decide (id < n)
 | .ref id _ _ _ _ _=> decide (id < n)
 | .al _ _ es=> all es
 | .eb v=> v.low n
 | .st _ fs=> all fs
 | .arr _ es=> all es
 | .bP vs=> all vs
 | .iface _ v=> v.low n
 | .fn _ vs=> all vs
 | .mp id=> decide (id < n)
 | .top=> true
where all:List V→Bool
  | []=> true
  | v::vs=> v.low n && all vs
def bA (base:Nat) (h:Hp):V→Option V
 | .ref id path g off len aB=>
   if id < base then some (.ref id path g off len aB) else
   match path with
   | []=> match rowOf h id aB with
     | some (g',es)=> if g'=g∧off+len≤aB∧V.low.all base ((es.drop off).take len)=true then some (.al false g ((es.drop off).take len)) else none
     | none=> none
   | _=> none
 | .al _ g es=>(all es).map fun es'=> .al false g es'
 | .st t fs=>(all fs).map fun fs'=> .st t fs'
 | .arr t es=>(all es).map fun es'=> .arr t es'
 | .bP vs=>(all vs).map fun vs'=> .bP vs'
 | .iface t v=>(bA base h v).map fun v'=> .iface t v'
 | v=> if v.low base then some v else none
where all:List V→Option (List V)
  | []=> some []
  | v::vs=> match bA base h v,all vs with | some v',some vs'=> some (v'::vs') | _,_=> none
def mL (F:Fn) (args:List V):Fr:=args++List.replicate (F.nt - args.length) (.bP [])
noncomputable def lN (cf:Nat→Nat→List V→Hp→Option (V×Hp)) (base:Nat) (F:Fn) (args:List V) (h:Hp):Option (V×Hp):=
 if F.pure then
  match exec (cf h.length) h.length F.body (mL F args) h with
  | some (.exit _,_,_)=> none
  | some (_,fr,h')=> match kZ fr h' F.res with
    | some vs=> match bA h.length h' (pw vs) with
      | some v=> some (v,h'.take h.length)
      | none=> none
    | none=> none
  | none=> none
 else
   match exec (cf base) base F.body (mL F args) h with
   | some (.exit _,_,_)=> none
   | some (_,fr,h')=> match kZ fr h' F.res with
     | some vs=> some (pw vs,h')
     | none=> none
   | none=> none
noncomputable def den (fns:Nat→Option Fn) (pr:Nat→List V→Hp→Option (V×Hp)):Nat→Nat→Nat→List V→Hp→Option (V×Hp)
 | 0,_,_,_,_=> none
 | d+1,base,f,args,h=> match fns f with
   | some F=> lN (den fns pr d) base F args h
   | none=> pr f args h
end Go.Vm
namespace Go.Vm
structure St (w w':World):Prop where
 os:w'.os=w.os
 tape:w'.tape=w.tape
 output:w'.output=w.output
 size:w.heap.size≤w'.heap.size
theorem St.refl (w:World):St w w:=⟨rfl,rfl,rfl,acm _⟩
theorem St.trans {a b c:World} (h:St a b) (k:St b c):St a c:=⟨k.os.trans h.os,k.tape.trans h.tape,k.output.trans h.output,acN h.size k.size⟩
def J7 (g:Option Nat) (n:Nat) (fz:Nat×Nat):Prop:=(∀j,j < n→¬(fz.1≤j∧j < fz.2))∧(g.isSome=true→fz=(0,0))
def mm (L:cG) (c:Ctx):List (V×V×Nat)→List MapEntry→Prop
 | [],[]=> True
 | e::es,m::ms=>(RV L c e.1 m.key∧RV L c e.2.1 m.val∧e.2.2=m.born)∧mm L c es ms
 | _,_=> False
def qn (L:cG) (c:Ctx) (w:World) (l:Loc):bc→Prop
 | .cells g es=> l.tag=g∧l.aB=es.length∧es.length≤l.cap∧(∀e∈es,e.ty=g∧e.aA=true)∧
     ∃us ty fz,w.heap[l.bE]? =some (.cells us ty fz)∧us.size=l.cap * L.aD g∧J7 g us.size fz∧cB L c es (us.toList.take (es.length * L.aD g))
 | .lit g es=> l.tag=g∧l.aB=es.length∧es.length=l.cap∧(∀e∈es,e.ty=g∧e.aA=true)∧
     ∃us ty fz,w.heap[l.bE]? =some (.cells us ty fz)∧us.size=l.cap * L.aD g∧J7 g us.size fz∧cB L c es (us.toList.take (es.length * L.aD g))
 | .map es cl=> l.tag=none∧l.aB=0∧∃ms:Array MapEntry,w.heap[l.bE]? =some (.map ms cl)∧mm L c es ms.toList
 | .gI s pos=> l.tag=none∧l.aB=0∧w.heap[l.bE]? =some (.stringIter s pos)
 | .dead=> False
def real :Obj→Obj
 | .pending cs ty=> match cs.back? with
   | some (.bool false)=> .cells cs.pop ty (0,0)
   | _=> .pending cs.pop ty
 | o=> o
abbrev zE (cs:Array Value) (ty:TypeId):Obj:= .pending (cs.push (.bool false)) ty
def kept :Obj→Obj
 | .pending cs ty=> .pending (cs.push (.bool true)) ty
 | o=> o
theorem wH (cs:Array Value) (ty:TypeId):real (zE cs ty)= .cells cs ty (0,0):=by simp[real]
theorem wI (o:Obj):real (kept o)=o:=by cases o <;> simp[kept,real]
structure bp (L:cG) (c:Ctx) (h:Hp) (w:World):Prop where
 z:∀b o,c.z b=some o→w.heap[b]? =some (real o)
 n:c.n=h.length
 loc:∀id l,c.loc id=some l→∃k,h[id]? =some k∧c.z l.bE=none∧qn L c w l k
 live:∀id k,h[id]? =some k→(∃l,c.loc id=some l)∨k= .dead
 inj:∀i j li lj,c.loc i=some li→c.loc j=some lj→li.bE=lj.bE→i=j
variable {L : cG} {c c' : Ctx} {h : Hp} {w : World}
theorem mm.fu (hle:c.Fq c'):∀ {es:List (V×V×Nat)} {ms:List MapEntry},mm L c es ms→mm L c' es ms
 | [],[],_=> trivial
 | e::es,m::ms,h=>⟨⟨h.1.1.fu hle,h.1.2.1.fu hle,h.1.2.2⟩,mm.fu hle h.2⟩
 | [],_::_,h=> h.elim
 | _::_,[],h=> h.elim
theorem qn.fu (hle:c.Fq c') {w':World} {l:Loc} {k:bc} (hw:w'.heap[l.bE]? =w.heap[l.bE]?) (hb:qn L c w l k):qn L c' w' l k:=by
 cases k with
 | cells g es=>
   obtain ⟨h1,h2,h3,h4,us,ty,fz,h5,h6,h7,h8⟩:=hb
   exact ⟨h1,h2,h3,h4,us,ty,fz,by rw[hw];exact h5,h6,h7,h8.fu hle⟩
 | lit g es=>
   obtain ⟨h1,h2,h3,h4,us,ty,fz,h5,h6,h7,h8⟩:=hb
   exact ⟨h1,h2,h3,h4,us,ty,fz,by rw[hw];exact h5,h6,h7,h8.fu hle⟩
 | map es cl=> obtain ⟨h1,h2,ms,h3,h4⟩:=hb;exact ⟨h1,h2,ms,by rw[hw];exact h3,h4.fu hle⟩
 | gI s pos=> exact ⟨hb.1,hb.2.1,by rw[hw];exact hb.2.2⟩
 | dead=> exact hb
theorem qn.mono (hle:c.le c') {w':World} {l:Loc} {k:bc} (hw:w'.heap[l.bE]? =w.heap[l.bE]?) (hb:qn L c w l k):qn L c' w' l k:=hb.fu hle.Fq hw
theorem qn.real {l:Loc} {k:bc} (hb:qn L c w l k) {o:Obj} (ho:w.heap[l.bE]? =some o):real o=o:=by
 cases k with
 | cells g es=> obtain ⟨_,_,_,_,us,ty,fz,h5,_⟩:=hb;rw[h5] at ho;cases ho;rfl
 | lit g es=> obtain ⟨_,_,_,_,us,ty,fz,h5,_⟩:=hb;rw[h5] at ho;cases ho;rfl
 | map es cl=> obtain ⟨_,_,ms,h3,_⟩:=hb;rw[h3] at ho;cases ho;rfl
 | gI s pos=> rw[hb.2.2] at ho;cases ho;rfl
 | dead=> exact hb.elim
theorem qn.lt {l:Loc} {k:bc} (hb:qn L c w l k):l.bE < w.heap.size:=by
 cases k with
 | cells g es=> obtain ⟨_,_,_,_,us,ty,fz,h5,_⟩:=hb;exact (ady.1 h5).1
 | lit g es=> obtain ⟨_,_,_,_,us,ty,fz,h5,_⟩:=hb;exact (ady.1 h5).1
 | map es cl=> obtain ⟨_,_,ms,h3,_⟩:=hb;exact (ady.1 h3).1
 | gI s pos=> exact (ady.1 hb.2.2).1
 | dead=> exact hb.elim
theorem bp.drew (hs:bp L c h w):bp L c h w.drew:=⟨hs.z,hs.n,fun id l hl=> let ⟨k,h1,h2,h3⟩:=hs.loc id l hl;⟨k,h1,h2,h3.mono (Ctx.le_refl c) rfl⟩,hs.live,hs.inj⟩
theorem St.drew (w:World):St w w.drew:=⟨rfl,rfl,rfl,acm _⟩
theorem iQ {w:World} {o:Obj} {b:Nat} (hb:b < w.heap.size):(w.alloc o).heap[b]? =w.heap[b]? :=RowKit.Below.heap_alloc w o b hb
theorem jL {w:World} {o:Obj}:(w.alloc o).heap[w.heap.size]? =some o:=heap_alloc_new w o
theorem St.alloc (w:World) (o:Obj):St w (w.alloc o):=⟨rfl,rfl,rfl,by simp⟩
theorem eM {w:World} {b:Nat} {o:Obj} (hb:w.heap[b]? =some o):b < w.heap.size:=(ady.1 hb).1
theorem bp.Dz (hs:bp L c h w) (o:Obj):bp L c h (w.alloc o) where
 z b x hb:=by rw[iQ (eM (hs.z b x hb))];exact hs.z b x hb
 n:=hs.n
 loc id l hl:=by
   obtain ⟨k,h1,h2,h3⟩:=hs.loc id l hl
   exact ⟨k,h1,h2,h3.mono (Ctx.le_refl c) (iQ h3.lt)⟩
 live:=hs.live
 inj:=hs.inj
def Ctx.push (c:Ctx) (l:Loc):Ctx:= {c with loc:=fun i=> if i=c.n then some l else c.loc i,n:=c.n+1}
theorem Ctx.iE (c:Ctx) (l:Loc):c.le (c.push l) where
 z _ _ hb:=hb
 n:=by simp[Ctx.push]
 loc id l' hid hl:=by
   simp only[Ctx.push,if_neg (Nat.ne_of_lt hid)] at hl
   exact ⟨l',hl,rfl,acm _,fun _=>⟨rfl,rfl⟩⟩
theorem bp.PC (hs:bp L c h w) {id:Nat} {l:Loc} (hl:c.loc id=some l):id < c.n:=by
 obtain ⟨k,h1,_⟩:=hs.loc id l hl
 rw[hs.n];exact (acj.1 h1).1
theorem bp.push (hs:bp L c h w) (o:Obj) (k:bc) (l:Loc) (hl:l.bE=w.heap.size) (hk:qn L (c.push l) (w.alloc o) l k):
 bp L (c.push l) (h++[k]) (w.alloc o) where
 z b x hb:=by rw[iQ (eM (hs.z b x hb))];exact hs.z b x hb
 n:=by simp[Ctx.push,hs.n]
 loc id l' dF:=by
   simp only[Ctx.push] at dF
   by_cases hid:id=c.n
   ·simp only[hid,if_true,Option.some.injEq] at dF
    subst dF
    refine ⟨k,by rw[hid,hs.n];simp,?_,hk⟩
    cases hz:c.z l.bE with
    | none=> exact hz
    | some x=> have:=eM (hs.z _ _ hz);omega
   ·simp only[hid,if_false] at dF
    obtain ⟨k',h1,h2,h3⟩:=hs.loc id l' dF
    exact ⟨k',by rw[ac0 (acj.1 h1).1];exact h1,h2,h3.mono (c.iE l) (iQ h3.lt)⟩
 live id k' mD:=by
   by_cases hid:id=c.n
   ·exact .inl ⟨l,by simp[Ctx.push,hid]⟩
   ·have bR:id < h.length:=by
      have:=(acj.1 mD).1
      simp at this
      have:=hs.n
      omega
    rw[ac0 bR] at mD
    rcases hs.live id k' mD with ⟨l',dF⟩ | rfl
    ·exact .inl ⟨l',by simp[Ctx.push,hid,dF]⟩
    ·exact .inr rfl
 inj i j li lj hi hj he:=by
   simp only[Ctx.push] at hi hj
   by_cases h1:i=c.n <;> by_cases h2:j=c.n
   ·omega
   ·simp only[h1,if_true,h2,if_false,Option.some.injEq] at hi hj
    obtain ⟨k',_,_,h3⟩:=hs.loc j lj hj
    have:=h3.lt;subst hi;omega
   ·simp only[h1,if_false,h2,if_true,Option.some.injEq] at hi hj
    obtain ⟨k',_,_,h3⟩:=hs.loc i li hi
    have:=h3.lt;subst hj;omega
   ·simp only[h1,if_false,h2] at hi hj
    exact hs.inj i j li lj hi hj he
def Ctx.dK (c:Ctx) (b:Nat) (o:Obj):Ctx:= {c with z:=fun i=> if i=b then some o else c.z i}
theorem Ctx.lO (c:Ctx) (b:Nat) (o:Obj) (hb:c.z b=none):c.le (c.dK b o) where
 z i x hi:=by
   simp only[Ctx.dK]
   by_cases e:i=b
   ·rw[e,hb] at hi;cases hi
   ·rw[if_neg e];exact hi
 n:=acm _
 loc id l' hid hl:=⟨l',hl,rfl,acm _,fun _=>⟨rfl,rfl⟩⟩
theorem Ctx.ri (c:Ctx) (b:Nat) (o:Obj) (hb:∀cs ty fz,c.z b≠some (.cells cs ty fz)):c.Fq (c.dK b o) where
 z i cs ty fz hi:=by
   simp only[Ctx.dK]
   by_cases e:i=b
   ·rw[e] at hi;exact absurd hi (hb _ _ _)
   ·rw[if_neg e];exact hi
 n:=acm _
 loc id l' hid hl:=⟨l',hl,rfl,acm _,fun _=>⟨rfl,rfl⟩⟩
theorem bp.rJ (hs:bp L c h w):c.z w.heap.size=none:=by
 cases hz:c.z w.heap.size with
 | none=> rfl
 | some x=> have:=eM (hs.z _ _ hz);omega
theorem bp.Kd (hs:bp L c h w) (o o':Obj) (hr:real o=o'):bp L (c.dK w.heap.size o) h (w.alloc o') where
 z b x hb:=by
   simp only[Ctx.dK] at hb
   by_cases e:b=w.heap.size
   ·simp only[e,if_true,Option.some.injEq] at hb;subst hb;rw[e,jL,hr]
   ·rw[if_neg e] at hb;rw[iQ (eM (hs.z b x hb))];exact hs.z b x hb
 n:=hs.n
 loc id l hl:=by
   obtain ⟨k,h1,h2,h3⟩:=hs.loc id l hl
   refine ⟨k,h1,?_,h3.mono (c.lO _ _ hs.rJ) (iQ h3.lt)⟩
   have:=h3.lt
   simp only[Ctx.dK]
   rw[if_neg (by omega)];exact h2
 live:=hs.live
 inj:=hs.inj
theorem bp.dK (hs:bp L c h w) (o:Obj) (hr:real o=o:=by rfl):bp L (c.dK w.heap.size o) h (w.alloc o):=hs.Kd o o hr
theorem bp.fill (hs:bp L c h w) {b:Nat} {cs cs':Array Value} {ty ty':TypeId} (hb:c.z b=some (.pending cs ty)) {w':World} (hold:∀x,x≠b→w'.heap[x]? =w.heap[x]?) (mf:w'.heap[b]? =some (.cells cs' ty' (0,0))):
 bp L (c.dK b (.cells cs' ty' (0,0))) h w' where
 z x o ho:=by
   simp only[Ctx.dK] at ho
   by_cases e:x=b
   ·simp only[e,if_true,Option.some.injEq] at ho;subst ho;rw[e,mf];rfl
   ·rw[if_neg e] at ho;rw[hold x e];exact hs.z x o ho
 n:=hs.n
 loc id l hl:=by
   obtain ⟨k,h1,h2,h3⟩:=hs.loc id l hl
   have cC:l.bE≠b:=fun e=> by rw[e,hb] at h2;cases h2
   refine ⟨k,h1,?_,h3.fu (c.ri b _ (by rw[hb];intro _ _ _ h;cases h)) (hold _ cC)⟩
   simp only[Ctx.dK];rw[if_neg cC];exact h2
 live:=hs.live
 inj:=hs.inj
def Ctx.die (c:Ctx) (id:Nat) (b:Nat) (o:Obj):Ctx:= {c with z:=fun i=> if i=b then some o else c.z i,loc:=fun i=> if i=id then none else c.loc i}
theorem Ctx.pz (c:Ctx) (id b:Nat) (o:Obj) (hb:c.z b=none):c.le (c.die id b o) where
 z i x hi:=by
   simp only[Ctx.die]
   by_cases e:i=b
   ·rw[e,hb] at hi;cases hi
   ·rw[if_neg e];exact hi
 n:=acm _
 loc i l' hid hl:=by
   simp only[Ctx.die] at hl
   by_cases e:i=id
   ·simp[e] at hl
   ·rw[if_neg e] at hl;exact ⟨l',hl,rfl,acm _,fun _=>⟨rfl,rfl⟩⟩
theorem bp.die (hs:bp L c h w) {id:Nat} {l:Loc} (hl:c.loc id=some l) {w':World} (hold:∀b,b≠l.bE→w'.heap[b]? =w.heap[b]?) {o:Obj} (ho:w'.heap[l.bE]? =some o) (hr:real o=o:=by rfl):bp L (c.die id l.bE o) (h.set id .dead) w' where
 z b x hb:=by
   simp only[Ctx.die] at hb
   by_cases e:b=l.bE
   ·simp only[e,if_true,Option.some.injEq] at hb;subst hb;rw[e,ho,hr]
   ·rw[if_neg e] at hb;rw[hold b e];exact hs.z b x hb
 n:=by simp[Ctx.die,hs.n]
 loc i l' dF:=by
   simp only[Ctx.die] at dF
   by_cases e:i=id
   ·simp[e] at dF
   ·rw[if_neg e] at dF
    obtain ⟨k,h1,h2,h3⟩:=hs.loc i l' dF
    obtain ⟨_,_,hz,_⟩:=hs.loc id l hl
    have cC:l'.bE≠l.bE:=fun he=> e (hs.inj i id l' l dF hl he)
    refine ⟨k,by rw[acp (adY e)];exact h1,?_,h3.mono (c.pz _ _ _ hz) (hold _ cC)⟩
    simp only[Ctx.die]
    rw[if_neg cC];exact h2
 live i k hk:=by
   by_cases e:i=id
   ·subst e
    right
    rw[ac7] at hk
    simp only[if_true] at hk
    split at hk <;> simp_all
   ·rw[acp (adY e)] at hk
    rcases hs.live i k hk with ⟨l',h1⟩ | rfl
    ·exact .inl ⟨l',by simp[Ctx.die,e,h1]⟩
    ·exact .inr rfl
 inj i j li lj hi hj he:=by
   simp only[Ctx.die] at hi hj
   by_cases e1:i=id
   ·simp[e1] at hi
   ·by_cases e2:j=id
    ·simp[e2] at hj
    ·rw[if_neg e1] at hi;rw[if_neg e2] at hj;exact hs.inj i j li lj hi hj he
def Ctx.move (c:Ctx) (id:Nat) (l':Loc):Ctx:= {c with loc:=fun i=> if i=id then some l' else c.loc i}
theorem Ctx.xL (c:Ctx) (id:Nat) (l l':Loc) (hl:c.loc id=some l) (cD:l.tag=l'.tag) (cO:l.aB≤l'.aB) (DA:l.aB=l'.aB→l'.bE=l.bE∧l'.cap=l.cap):c.le (c.move id l') where
 z _ _ hb:=hb
 n:=acm _
 loc i l'' hid hl'':=by
   simp only[Ctx.move] at hl''
   by_cases e:i=id
   ·simp only[e,if_true,Option.some.injEq] at hl''
    subst hl'';subst e
    exact ⟨l,hl,cD,cO,DA⟩
   ·rw[if_neg e] at hl'';exact ⟨l'',hl'',rfl,acm _,fun _=>⟨rfl,rfl⟩⟩
theorem bp.move (hs:bp L c h w) {id:Nat} {l l':Loc} (hl:c.loc id=some l) {w':World} (k:bc)
 (hle:c.le (c.move id l')) (hz:c.z l'.bE=none) (xP:l'.bE=l.bE∨w.heap.size≤l'.bE)
 (hold:∀b,b < w.heap.size→b≠l.bE→w'.heap[b]? =w.heap[b]?) (Y0:∀o,c.z l.bE=some o→w'.heap[l.bE]? =some (real o))
 (hk:qn L (c.move id l') w' l' k):bp L (c.move id l') (h.set id k) w' where
 z b x hb:=by
   have h1:w.heap[b]? =some (real x):=hs.z b x hb
   by_cases e:b=l.bE
   ·subst e;exact Y0 x hb
   ·rw[hold b (eM h1) e];exact h1
 n:=by simp[Ctx.move,hs.n]
 loc i li hli:=by
   simp only[Ctx.move] at hli
   by_cases e:i=id
   ·simp only[e,if_true,Option.some.injEq] at hli
    subst hli;subst e
    obtain ⟨k0,h1,_⟩:=hs.loc i l hl
    exact ⟨k,by rw[ac7];simp[(acj.1 h1).1],hz,hk⟩
   ·rw[if_neg e] at hli
    obtain ⟨k',h1,h2,h3⟩:=hs.loc i li hli
    refine ⟨k',by rw[acp (adY e)];exact h1,h2,h3.mono hle (hold _ h3.lt ?_)⟩
    exact fun he=> e (hs.inj i id li l hli hl he)
 live i k' mD:=by
   by_cases e:i=id
   ·exact .inl ⟨l',by simp[Ctx.move,e]⟩
   ·rw[acp (adY e)] at mD
    rcases hs.live i k' mD with ⟨l'',h1⟩ | rfl
    ·exact .inl ⟨l'',by simp[Ctx.move,e,h1]⟩
    ·exact .inr rfl
 inj i j li lj hi hj he:=by
   simp only[Ctx.move] at hi hj
   by_cases e1:i=id <;> by_cases e2:j=id
   ·omega
   ·simp only[e1,if_true,e2,if_false,Option.some.injEq] at hi hj
    subst hi
    obtain ⟨k',_,_,h3⟩:=hs.loc j lj hj
    rcases xP with hb | hb
    ·exact absurd (hs.inj j id lj l hj hl (by omega)) e2
    ·have:=h3.lt;omega
   ·simp only[e1,if_false,e2,if_true,Option.some.injEq] at hi hj
    subst hj
    obtain ⟨k',_,_,h3⟩:=hs.loc i li hi
    rcases xP with hb | hb
    ·exact absurd (hs.inj i id li l hi hl (by omega)) e1
    ·have:=h3.lt;omega
   ·simp only[e1,if_false,e2] at hi hj
    exact hs.inj i j li lj hi hj he
theorem wJ (hL:L.OK):∀(p:List Nat) (v x:V) (us:List Value),RC L c v us→nodeAt p v=some x→
 ∃o,L.walk v.ty p=some (o,x.ty)∧RC L c x ((us.drop o).take (L.aD x.ty))∧o+L.aD x.ty≤us.length:=by
 intro p
 induction p with
 | nil=>
   intro v x us hr hn
   simp only[nodeAt,Option.some.injEq] at hn
   subst hn
   have:=q22z hL v us hr
   exact ⟨0,by simp[cG.walk],by simpa[←this] using hr,by omega⟩
 | cons i p ih=>
   intro v x us hr hn
   cases v with
   | st t fs=>
     simp only[RC] at hr
     obtain ⟨hr,hf,fy⟩:=hr
     simp only[nodeAt] at hn
     split at hn
     ·rename_i y hy
      have h1:=oh hL hr hy
      have hle:=jN hL hr hy
      obtain ⟨o,h2,h3,h4⟩:=ih y x _ h1 hn
      have hlen:=q22z hL y _ h1
      refine ⟨((fs.take i).map fun v=> L.aD v.ty).sum+o,?_,?_,?_⟩
      ·show L.walk (some t) (i::p)=_
       simp only[cG.walk,hf,acv,hy,acO,h2,←List.map_take,adA]
       rfl
      ·rw[adM,ads,adn] at h3
       rw[acI] at h4
       rwa [acZ (by omega)] at h3
      ·simp only[acI,adb] at h4 hlen
       omega
     ·cases hn
   | arr t es=>
     simp only[RC] at hr
     obtain ⟨hr,e,ha,he⟩:=hr
     simp only[nodeAt] at hn
     split at hn
     ·rename_i y hy
      have h1:=da hL hr (fun z hz=>(he z hz).1) hy
      have hle:=dq hL hr (fun z hz=>(he z hz).1) hy
      obtain ⟨o,h2,h3,h4⟩:=ih y x _ h1 hn
      have hlen:=q22z hL y _ h1
      have Hr:y.ty=e:=(he y (acw hy)).1
      have hi:=(acj.1 hy).1
      refine ⟨i * L.aD e+o,?_,?_,?_⟩
      ·show L.walk (some t) (i::p)=_
       simp only[cG.walk,hL.no _ _ ha,ha,if_pos hi,←Hr,h2,acO]
      ·rw[adM,ads,adn] at h3
       rw[acI] at h4
       rwa [acZ (by omega)] at h3
      ·simp only[acI,adb] at h4 hlen
       omega
     ·cases hn
   | _=> simp[nodeAt] at hn
def lay (us:List Value) (o:Nat) (ys:List Value):List Value:=us.take o++(ys++us.drop (o+ys.length))
theorem ei (us ys:List Value) (o:Nat) (hl:o+ys.length≤us.length):(lay us o ys).length=us.length:=by simp[lay];omega
theorem mM (a b ys:List Value) (o:Nat) (hl:o+ys.length≤a.length):lay (a++b) o ys=lay a o ys++b:=by
 simp only[lay]
 rw[acV (by omega),List.drop_append_of_le_length (by omega)]
 simp
theorem lP (a b ys:List Value) (o:Nat):lay (a++b) (a.length+o) ys=a++lay b o ys:=by
 simp only[lay]
 rw[List.take_append,afy]
 simp[aek,adp,ack]
theorem nB (us ys:List Value) (o n:Nat) (h1:o+ys.length≤n) (h2:n≤us.length):(lay us o ys).take n=lay (us.take n) o ys:=by
 obtain ⟨a,b,rfl,ha⟩:∃a b,us=a++b∧a.length=n:=⟨us.take n,us.drop n,(afN _ _).symm,by simp;omega⟩
 rw[mM _ _ _ _ (by omega),acV (by rw[ei _ _ _ (by omega)];omega),
  ack (by rw[ei _ _ _ (by omega)];omega),acV (by omega),ack (by omega)]
theorem sO (us ys:List Value) (k n o:Nat) (hk:k+n≤us.length) (hl:o+ys.length≤n):
 lay us (k+o) ys=lay us k (lay ((us.drop k).take n) o ys):=by
 have e1:us=us.take k++((us.drop k).take n++us.drop (k+n)):=by
   conv=> lhs;rw[←List.take_append_drop k us,←List.take_append_drop n (us.drop k)]
   rw[adn]
 have lk:(us.take k).length=k:=by simp;omega
 have ln:((us.drop k).take n).length=n:=by simp;omega
 have hlen:(lay ((us.drop k).take n) o ys).length=n:=by rw[ei _ _ _ (by omega),ln]
 have e2:lay us k (lay ((us.drop k).take n) o ys)=us.take k++(lay ((us.drop k).take n) o ys++us.drop (k+n)):=by
   simp only[lay] at hlen ⊢
   rw[hlen]
 rw[e2]
 conv=> lhs;rw[e1]
 have:=lP (us.take k) ((us.drop k).take n++us.drop (k+n)) ys o
 rw[lk] at this
 rw[this,mM _ _ _ _ (by omega)]
theorem sP (hL:L.OK) {y:V} {ys:List Value} (hy:RC L c y ys):∀(vs:List V) (us:List Value) (i:Nat) (v:V),cB L c vs us→vs[i]? =some v→y.ty=v.ty→
 cB L c (vs.set i y) (lay us (((vs.take i).map fun v=> L.aD v.ty).sum) ys):=by
 intro vs
 induction vs with
 | nil=> intro us i v _ hi;simp at hi
 | cons x xs ih=>
   intro us i v hr hi dw
   simp only[cB] at hr
   obtain ⟨u1,u2,rfl,h1,h2⟩:=hr
   have hlen:=q22z hL x u1 h1
   have Y1:=q22z hL y ys hy
   cases i with
   | zero=>
     simp at hi;subst hi
     rw[dw] at Y1
     simp only[ad4,cB,aex,acF,List.sum_nil]
     refine ⟨ys,u2,?_,hy,h2⟩
     simp only[lay,aex,ac1,acU]
     rw[show ys.length=u1.length by omega,aeP]
   | succ i=>
     simp at hi
     simp only[List.set_cons_succ,cB,adV,acx,afv]
     refine ⟨u1,_,?_,h1,ih u2 i v h2 hi dw⟩
     rw[←hlen,lP]
theorem Ke (hL:L.OK) {y:V} {ys:List Value} (hy:RC L c y ys) (hys:y.aA=true):∀(p:List Nat) (v v' db:V) (us:List Value),RC L c v us→nodeAt p v=some db→putAt y p v=some v'→y.ty=db.ty→
 ∃o,L.walk v.ty p=some (o,db.ty)∧RC L c v' (lay us o ys)∧v'.ty=v.ty∧o+ys.length≤us.length∧v'.aA=true:=by
 intro p
 induction p with
 | nil=>
   intro v v' db us hr hn hp dw
   simp only[nodeAt,Option.some.injEq] at hn
   simp only[putAt,Option.some.injEq] at hp
   subst hn;subst hp
   have h1:=q22z hL v us hr
   have h2:=q22z hL y ys hy
   rw[dw] at h2
   refine ⟨0,by simp[cG.walk],?_,dw,by omega,hys⟩
   simp only[lay,aex,ac1,acU]
   rw[adp (by omega),acL];exact hy
 | cons i p ih=>
   intro v v' db us hr hn hp dw
   cases v with
   | st t fs=>
     simp only[RC] at hr
     obtain ⟨hr,hf,fy⟩:=hr
     simp only[nodeAt] at hn
     simp only[putAt] at hp
     split at hn
     ·rename_i x hx
      rw[hx] at hp
      obtain ⟨x',hx',rfl⟩:=ach.1 hp
      have h1:=oh hL hr hx
      have hle:=jN hL hr hx
      obtain ⟨o,h2,h3,h4,h5,h6⟩:=ih x x' db _ h1 hn hx' dw
      have hlen:=q22z hL x _ h1
      refine ⟨((fs.take i).map fun v=> L.aD v.ty).sum+o,?_,?_,rfl,by omega,rfl⟩
      ·show L.walk (some t) (i::p)=_
       simp only[cG.walk,hf,acv,hx,acO,h2,←List.map_take,adA]
       rfl
      ·rw[sO us ys _ (L.aD x.ty) o (by omega) (by omega)]
       simp only[RC]
       refine ⟨sP hL h3 fs us i x hr hx h4,?_,fun z hz=> ?_⟩
       ·rw[afU,h4,hf]
        congr 1
        refine adl fun j=> ?_
        by_cases e:j=i
        ·subst e
         rw[ac7,acv,hx]
         simp[(acj.1 hx).1]
        ·rw[acp (adY e)]
       ·rcases adj hz with hz | rfl
        ·exact fy z hz
        ·exact h6
     ·cases hn
   | arr t es=>
     simp only[RC] at hr
     obtain ⟨hr,e,ha,he⟩:=hr
     simp only[nodeAt] at hn
     simp only[putAt] at hp
     split at hn
     ·rename_i x hx
      rw[hx] at hp
      obtain ⟨x',hx',rfl⟩:=ach.1 hp
      have AE:x.ty=e:=(he x (acw hx)).1
      have h1:=oh hL hr hx
      have hle:=jN hL hr hx
      have hi:=(acj.1 hx).1
      have xQ:((es.take i).map fun v=> L.aD v.ty).sum=i * L.aD e:=dV es _ _ i (fun z hz=> by rw[(he z hz).1]) (by omega)
      obtain ⟨o,h2,h3,h4,h5,h6⟩:=ih x x' db _ h1 hn hx' dw
      have hlen:=q22z hL x _ h1
      refine ⟨i * L.aD e+o,?_,?_,rfl,by omega,rfl⟩
      ·show L.walk (some t) (i::p)=_
       simp only[cG.walk,hL.no _ _ ha,ha,if_pos hi,←AE,h2,acO]
      ·rw[←xQ,sO us ys _ (L.aD x.ty) o (by omega) (by omega)]
       simp only[RC]
       refine ⟨sP hL h3 es us i x hr hx h4,e,by simpa using ha,fun z hz=> ?_⟩
       rcases adj hz with hz | rfl
       ·exact he z hz
       ·exact ⟨by rw[h4,AE],h6⟩
     ·cases hn
   | _=> simp[nodeAt] at hn
def nG (us:List Value):Prop:=∀u∈us,u.oneCell'=true
theorem rj (w:World) (b i:Nat) (us:Array Value) (ty:TypeId) (fz:Nat×Nat) (v:Value) (hg:w.heap[b]? =some (.cells us ty fz)):
 (w.setCell ⟨b,i,none⟩ v).heap[b]? =some (.cells (us.setIfInBounds i v) ty fz):=by
 simp[World.setCell,ad0,hg]
theorem dI (b:Nat) (ty:TypeId) (fz:Nat×Nat):∀(vs:List Value) (o:Nat) (us:Array Value) (w:World),w.heap[b]? =some (.cells us ty fz)→o+vs.length≤us.size→
 (w.setCells b o vs).heap[b]? =some (.cells (lay us.toList o vs).toArray ty fz)
 | [],o,us,w,hg,_=> by simp[World.setCells,lay,hg]
 | v::r,o,us,w,hg,hl=> by
   simp only[World.setCells]
   simp at hl
   rw[dI b ty fz r (o+1) _ _ (rj w b o us ty fz v hg) (by simp;omega)]
   congr 2
   simp only[lay,adT]
   rw[afR,List.drop_set]
   have h1:(us.toList.take (o+1)).set o v=us.toList.take o++[v]:=by
     rw[acT (by simp;omega)]
     rw[ac9 _ _ (by simp;exact ae0 _ _)]
     simp[acZ (show o≤us.size by omega),ad4]
   rw[h1,if_pos (by omega)]
   simp[aek,aen 1]
theorem q13z (b:Nat):∀(vs:List Value) (o:Nat) (w:World) (k:Nat),k≠b→(w.setCells b o vs).heap[k]? =w.heap[k]?
 | [],_,_,_,_=> rfl
 | v::r,o,w,k,hk=> by
   simp only[World.setCells]
   rw[q13z b r _ _ k hk]
   exact RowKit.Below.heap_setCell w ⟨b,o,none⟩ v k hk
theorem St.setCells (b:Nat):∀(vs:List Value) (o:Nat) (w:World),St w (w.setCells b o vs)
 | [],_,w=> St.refl w
 | v::r,o,w=> by
   simp only[World.setCells]
   exact St.trans (show St w (w.setCell ⟨b,o,none⟩ v) from ⟨rfl,rfl,rfl,by simp⟩) (St.setCells b r (o+1) _)
theorem q15z {w:World} {b j:Nat} {us:Array Value} {ty:TypeId} {fz:Nat×Nat} (hg:w.heap[b]? =some (.cells us ty fz)):w.cell? ⟨b,j,none⟩=us[j]? :=by
 simp[World.cell?,hg]
theorem eN {w:World} {b j:Nat} {us:Array Value} {ty:TypeId} {fz:Nat×Nat} (hg:w.heap[b]? =some (.cells us ty fz)) (hf:∀j,j < us.size→¬(fz.1≤j∧j < fz.2)) (hj:j < us.size):w.frozen? ⟨b,j,none⟩=false:=by
 have:=hf j hj
 simp only[World.frozen?,hg]
 simp only[not_and] at this
 simp only[aeD,decide_eq_false_iff_not]
 by_cases h1:fz.1≤j
 ·exact .inr (this h1)
 ·exact .inl h1
theorem q16z {h:Hp} {id aB:Nat} {g:Option Nat} {es:List V} (hr:rowOf h id aB=some (g,es)):h[id]? =some (.cells g es)∧es.length=aB:=by
 unfold rowOf at hr
 split at hr
 ·rename_i g' es' he
  split at hr
  ·rename_i hlen
   simp only[Option.some.injEq,Prod.mk.injEq] at hr
   obtain ⟨rfl,rfl⟩:=hr
   exact ⟨he,hlen⟩
  ·cases hr
 ·cases hr
theorem bp.row (hs:bp L c h w) {id aB:Nat} {g:Option Nat} {es:List V} (hr:rowOf h id aB=some (g,es)):
 ∃l,c.loc id=some l∧l.aB=aB∧l.tag=g∧c.z l.bE=none∧qn L c w l (.cells g es):=by
 obtain ⟨h1,h2⟩:=q16z hr
 rcases hs.live id _ h1 with ⟨l,hl⟩ | hd
 ·obtain ⟨k,h3,h4,h5⟩:=hs.loc id l hl
  rw[h1] at h3;cases h3
  exact ⟨l,hl,by rw[h5.2.1,h2],h5.1,h4,h5⟩
 ·cases hd
theorem bp.node (hL:L.OK) (hs:bp L c h w) {id aB:Nat} {path:List Nat} {v:V} (hn:node h id path aB=some v):
 ∃l o us ty fz,c.loc id=some l∧l.aB=aB∧L.off l.tag path=some o∧w.heap[l.bE]? =some (.cells us ty fz)∧(∀j,j < us.size→¬(fz.1≤j∧j < fz.2))∧
  o+L.aD v.ty≤us.size∧RC L c v ((us.toList.drop o).take (L.aD v.ty)):=by
 unfold Vm.node at hn
 split at hn
 ·rename_i g es i p hr
  obtain ⟨l,hl,cO,cD,hz,_,_,gF,cY,us,ty,fz,hg,cU,dt,gk⟩:=hs.row hr
  split at hn
  ·rename_i e he
   have zk:=fun x hx=>(cY x hx).1
   have h1:=da hL gk zk he
   have h1le:=dq hL gk zk he
   have AF:e.ty=g:=zk e (acw he)
   obtain ⟨o,h2,h3,h4⟩:=wJ hL p e v _ h1 hn
   have hlen:=q22z hL e _ h1
   rw[AF] at hlen
   have fk:(us.toList.take (es.length * L.aD g)).length≤us.size:=by simp;omega
   refine ⟨l,i * L.aD g+o,us,ty,fz,hl,cO,?_,hg,dt.1,by omega,?_⟩
   ·simp only[cG.off,cD,←AF,h2,acO]
   ·have hil:=(acj.1 he).1
    have hb:(i+1)* L.aD g≤es.length * L.aD g:=acE _ (by omega)
    rw[adG,ae3] at hb
    rw[adM,ads,adn,adM,ads] at h3
    rw[hlen] at h4
    rw[acZ (by omega),acZ (by omega)] at h3
    exact h3
  ·cases hn
 ·cases hn
theorem dC {vs:List V} (ih:∀v∈vs,v.aA=true→∀us,RC L c v us→nG us) (hs:∀v∈vs,v.aA=true):∀us,cB L c vs us→nG us:=by
 induction vs with
 | nil=> intro us h;simp only[cB] at h;subst h;intro u hu;simp at hu
 | cons v vs iv=>
   intro us h
   simp only[cB] at h
   obtain ⟨u1,u2,rfl,h1,h2⟩:=h
   intro u hu
   rcases acG.1 hu with hu | hu
   ·exact ih v (by simp) (hs v (by simp)) u1 h1 u hu
   ·exact iv (fun x hx=> ih x (by simp[hx])) (fun x hx=> hs x (by simp[hx])) u2 h2 u hu
theorem dD {u:Value} (hu:u.oneCell'=true):nG [u]:=by intro x hx;simp at hx;subst hx;exact hu
theorem ed :∀(v:V),v.aA=true→∀us,RC L c v us→nG us:=by
 intro v
 induction v using V.rec (motive_2:=fun vs=>∀v∈vs,v.aA=true→∀us,RC L c v us→nG us) with
 | s x=> intro _ us h;simp only[RC] at h;rw[h.1];exact dD h.2
 | ptr=> intro _ us h;simp only[RC] at h;obtain ⟨a,h,_⟩:=h;rw[h];exact dD rfl
 | ref=> intro _ us h;simp only[RC] at h;obtain ⟨a,k,h,_⟩:=h;rw[h];exact dD rfl
 | al=> intro _ us h;simp only[RC] at h;obtain ⟨a,k,h,_⟩:=h;rw[h];exact dD rfl
 | eb=> intro _ us h;simp only[RC] at h;obtain ⟨_,_,_,_,_,h,_⟩:=h;rw[h];exact dD rfl
 | st t fs ih=> intro _ us h;simp only[RC] at h;exact dC ih h.2.2 us h.1
 | arr t es ih=> intro _ us h;simp only[RC] at h;obtain ⟨h,e,_,he⟩:=h;exact dC ih (fun x hx=>(he x hx).2) us h
 | bP=> intro h;cases h
 | iface=> intro _ us h;simp only[RC] at h;obtain ⟨u,us',h,_⟩:=h;rw[h];exact dD rfl
 | fn=> intro _ us h;simp only[RC] at h;obtain ⟨ws,h,_⟩:=h;rw[h];exact dD rfl
 | mp=> intro _ us h;simp only[RC] at h;obtain ⟨b,h,_⟩:=h;rw[h];exact dD rfl
 | top=> intro h;cases h
 | nil=> rename_i hv _ _ _;exact absurd hv (by simp)
 | cons v vs h1 h2=>
   rename_i x hx hs us h
   rcases acQ.1 hx with rfl | hx
   ·exact h1 hs us h
   ·exact h2 x hx hs us h
end Go.Vm
namespace Go.Vm
def abm :TypeDesc→Bool
 | .struct _=> true
 | .array _ _=> true
 | _=> false
structure TG (P:Program) (L:cG) (ty:TypeId) (g:Option Nat):Prop where
 info:∃i,P.info? ty=some i∧i.size=L.aD g
 under:∃d,P.underlying ty=some d∧abm d=g.isSome
variable {P : Program} {L : cG} {c : Ctx} {h : Hp} {w : World} {ty : TypeId} {g : Option Nat}
theorem TG.isAgg (ht:TG P L ty g) (w:World):(isAgg ty).run P w= .ok g.isSome w:=by
 obtain ⟨d,h1,h2⟩:=ht.under
 simp only[Go.isAgg,underlying,Sem.run_bind,run_program,Result.andThen_ok,h1,Sem.run_pure]
 rw[←h2]
 cases d <;> rfl
theorem TG.sizeOf (ht:TG P L ty g) (w:World):(Go.sizeOf ty).run P w= .ok (L.aD g) w:=by
 obtain ⟨i,h1,h2⟩:=ht.info
 simp[Go.sizeOf,typeInfo,h1,h2]
theorem eV (b o n:Nat):(⟨b,o,none⟩:Addr).add n=⟨b,o+n,none⟩:=by unfold Addr.add;split <;> simp_all
theorem mn {v:V} {us:List Value} {u:Value} (hv:v.ty=none):wr v us u↔us=[u]:=by
 cases v <;> first | (simp[V.ty] at hv;done) | exact Iff.rfl
theorem mo {v:V} {t:Nat} {us:List Value} {u:Value} (hv:v.ty=some t):wr v us u↔u= .agg us.toArray:=by
 cases v <;> first | (simp[V.ty] at hv;done) | exact Iff.rfl
theorem gK (hL:L.OK) {v:V} (ht:TG P L ty v.ty) {b o:Nat} {us:Array Value} {e:TypeId} {fz:Nat×Nat} (hg:w.heap[b]? =some (.cells us e fz))
 (hr:RC L c v ((us.toList.drop o).take (L.aD v.ty))):∃u,(loadVar ty ⟨b,o,none⟩).run P w= .ok u w∧RV L c v u:=by
 have hlen:=q22z hL v _ hr
 cases hv:v.ty with
 | none=>
   rw[hv] at hlen hr ht
   simp only[cG.aD] at hlen hr
   obtain ⟨u,hu⟩:=afG.1 hlen
   have h0:us[o]? =some u:=by
     have:((us.toList.drop o).take 1)[0]? =some u:=by rw[hu];rfl
     simpa using this
   refine ⟨u,?_,⟨_,hr,(mn hv).2 hu⟩⟩
   simp only[loadVar,Sem.run_bind,ht.isAgg,adF,Result.andThen_ok,acz,if_false,run_load,q15z hg,h0]
 | some t=>
   rw[hv] at hlen hr ht
   refine ⟨.agg ((us.toList.drop o).take (L.aD (some t))).toArray,?_,⟨_,hr,(mo hv).2 rfl⟩⟩
   have hl:(loadCells ⟨b,o,none⟩ ((us.toList.drop o).take (L.aD (some t))).length).run P w= .ok ((us.toList.drop o).take (L.aD (some t))).toArray w:=
     run_loadCells_list (P:=P) w ⟨b,o,none⟩ _ (fun j v hj=> by
       rw[eV,q15z hg]
       have sx:=(acj.1 hj).1
       rw[adL,if_pos (by rw[hlen] at sx;exact sx),ad5] at hj
       simpa using hj)
   rw[hlen] at hl
   simp only[loadVar,Sem.run_bind,ht.isAgg,adr,Result.andThen_ok,if_true,ht.sizeOf,hl,Sem.run_pure]
theorem rN (hL:L.OK) {v:V} (ht:TG P L ty v.ty) {o:Nat} {us:List Value} (hr:RC L c v ((us.drop o).take (L.aD v.ty))):
 ∃u,(part ty us.toArray o).run P w= .ok u w∧RV L c v u:=by
 have hlen:=q22z hL v _ hr
 cases hv:v.ty with
 | none=>
   rw[hv] at hlen hr ht
   simp only[cG.aD] at hlen hr
   obtain ⟨u,hu⟩:=afG.1 hlen
   have h0:us[o]? =some u:=by
     have:((us.drop o).take 1)[0]? =some u:=by rw[hu];rfl
     simpa using this
   refine ⟨u,?_,⟨_,hr,(mn hv).2 hu⟩⟩
   simp only[part,Sem.run_bind,ht.isAgg,adF,Result.andThen_ok,acz,if_false]
   have:us.toArray[o]? =some u:=by simpa using h0
   rw[this];rfl
 | some t=>
   rw[hv] at hlen hr ht
   refine ⟨.agg ((us.drop o).take (L.aD (some t))).toArray,?_,⟨_,hr,(mo hv).2 rfl⟩⟩
   simp only[part,Sem.run_bind,ht.isAgg,adr,Result.andThen_ok,if_true,ht.sizeOf,Sem.run_pure]
   congr 2
   apply aef
   simp[List.extract]
theorem RV.cells {v:V} {u:Value} (fy:v.aA=true) (hv:RV L c v u):RC L c v u.cells.toList∧wr v u.cells.toList u:=by
 obtain ⟨us,h1,h2⟩:=hv
 cases ht:v.ty with
 | none=>
   have h3:=(mn ht).1 h2
   subst h3
   have h4:=ed v fy _ h1 u (by simp)
   cases u <;> first | (simp[Value.oneCell'] at h4;done) | exact ⟨h1,by rw[mn ht];rfl⟩
 | some t=>
   have h3:=(mo ht).1 h2
   subst h3
   exact ⟨by simpa[Value.cells] using h1,by rw[mo ht];simp[Value.cells]⟩
theorem mN (hL:L.OK) {v:V} (ht:TG P L ty v.ty) {u:Value} (fy:v.aA=true) (hv:RV L c v u) {b o:Nat} {us:Array Value} {e:TypeId} {fz:Nat×Nat} (hg:w.heap[b]? =some (.cells us e fz))
 (dt:∀j,j < us.size→¬(fz.1≤j∧j < fz.2)) (hle:o+L.aD v.ty≤us.size):
 (storeVar ty ⟨b,o,none⟩ u).run P w= .ok () (w.setCells b o u.cells.toList):=by
 obtain ⟨h1,h2⟩:=hv.cells fy
 have hlen:=q22z hL v _ h1
 simp at hlen
 have xR:=ed v fy _ h1
 have:=run_storeCells_cells (P:=P) b o u.cells.toList 0 w
   (fun j hj=> by rw[q15z hg];simp at hj ⊢;omega)
   (fun j hj=> eN hg dt (by simp at hj;omega)) xR
 simp only[storeVar,Sem.run_bind,ht.sizeOf,Result.andThen_ok,hlen]
 simpa using this
theorem RV.aW (hL:L.OK) {v:V} {u:Value} (fy:v.aA=true) (hv:RV L c v u):u.cells.toList.length=L.aD v.ty:=q22z hL v _ (hv.cells fy).1
theorem Fy {g:Option Nat} {i:Nat}:∀ {p:List Nat} {o:Nat} {g':Option Nat} {r:Nat×Option Nat},L.walk g p=some (o,g')→L.walk g' [i]=some r→L.walk g (p++[i])=some (o+r.1,r.2):=by
 intro p
 induction p generalizing g with
 | nil=> intro o g' r h1 h2;simp only[cG.walk,Option.some.injEq,Prod.mk.injEq] at h1;obtain ⟨rfl,rfl⟩:=h1;simpa using h2
 | cons j p ih=>
   intro o g' r h1 h2
   cases g with
   | none=> simp[cG.walk] at h1
   | some t=>
     simp only[ade,cG.walk] at h1 ⊢
     cases hf:L.fields t with
     | some fs=>
       simp only[hf] at h1 ⊢
       cases hj:fs[j]? with
       | none=> simp[hj] at h1
       | some x=>
         simp only[hj] at h1 ⊢
         obtain ⟨⟨o1,g1⟩,h3,h4⟩:=ach.1 h1
         simp only[Prod.mk.injEq] at h4
         obtain ⟨rfl,rfl⟩:=h4
         rw[ih h3 h2]
         simp[aek]
     | none=>
       simp only[hf] at h1 ⊢
       cases ha:L.arr t with
       | none=> simp[ha] at h1
       | some ne=>
         obtain ⟨n,e⟩:=ne
         simp only[ha] at h1 ⊢
         by_cases hjn:j < n
         ·simp only[if_pos hjn] at h1 ⊢
          obtain ⟨⟨o1,g1⟩,h3,h4⟩:=ach.1 h1
          simp only[Prod.mk.injEq] at h4
          obtain ⟨rfl,rfl⟩:=h4
          rw[ih h3 h2]
          simp[aek]
         ·simp[hjn] at h1
theorem uD {g g':Option Nat} {i j:Nat} {p:List Nat} {o:Nat} {r:Nat×Option Nat} (h1:L.off g (j::p)=some o) (h3:∃o',L.walk g p=some (o',g')) (h2:L.walk g' [i]=some r):L.off g (j::p++[i])=some (o+r.1):=by
 obtain ⟨o',h3⟩:=h3
 simp only[cG.off,h3,acO,Option.some.injEq] at h1
 subst h1
 simp only[ade,cG.off,Fy h3 h2,acO,aek]
theorem BS {t i:Nat} {fs:List (Option Nat)} {x:Option Nat} (hf:L.fields t=some fs) (hi:fs[i]? =some x):L.walk (some t) [i]=some (((fs.take i).map L.aD).sum,x):=by
 simp[cG.walk,hf,hi]
theorem wK (hL:L.OK) {t i n:Nat} {e:Option Nat} (ha:L.arr t=some (n,e)) (hi:i < n):L.walk (some t) [i]=some (i * L.aD e,e):=by
 simp[cG.walk,hL.no _ _ ha,ha,hi]
theorem bp.nodeAt (hL:L.OK) (hs:bp L c h w) {id aB:Nat} {path:List Nat} {v:V} (hn:Vm.node h id path aB=some v):
 ∃l j p o us e fz,path=j::p∧c.loc id=some l∧l.aB=aB∧L.off l.tag path=some o∧(∃o',L.walk l.tag p=some (o',v.ty))∧w.heap[l.bE]? =some (.cells us e fz)∧c.z l.bE=none∧
  (∀j,j < us.size→¬(fz.1≤j∧j < fz.2))∧o+L.aD v.ty≤us.size∧RC L c v ((us.toList.drop o).take (L.aD v.ty)):=by
 obtain ⟨l,o,us,e,fz,hl,cO,jb,hg,dt,hle,hr⟩:=hs.node hL hn
 obtain ⟨k,hk,hz,_⟩:=hs.loc id l hl
 have vO:=hn
 unfold Vm.node at vO
 split at vO
 ·rename_i g es i p cE
  obtain ⟨l',dF,_,cD,_,_,_,_,cY,us',ty',fz',Hs,acb,_,gk⟩:=hs.row cE
  rw[hl] at dF;cases dF
  split at vO
  ·rename_i x hx
   have h1:=da hL gk (fun y hy=>(cY y hy).1) hx
   obtain ⟨o',h2,_⟩:=wJ hL p x v _ h1 vO
   have AE:x.ty=g:=(cY x (acw hx)).1
   exact ⟨l,i,p,o,us,e,fz,rfl,hl,cO,jb,⟨o',by rw[cD,←AE];exact h2⟩,hg,hz,dt,hle,hr⟩
  ·cases vO
 ·cases vO
end Go.Vm
namespace Go.Vm
variable {P : Program} {L : cG} {c : Ctx} {h : Hp} {w : World}
def aN (L:cG) (c:Ctx) (w:World) (r:Result Value) (v:V) (h':Hp):Prop:=
 ∃u c' w',r= .ok u w'∧RV L c' v u∧bp L c' h' w'∧c.le c'∧St w w'
theorem aN.same {r:Result Value} {v:V} {u:Value} (hr:r= .ok u w) (hv:RV L c v u) (hs:bp L c h w):aN L c w r v h:=
 ⟨u,c,w,hr,hv,hs,Ctx.le_refl c,St.refl w⟩
theorem uE {id:Nat} {path:List Nat} {aB:Nat} {u:Value}:RV L c (.ptr id path aB) u↔∃a,u= .pointer (some a)∧id < c.n∧
 ∀l,c.loc id=some l→aB≤l.aB∧(l.aB=aB→∃o,L.off l.tag path=some o∧a=⟨l.bE,o,none⟩):=by
 rw[eD rfl]
 simp only[RC,List.cons.injEq,and_true]
theorem gL {v:V} {u:Value}:RV L c (.eb v) u↔∃b off cs ty fz,u= .pointer (some ⟨b,off,none⟩)∧c.z b=some (.cells cs ty fz)∧RC L c v (og cs off (L.aD v.ty)):=by
 rw[eD rfl]
 simp only[RC,List.cons.injEq,and_true]
theorem bF {x u:Value}:RV L c (.s x) u↔u=x∧x.oneCell'=true:=by
 rw[eD rfl]
 simp only[RC,List.cons.injEq,and_true]
theorem jO {id aB:Nat} {path:List Nat} {u:Value} {l:Loc} {o:Nat} (hp:RV L c (.ptr id path aB) u) (hl:c.loc id=some l) (ht:l.aB=aB) (ho:L.off l.tag path=some o):u= .pointer (some ⟨l.bE,o,none⟩):=by
 obtain ⟨a,hu,_,bV⟩:=uE.1 hp
 obtain ⟨_,hx⟩:=bV l hl
 obtain ⟨o',h1,h2⟩:=hx ht
 rw[ho] at h1;cases h1
 rw[hu,h2]
theorem uF (hs:bp L c h w) {id aB:Nat} {path:List Nat} {l:Loc} {o:Nat} (hl:c.loc id=some l) (ht:l.aB=aB) (ho:L.off l.tag path=some o):RV L c (.ptr id path aB) (.pointer (some ⟨l.bE,o,none⟩)):=by
 refine uE.2 ⟨_,rfl,hs.PC hl,fun l' dF=> ?_⟩
 rw[hl] at dF;cases dF
 exact ⟨by omega,fun _=>⟨o,ho,rfl⟩⟩
theorem Y2 (hL:L.OK) (hs:bp L c h w) {T t i:Nat} {fields:Array Field} {f:Field} {gs:List (Option Nat)} (hu:P.underlying T=some (.struct fields)) (hf:fields[i]? =some f)
 (cU:P.cellsOf f.type≠0) (je:L.fields t=some gs) (jb:f.offset=((gs.take i).map L.aD).sum) {x:V} {ux:Value} (hx:RV L c x ux) {v:V} {h':Hp}
 (ai:Fx h t i x=some (v,h')):aN L c w ((Instr.fieldAt T ux i).run P w) v h':=by
 have Y3:∃j,P.info? f.type=some j∧j.size≠0:=by
   cases hj:P.info? f.type with
   | none=> simp[Program.cellsOf,hj] at cU
   | some j=> exact ⟨j,rfl,by simpa[Program.cellsOf,hj] using cU⟩
 obtain ⟨j,hj,hj0⟩:=Y3
 have bo:∀b o,(Instr.fieldAt T (.pointer (some ⟨b,o,none⟩)) i).run P w= .ok (.pointer (some ⟨b,o+f.offset,none⟩)) w:=by
   intro b o
   simp[Instr.fieldAt,underlying,hu,hf,Instr.sureAddr,fieldPlace,Go.sizeOf,typeInfo,hj,hj0,eV]
 simp only[Fx] at ai
 split at ai
 ·rename_i id path aB
  split at ai
  ·rename_i t' fs hn
   split at ai
   ·rename_i hc
    obtain ⟨rfl,hi⟩:=hc
    simp only[Option.some.injEq,Prod.mk.injEq] at ai
    obtain ⟨rfl,rfl⟩:=ai
    obtain ⟨l,j',p,o,us,e,fz,rfl,hl,ht,ho,mI,hg,hz,dt,hle,hr⟩:=hs.nodeAt hL hn
    have Fz:=jO hx hl ht ho
    subst Fz
    have abn:i < gs.length:=by
      simp only[RC] at hr
      have:=hr.2.1
      rw[je] at this
      simp only[Option.some.injEq] at this
      rw[this];simpa using hi
    have h1:=uD (i:=i) ho mI (BS je (aci abn))
    rw[bo,jb]
    exact aN.same rfl (uF hs hl ht h1) hs
   ·cases ai
  ·cases ai
 ·rename_i t' fs
  split at ai
  ·rename_i hc;subst hc
   obtain ⟨y,hy,he⟩:=ach.1 ai
   simp only[Prod.mk.injEq] at he
   obtain ⟨rfl,rfl⟩:=he
   obtain ⟨b,off,cs,ty,fz,rfl,hz,hr⟩:=gL.1 hx
   simp only[RC] at hr
   obtain ⟨hr,hf',fy⟩:=hr
   rw[je] at hf'
   simp only[Option.some.injEq] at hf'
   have h1:=oh hL hr hy
   have h2:=jN hL hr hy
   have xQ:((fs.take i).map fun v=> L.aD v.ty).sum=f.offset:=by
     rw[jb,hf',←List.map_take,adA];rfl
   rw[xQ] at h1 h2
   rw[bo]
   refine aN.same rfl (gL.2 ⟨b,off+f.offset,cs,ty,fz,rfl,hz,?_⟩) hs
   simp only[og] at h1 h2 ⊢
   rw[adM,ads,adn] at h1
   rw[acI] at h2
   rwa [acZ (by simp only[V.ty] at h2 ⊢;omega)] at h1
  ·cases ai
 ·cases ai
theorem Sn (hL:L.OK) (hs:bp L c h w) {T t i:Nat} {fields:Array Field} {f:Field} {gs:List (Option Nat)} {g:Option Nat} (hu:P.underlying T=some (.struct fields)) (hf:fields[i]? =some f)
 (je:L.fields t=some gs) (hg:gs[i]? =some g) (j1:TG P L f.type g) (jb:f.offset=((gs.take i).map L.aD).sum) {x:V} {ux:Value} (hx:RV L c x ux) {v:V} {h':Hp}
 (ai:uo h t i x=some (v,h')):aN L c w ((Instr.field T ux i).run P w) v h':=by
 simp only[uo] at ai
 split at ai
 ·rename_i t' fs
  split at ai
  case isFalse=> cases ai
  rename_i hc
  subst hc
  obtain ⟨y,hy,he⟩:=ach.1 ai
  simp only[Prod.mk.injEq] at he
  obtain ⟨rfl,rfl⟩:=he
  obtain ⟨us,rfl,hr⟩:=(fN rfl).1 hx
  simp only[RC] at hr
  obtain ⟨hr,hf',fy⟩:=hr
  rw[je] at hf'
  simp only[Option.some.injEq] at hf'
  have DB:y.ty=g:=by
    rw[hf',acv,hy] at hg
    simpa using hg
  have h1:=oh hL hr hy
  have xQ:((fs.take i).map fun v=> L.aD v.ty).sum=f.offset:=by
    rw[jb,hf',←List.map_take,adA];rfl
  rw[xQ] at h1
  obtain ⟨u,bo,hv⟩:=rN (P:=P) (w:=w) hL (by rw[DB];exact j1) h1
  refine aN.same (u:=u) ?_ hv hs
  simp[Instr.field,underlying,hu,hf,asAgg,bo]
 ·cases ai
theorem jP {y:V} {i:Int} (hn:numOf y=some i) {u:Value} (hy:RV L c y u):∃k,u= .int k i:=by
 unfold numOf at hn
 split at hn
 ·rename_i k n
  simp only[Option.some.injEq] at hn
  subst hn
  exact ⟨k,(bF.1 hy).1⟩
 ·cases hn
theorem o7 {id:Nat} {path:List Nat} {g:Option Nat} {off len aB:Nat} {u:Value}:RV L c (.ref id path g off len aB) u↔∃a k,u= .slice (some a) len k∧id < c.n∧len≤k∧
 ∀l,c.loc id=some l→aB≤l.aB∧(l.aB=aB→∃o m,L.row l.tag path=some (o,g,m)∧a=⟨l.bE,o+off * L.aD g,none⟩∧fp m off len aB k l.cap):=by
 rw[eD rfl]
 simp only[RC,List.cons.injEq,and_true]
theorem dh {full:Bool} {g:Option Nat} {es:List V} {u:Value}:RV L c (.al full g es) u↔∃a k,u= .slice a es.length k∧es.length≤k∧(full=true→k=es.length)∧(∀e∈es,e.ty=g∧e.aA=true)∧
 (es=[]∨∃b off cs ty fz,a=some ⟨b,off,none⟩∧c.z b=some (.cells cs ty fz)∧cB L c es (og cs off (es.length * L.aD g))):=by
 rw[eD rfl]
 simp only[RC,List.cons.injEq,and_true]
theorem bp.rowAt (hL:L.OK) (hs:bp L c h w) {id aB:Nat} {path:List Nat} {es:List V} (hn:Vm.rowAt h id path aB=some es):
 ∃l o e m us ty fz,c.loc id=some l∧l.aB=aB∧L.row l.tag path=some (o,e,m)∧w.heap[l.bE]? =some (.cells us ty fz)∧c.z l.bE=none∧(∀j,j < us.size→¬(fz.1≤j∧j < fz.2))∧
  o+es.length * L.aD e≤us.size∧cB L c es ((us.toList.drop o).take (es.length * L.aD e))∧(∀x∈es,x.ty=e∧x.aA=true)∧
  (m=none→es.length=aB∧path=[]∧o=0∧e=l.tag∧us.size=l.cap * L.aD e∧aB≤l.cap)∧(∀n,m=some n→n=es.length)∧(∀i,i < es.length→L.off l.tag (path++[i])=some (o+i * L.aD e)):=by
 unfold Vm.rowAt at hn
 split at hn
 ·obtain ⟨⟨g,es'⟩,hr,he⟩:=ach.1 hn
  simp only at he
  subst he
  obtain ⟨l,hl,cO,cD,hz,_,hle,gF,cY,us,ty,fz,hg,cU,dt,gk⟩:=hs.row hr
  have hlen:=(q16z hr).2
  have hc:es'.length * L.aD g≤l.cap * L.aD g:=acE _ gF
  refine ⟨l,0,g,none,us,ty,fz,hl,cO,by simp[cG.row,cD],hg,hz,dt.1,by omega,by simpa using gk,cY,fun _=>⟨hlen,rfl,rfl,cD.symm,cU,by omega⟩,fun n hn=> by simp at hn,fun i hi=> ?_⟩
  simp[cG.off,cG.walk,cD]
 ·rename_i cC
  split at hn
  ·rename_i t es' oU
   simp only[Option.some.injEq] at hn
   subst hn
   obtain ⟨l,j,p,o,us,ty,fz,rfl,hl,cO,jb,⟨o',mI⟩,hg,hz,dt,hle,hr⟩:=hs.nodeAt hL oU
   simp only[RC] at hr
   obtain ⟨hr,e,ha,cY⟩:=hr
   have cU:L.aD (V.ty (.arr t es'))=es'.length * L.aD e:=by simp[V.ty,cG.aD,hL.ar _ _ _ ha]
   rw[cU] at hr hle
   have Kf:o=j * L.aD l.tag+o':=by
     simp only[cG.off,mI,acO,Option.some.injEq] at jb
     omega
   refine ⟨l,o,e,some es'.length,us,ty,fz,hl,cO,?_,hg,hz,dt,hle,hr,cY,fun hm=> by simp at hm,fun n hn=> by simpa using hn.symm,fun i hi=> ?_⟩
   ·simp only[cG.row,mI,V.ty,ha,acO,Kf]
   ·exact uD jb ⟨o',mI⟩ (wK hL ha hi)
  ·cases hn
theorem dU {id aB off len:Nat} {path:List Nat} {g:Option Nat} {u:Value} {l:Loc} {o:Nat} {e:Option Nat} {m:Option Nat} (hp:RV L c (.ref id path g off len aB) u) (hl:c.loc id=some l) (ht:l.aB=aB) (ho:L.row l.tag path=some (o,e,m)):
 e=g∧∃k,u= .slice (some ⟨l.bE,o+off * L.aD g,none⟩) len k∧len≤k∧fp m off len aB k l.cap:=by
 obtain ⟨a,k,hu,_,mR,bV⟩:=o7.1 hp
 obtain ⟨_,hx⟩:=bV l hl
 obtain ⟨o',m',h1,h2,h3⟩:=hx ht
 rw[ho] at h1
 simp only[Option.some.injEq,Prod.mk.injEq] at h1
 obtain ⟨rfl,rfl,rfl⟩:=h1
 exact ⟨rfl,k,by rw[hu,h2],mR,h3⟩
theorem nC (hs:bp L c h w) {id aB off len k:Nat} {path:List Nat} {l:Loc} {o:Nat} {e:Option Nat} {m:Option Nat} (hl:c.loc id=some l) (ht:l.aB=aB) (ho:L.row l.tag path=some (o,e,m)) (mR:len≤k)
 (hm:fp m off len aB k l.cap):RV L c (.ref id path e off len aB) (.slice (some ⟨l.bE,o+off * L.aD e,none⟩) len k):=by
 refine o7.2 ⟨_,k,rfl,hs.PC hl,mR,fun l' dF=> ?_⟩
 rw[hl] at dF;cases dF
 exact ⟨by omega,fun _=>⟨o,m,ho,rfl,hm⟩⟩
theorem So (hL:L.OK) (hs:bp L c h w) {T t n:Nat} {el:TypeId} {e:Option Nat} (hu:P.underlying T=some (.array n el)) (cm:TG P L el e) (ha:L.arr t=some (n,e))
 {x y:V} {ux uy:Value} (hx:RV L c x ux) (hy:RV L c y uy) {v:V} {h':Hp} (ai:wx h t x y=some (v,h')):aN L c w ((Instr.indexAt T ux uy).run P w) v h':=by
 have bo:∀b o k (i:Int),0≤i→i < n→(Instr.indexAt T (.pointer (some ⟨b,o,none⟩)) (.int k i)).run P w= .ok (.pointer (some ⟨b,o+i.toNat * L.aD e,none⟩)) w:=by
   intro b o k i h0 h1
   simp only[Instr.indexAt,asIntOf,underlying,Sem.run_bind,Sem.run_pure,Result.andThen_ok,run_program,hu,Instr.sureAddr,if_pos (And.intro h0 h1),cm.sizeOf,eV]
 simp only[wx] at ai
 split at ai
 case h_2=> cases ai
 rename_i i hi
 obtain ⟨k,rfl⟩:=jP hi hy
 split at ai
 ·rename_i id path aB
  split at ai
  ·rename_i t' es hn
   split at ai
   ·rename_i hc
    obtain ⟨rfl,h0,h1⟩:=hc
    simp only[Option.some.injEq,Prod.mk.injEq] at ai
    obtain ⟨rfl,rfl⟩:=ai
    obtain ⟨l,j',p,o,us,ty,fz,rfl,hl,ht,ho,mI,hg,hz,dt,hle,hr⟩:=hs.nodeAt hL hn
    have Fz:=jO hx hl ht ho
    subst Fz
    simp only[RC] at hr
    obtain ⟨e',pI,_⟩:=hr.2
    rw[ha] at pI
    simp only[Option.some.injEq,Prod.mk.injEq] at pI
    obtain ⟨vO,rfl⟩:=pI
    have h2:=uD (i:=i.toNat) ho mI (wK hL ha (by omega))
    rw[bo _ _ _ _ h0 (by omega)]
    exact aN.same rfl (uF hs hl ht h2) hs
   ·cases ai
  ·cases ai
 ·rename_i t' es
  split at ai
  ·rename_i hc
   obtain ⟨rfl,h0,h1⟩:=hc
   obtain ⟨y,Ht,he⟩:=ach.1 ai
   simp only[Prod.mk.injEq] at he
   obtain ⟨rfl,rfl⟩:=he
   obtain ⟨b,off,cs,ty,fz,rfl,hz,hr⟩:=gL.1 hx
   simp only[RC] at hr
   obtain ⟨hr,e',pI,cY⟩:=hr
   rw[ha] at pI
   simp only[Option.some.injEq,Prod.mk.injEq] at pI
   obtain ⟨vO,rfl⟩:=pI
   have h2:=da hL hr (fun z hz=>(cY z hz).1) Ht
   have h3:=dq hL hr (fun z hz=>(cY z hz).1) Ht
   have Hr:y.ty=e:=(cY y (acw Ht)).1
   rw[bo _ _ _ _ h0 (by omega)]
   refine aN.same rfl (gL.2 ⟨b,off+i.toNat * L.aD e,cs,ty,fz,rfl,hz,?_⟩) hs
   simp only[og] at h2 h3 ⊢
   rw[adM,ads,adn] at h2
   rw[acI] at h3
   rw[Hr]
   rwa [acZ (by simp only[V.ty] at h3 ⊢;omega)] at h2
  ·cases ai
 ·cases ai
theorem Sp (hL:L.OK) (hs:bp L c h w) {T:Nat} {el:TypeId} {g:Option Nat} (hu:P.underlying T=some (.slice el)) (cm:TG P L el g)
 {x y:V} {ux uy:Value} (hx:RV L c x ux) (hy:RV L c y uy) {v:V} {h':Hp} (ai:wy h g x y=some (v,h')):aN L c w ((Instr.indexAt T ux uy).run P w) v h':=by
 have bo:∀b o n cp k (i:Int),0≤i→i <(n:Nat)→(Instr.indexAt T (.slice (some ⟨b,o,none⟩) n cp) (.int k i)).run P w= .ok (.pointer (some ⟨b,o+i.toNat * L.aD g,none⟩)) w:=by
   intro b o n cp k i h0 h1
   simp only[Instr.indexAt,asIntOf,underlying,Sem.run_bind,Sem.run_pure,Result.andThen_ok,run_program,hu,if_pos (And.intro h0 h1),cm.sizeOf,eV]
 simp only[wy] at ai
 split at ai
 case h_2=> cases ai
 rename_i i hi
 obtain ⟨k,rfl⟩:=jP hi hy
 split at ai
 ·rename_i id path g' off len aB
  split at ai
  case h_2=> cases ai
  rename_i es cE
  split at ai
  case isFalse=> cases ai
  rename_i hc
  obtain ⟨rfl,h0,h1,bR⟩:=hc
  simp only[Option.some.injEq,Prod.mk.injEq] at ai
  obtain ⟨rfl,rfl⟩:=ai
  obtain ⟨l,o,e,m,us,ty,fz,hl,ht,pf,hg,hz,dt,hle,hr,cY,kI,pK,jb⟩:=hs.rowAt hL cE
  obtain ⟨rfl,kk,rfl,mR,hm⟩:=dU hx hl ht pf
  rw[bo _ _ _ _ _ _ h0 (by omega)]
  have h2:=jb (off+i.toNat) bR
  rw[adG,←Nat.add_assoc] at h2
  exact aN.same rfl (uF hs hl ht h2) hs
 ·rename_i full g' es
  split at ai
  case isFalse=> cases ai
  rename_i hc
  obtain ⟨rfl,h0⟩:=hc
  obtain ⟨y',Ht,he⟩:=ach.1 ai
  simp only[Prod.mk.injEq] at he
  obtain ⟨rfl,rfl⟩:=he
  have bR:=(acj.1 Ht).1
  obtain ⟨a,kk,rfl,mR,DC,cY,gq⟩:=dh.1 hx
  rcases gq with rfl | ⟨b,off,cs,ty,fz,rfl,hz,hr⟩
  ·simp at bR
  have DB:=(cY y' (acw Ht)).1
  have h2:=da hL hr (fun z hz=>(cY z hz).1) Ht
  have h3:=dq hL hr (fun z hz=>(cY z hz).1) Ht
  rw[bo _ _ _ _ _ _ h0 (by omega)]
  refine aN.same rfl (gL.2 ⟨b,off+i.toNat * L.aD g',cs,ty,fz,rfl,hz,?_⟩) hs
  simp only[og] at h2 h3 ⊢
  rw[adM,ads,adn] at h2
  rw[acI] at h3
  rw[DB]
  rwa [acZ (by omega)] at h2
 ·cases ai
theorem Sq (hL:L.OK) (hs:bp L c h w) {T t n:Nat} {el:TypeId} {e:Option Nat} (hu:P.underlying T=some (.array n el)) (cm:TG P L el e) (ha:L.arr t=some (n,e))
 {x y:V} {ux uy:Value} (hx:RV L c x ux) (hy:RV L c y uy) {v:V} {h':Hp} (ai:rE h t x y=some (v,h')):aN L c w ((Instr.index T ux uy).run P w) v h':=by
 simp only[rE] at ai
 split at ai
 case h_2=> cases ai
 rename_i t' es i hi
 obtain ⟨k,rfl⟩:=jP hi hy
 split at ai
 case isFalse=> cases ai
 rename_i hc
 obtain ⟨rfl,h0⟩:=hc
 obtain ⟨y',Ht,he⟩:=ach.1 ai
 simp only[Prod.mk.injEq] at he
 obtain ⟨rfl,rfl⟩:=he
 obtain ⟨us,rfl,hr⟩:=(fN rfl).1 hx
 simp only[RC] at hr
 obtain ⟨hr,e',pI,cY⟩:=hr
 rw[ha] at pI
 simp only[Option.some.injEq,Prod.mk.injEq] at pI
 obtain ⟨vO,rfl⟩:=pI
 have bR:=(acj.1 Ht).1
 have h2:=da hL hr (fun z hz=>(cY z hz).1) Ht
 have Hr:y'.ty=e:=(cY y' (acw Ht)).1
 obtain ⟨u,bo,hv⟩:=rN (P:=P) (w:=w) hL (ty:=el) (v:=y') (by rw[Hr];exact cm) (by rw[Hr];exact h2)
 refine aN.same (u:=u) ?_ hv hs
 simp only[Instr.index,asIntOf,underlying,Sem.run_bind,Sem.run_pure,Result.andThen_ok,run_program,hu,if_pos (And.intro h0 (show i <(n:Int) by omega)),cm.sizeOf,bo]
theorem PD (hL:L.OK) (hs:bp L c h w) {T:Nat} {g:Option Nat} (hT:TG P L T g) {x:V} {ux:Value} (hx:RV L c x ux) {v:V} {h':Hp} (ai:sj h g x=some (v,h')):
 aN L c w ((Instr.loadAt T ux).run P w) v h':=by
 simp only[sj] at ai
 split at ai
 ·rename_i id path aB
  split at ai
  case h_2=> cases ai
  rename_i y hn
  split at ai
  case isFalse=> cases ai
  rename_i DB
  simp only[Option.some.injEq,Prod.mk.injEq] at ai
  obtain ⟨rfl,rfl⟩:=ai
  obtain ⟨l,o,us,ty,fz,hl,ht,ho,hg,dt,hle,hr⟩:=hs.node hL hn
  have Fz:=jO hx hl ht ho
  subst Fz
  obtain ⟨u,bo,hv⟩:=gK (P:=P) hL (ty:=T) (by rw[DB];exact hT) hg hr
  exact aN.same (by simpa[Instr.loadAt,Instr.sureAddr] using bo) hv hs
 ·rename_i y
  split at ai
  case isFalse=> cases ai
  rename_i DB
  simp only[Option.some.injEq,Prod.mk.injEq] at ai
  obtain ⟨rfl,rfl⟩:=ai
  obtain ⟨b,off,cs,ty,fz,rfl,hz,hr⟩:=gL.1 hx
  obtain ⟨u,bo,hv⟩:=gK (P:=P) hL (ty:=T) (by rw[DB];exact hT) (hs.z _ _ hz) hr
  exact aN.same (by simpa[Instr.loadAt,Instr.sureAddr] using bo) hv hs
 ·cases ai
end Go.Vm
namespace Go.Vm
variable {P : Program} {L : cG} {c : Ctx} {h : Hp} {w : World}
theorem vt {es:List V} {i:Nat} {x:V} {g:Option Nat} (cY:∀y∈es,y.ty=g∧y.aA=true) (hx:x.ty=g∧x.aA=true):∀y∈es.set i x,y.ty=g∧y.aA=true:=fun y hy=> by
 rcases adj hy with hy | rfl
 ·exact cY y hy
 ·exact hx
theorem DD (hL:L.OK) (hs:bp L c h w) {id:Nat} {path:List Nat} {aB:Nat} {db y:V} {h1:Hp} (hn:Vm.node h id path aB=some db) (aR:Vm.store h id path aB y=some h1) {ys:List Value} (hyr:RC L c y ys) (fy:y.aA=true) (dw:y.ty=db.ty)
 {l:Loc} {o:Nat} {us:Array Value} {ty:TypeId} {fz:Nat×Nat} (hl:c.loc id=some l) (ho:L.off l.tag path=some o) (hg:w.heap[l.bE]? =some (.cells us ty fz)) (dt:∀j,j < us.size→¬(fz.1≤j∧j < fz.2)) (hle:o+L.aD db.ty≤us.size)
 {w':World} (jQ:w'.heap[l.bE]? =some (.cells (lay us.toList o ys).toArray ty fz)) (R5:∀k,k≠l.bE→w'.heap[k]? =w.heap[k]?):bp L c h1 w':=by
 have hlen:ys.length=L.aD y.ty:=q22z hL y ys hyr
 unfold Vm.store at aR
 unfold Vm.node at hn
 split at aR
 case h_2=> cases aR
 rename_i g' es i p cE
 split at aR
 case h_2=> cases aR
 rename_i e he
 obtain ⟨e',hpe,rfl⟩:=ach.1 aR
 simp only[cE,he] at hn
 obtain ⟨l',dF,cO,cD,hz,j1,htt,gF,cY,us',ty',fz',Hs,cU,abo,gk⟩:=hs.row cE
 rw[hl] at dF;cases dF
 rw[hg] at Hs
 simp only[Option.some.injEq,Obj.cells.injEq] at Hs
 obtain ⟨rfl,rfl,rfl⟩:=Hs
 have zk:=fun z hz=>(cY z hz).1
 have heg:e.ty=g':=zk e (acw he)
 have r1:=da hL gk zk he
 have r1le:=dq hL gk zk he
 obtain ⟨o',h2,h3,h4,h5,h6⟩:=Ke hL hyr fy p e e' db _ r1 hn hpe dw
 have jb:o=i * L.aD g'+o':=by
   simp only[cG.off,cD,←heg,h2,acO,Option.some.injEq] at ho
   rw[←heg];omega
 have PE:=q22z hL e _ r1
 have acd:=(acj.1 he).1
 have hb:(i+1)* L.aD g'≤es.length * L.aD g':=acE _ (by omega)
 rw[adG,ae3] at hb
 have gM:es.length * L.aD g'≤l.cap * L.aD g':=acE _ gF
 have xQ:((es.take i).map fun v=> L.aD v.ty).sum=i * L.aD g':=dV es _ _ i (fun z hz=> by rw[zk z hz]) (by omega)
 have mf:=sP hL h3 es _ i e gk he h4
 rw[xQ] at mf
 have Y4:lay (us.toList.take (es.length * L.aD g')) (i * L.aD g') (lay ((us.toList.take (es.length * L.aD g')).drop (i * L.aD g') |>.take (L.aD g')) o' ys)=(lay us.toList o ys).take (es.length * L.aD g'):=by
   rw[heg] at PE
   rw[PE,hlen,dw] at h5
   rw[←sO _ _ _ (L.aD g') o' (by simp;omega) (by rw[hlen,dw];exact h5),←jb]
   exact (nB _ _ _ _ (by rw[hlen,dw];omega) (by simp;omega)).symm
 rw[Y4] at mf
 have qo:(lay us.toList o ys).length=us.size:=by rw[ei _ _ _ (by rw[hlen,dw];simpa using hle)];simp
 have hmv:c.move id l=c:=by
   cases c with
   | mk z loc n=>
     simp only[Ctx.move]
     congr
     funext j
     by_cases hj:j=id
     ·subst hj;simp only[if_true];exact hl.symm
     ·simp[hj]
 have:=hs.move (l':=l) hl (w':=w') (.cells g' (es.set i e')) (by rw[hmv];exact Ctx.le_refl c) hz (.inl rfl)
   (fun b hb sI=> R5 b sI) (fun o' kP=> by rw[hz] at kP;cases kP)
   (by
     rw[hmv]
     refine ⟨cD,by simp[htt],by simpa using gF,vt cY ⟨by rw[h4,heg],h6⟩,_,ty,fz,jQ,by simp[qo,cU],⟨fun j hj=> dt j (by simpa[qo] using hj),abo.2⟩,by simpa using mf⟩)
 rw[hmv] at this
 exact this
theorem Sr (hL:L.OK) (hs:bp L c h w) {T:Nat} {g:Option Nat} (hT:TG P L T g) {x y:V} {ux uy:Value} (hx:RV L c x ux) (hy:RV L c y uy) {base:Nat} {v:V} {h':Hp} (ai:zr base h g x y=some (v,h')):
 ∃w',(Instr.storeAt T ux uy).run P w= .ok () w'∧v= .bP []∧bp L c h' w'∧St w w':=by
 simp only[zr] at ai
 split at ai
 case h_2=> cases ai
 rename_i id path aB
 split at ai
 case h_2=> cases ai
 rename_i db hn
 split at ai
 case isFalse=> cases ai
 rename_i hc
 obtain ⟨hog,DB,fy,gj⟩:=hc
 obtain ⟨h1,aR,he⟩:=ach.1 ai
 simp only[Prod.mk.injEq] at he
 obtain ⟨rfl,rfl⟩:=he
 obtain ⟨l,o,us,ty,fz,hl,ht,ho,hg,dt,hle,hr⟩:=hs.node hL hn
 have Fz:=jO hx hl ht ho
 subst Fz
 have dw:y.ty=db.ty:=by rw[DB,hog]
 have bo:=mN (P:=P) hL (ty:=T) (by rw[DB];exact hT) fy hy hg dt (by rw[dw];exact hle)
 have iq:=hy.cells fy
 have hlen:=hy.aW hL fy
 refine ⟨w.setCells l.bE o uy.cells.toList,by simpa[Instr.storeAt,Instr.sureAddr] using bo,rfl,?_,St.setCells _ _ _ _⟩
 exact DD hL hs hn aR iq.1 fy dw hl ho hg dt hle (dI l.bE ty fz uy.cells.toList o us w hg (by rw[hlen,dw];exact hle)) (fun k hk=> q13z l.bE _ _ _ k hk)
theorem jR (hL:L.OK) (hs:bp L c h w) {g:Option Nat} {es:List V} {us:List Value} (hr:cB L c es us) (cY:∀x∈es,x.ty=g∧x.aA=true) (cap:Nat) (extra:List Value) (gF:us.length+extra.length=cap * L.aD g) (hle:es.length≤cap)
 (ty:TypeId) (fz:Nat×Nat) (dt:J7 g (us++extra).length fz):
 ∃l,l.bE=w.heap.size∧l.cap=cap∧l.tag=g∧l.aB=es.length∧bp L (c.push l) (h++[.cells g es]) (w.alloc (.cells (us++extra).toArray ty fz))∧(c.push l).loc h.length=some l:=by
 refine ⟨⟨w.heap.size,cap,g,es.length⟩,rfl,rfl,rfl,rfl,?_,by simp[Ctx.push,hs.n]⟩
 refine hs.push _ _ _ rfl ⟨rfl,rfl,hle,cY,(us++extra).toArray,ty,fz,jL,by simpa using gF,by simpa using dt,?_⟩
 have hlen:=q8z hL hr (fun x hx=>(cY x hx).1)
 rw[←hlen]
 simpa using hr.mono (c.iE _)
theorem Kg (hL:L.OK) (hs:bp L c h w) {T:Nat} {g:Option Nat} {x:V} {ux:Value} (hx:RV L c x ux) {v:V} {h':Hp} (ai:uq h g x=some (v,h')):
 aN L c w ((Instr.box T ux).run P w) v h':=by
 simp only[uq] at ai
 split at ai
 case isFalse=> cases ai
 rename_i hc
 obtain ⟨hxg,fy⟩:=hc
 simp only[Option.some.injEq,Prod.mk.injEq] at ai
 obtain ⟨rfl,rfl⟩:=ai
 have iq:=(hx.cells fy).1
 have hlen:=hx.aW hL fy
 obtain ⟨l,hb,gF,cD,cO,dv,hl⟩:=jR hL hs (g:=g) (es:=[x]) (us:=ux.cells.toList) (by simp only[cB];exact ⟨_,[],by simp,iq,rfl⟩) (by simp[hxg,fy]) 1 [] (by simp only[ada];rw[hlen,hxg];omega) (by simp) T (0,0) ⟨by intro j hj;omega,fun _=> rfl⟩
 refine ⟨.pointer (some ⟨w.heap.size,0,none⟩),c.push l,w.alloc (.cells ux.cells T),?_,?_,by simpa using dv,c.iE l,St.alloc _ _⟩
 ·simp[Instr.box,newVar,newRow]
 ·have hn:h.length=c.n:=hs.n.symm
  rw[←hb]
  exact uF dv hl (by simp[cO]) (by simp[cG.off,cG.walk])
def eO (P:Program) (L:cG) (T:TypeId) (zero:V):Prop:=∃i z,P.info? T=some i∧i.zero=some z∧∀c:Ctx,RV L c zero z
theorem Ss (hL:L.OK) (hs:bp L c h w) {T:Nat} {g:Option Nat} {zero:V} (hz:eO P L T zero) {v:V} {h':Hp} (ai:uq h g zero=some (v,h')):
 aN L c w ((Instr.alloc T true (.tuple #[])).run P w) v h':=by
 obtain ⟨i,z,h1,h2,h3⟩:=hz
 have:=Kg (P:=P) (T:=T) hL hs (h3 c) ai
 have e:(Instr.alloc T true (.tuple #[])).run P w=(Instr.box T z).run P w:=by
   simp[Instr.alloc,Instr.box,zeroValue,typeInfo,h1,h2]
 rw[e];exact this
theorem zF :∀(ys:List Value) (us:Array Value) (o k:Nat),o+k+ys.length≤us.size→
 ((ys.zipIdx k).foldl (fun cs (p:Value×Nat)=> cs.setIfInBounds (o+p.2) p.1) us).toList=lay us.toList (o+k) ys
 | [],us,o,k,_=> by simp[lay]
 | y::ys,us,o,k,hl=> by
   simp only[acR] at hl
   simp only[List.zipIdx_cons,aeF]
   rw[zF ys _ o (k+1) (by simp;omega)]
   simp only[lay,adT]
   rw[afR,List.drop_set]
   have h1:(us.toList.take (o+(k+1))).set (o+k) y=us.toList.take (o+k)++[y]:=by
     rw[show o+(k+1)=(o+k)+1 by omega,acT (by simp;omega)]
     rw[ac9 _ _ (by simp;exact ae0 _ _)]
     simp[acZ (show o+k≤us.size by omega),ad4]
   rw[h1,if_pos (by omega)]
   simp[aek,aen 1]
def nH (L:cG) (place:Nat→Option (Nat×Nat)) (gs:List (Option Nat)):Prop:=
 ∀i g,gs[i]? =some g→place i=some (((gs.take i).map L.aD).sum,L.aD g)
theorem nI (hL:L.OK) {place:Nat→Option (Nat×Nat)}:∀(ps:List (Nat×V)) (qs:List (Nat×Value)) (es es':List V) (us:Array Value),
 nH L place (es.map V.ty)→cB L c es us.toList→bK es ps=some es'→ps.map (·.1)=qs.map (·.1)→(∀(i:Nat) (p:Nat×V) (q:Nat×Value),ps[i]? =some p→qs[i]? =some q→RV L c p.2 q.2)→
 ∃us',Instr.fill place us qs=some us'∧cB L c es' us'.toList∧es'.map V.ty=es.map V.ty∧((∀x∈es,x.aA=true)→∀x∈es',x.aA=true)∧us'.size=us.size
 | [],qs,es,es',us,hp,hr,gj,hpq,hv=> by
   simp only[bK,Option.some.injEq] at gj
   subst gj
   cases qs with
   | nil=> exact ⟨us,rfl,hr,rfl,fun h=> h,rfl⟩
   | cons q qs=> simp at hpq
 | (i,y)::ps,qs,es,es',us,hp,hr,gj,hpq,hv=> by
   cases qs with
   | nil=> simp at hpq
   | cons q qs=>
     obtain ⟨i',u⟩:=q
     simp only[acx,List.cons.injEq] at hpq
     obtain ⟨rfl,hpq⟩:=hpq
     simp only[bK] at gj
     split at gj
     case h_2=> cases gj
     rename_i o ho
     split at gj
     case isFalse=> cases gj
     rename_i hc
     obtain ⟨dw,fy⟩:=hc
     have hy:RV L c y u:=hv 0 (i,y) (i,u) rfl rfl
     have iq:=(hy.cells fy).1
     have hlen:=hy.aW hL fy
     have xQ:(((es.map V.ty).take i).map L.aD).sum=((es.take i).map fun v=> L.aD v.ty).sum:=by rw[←List.map_take,adA];rfl
     have fE:=hp i o.ty (by rw[acv,ho];rfl)
     rw[xQ] at fE
     have hle:=jN hL hr ho
     simp only[adP] at hle hlen
     have mf:=sP hL iq es us.toList i o hr ho dw.symm
     have Y5:(es.set i y).map V.ty=es.map V.ty:=by
       rw[afU]
       refine adl fun j=> ?_
       by_cases e:j=i
       ·subst e
        rw[ac7,acv,ho]
        simp[(acj.1 ho).1,dw]
       ·rw[acp (adY e)]
     have PF:=zF u.cells.toList us (((es.take i).map fun v=> L.aD v.ty).sum) 0 (by simp only[adP];rw[hlen,←dw];omega)
     obtain ⟨us',h1,h2,h3,h4,h5⟩:=nI hL ps qs (es.set i y) es' (u.cells.zipIdx.foldl (fun cs (p:Value×Nat)=> cs.setIfInBounds (((es.take i).map fun v=> L.aD v.ty).sum+p.2) p.1) us)
       (by rw[Y5];exact hp) (by
         rw[←Array.foldl_toList,Array.toList_zipIdx]
         rw[PF];simpa using mf) gj hpq (fun j p q hj hq=> hv (j+1) p q (by simpa using hj) (by simpa using hq))
     refine ⟨us',?_,h2,by rw[h3,Y5],fun sw=> h4 fun x hx=> ?_,?_⟩
     ·simp only[Instr.fill,fE]
      rw[if_neg (by
       intro BT
       simp only[adg,decide_eq_true_eq,ne_eq] at BT
       rw[hlen,←dw] at BT
       rw[dw] at hle
       rcases BT with BT | BT
       ·exact BT rfl
       ·rw[dw] at BT;omega)]
      exact h1
     ·rcases adj hx with hx | rfl
      ·exact sw x hx
      ·exact fy
     ·rw[h5,←Array.foldl_toList,Array.toList_zipIdx,←Array.length_toList,PF,ei _ _ _ (by simp only[adP];rw[hlen,←dw];omega)]
      simp
end Go.Vm
namespace Go.Vm
variable {P : Program} {L : cG} {c : Ctx} {h : Hp} {w : World}
theorem oV {α β:Type} (P:Program) (w:World) (f:α→Sem β) (g:α→β):∀(l:List α),(∀x∈l,(f x).run P w= .ok (g x) w)→(l.mapM f).run P w= .ok (l.map g) w
 | [],_=> by simp
 | a::l,hf=> by
   rw[adW]
   simp only[Sem.run_bind,hf a (by simp),Result.andThen_ok,oV P w f g l (fun x hx=> hf x (by simp[hx])),Sem.run_pure,acx]
theorem Kh {α β:Type} (P:Program) (w:World) (f:α→Sem β) (g:α→β) (xs:Array α) (hf:∀x∈xs.toList,(f x).run P w= .ok (g x) w):(xs.mapM f).run P w= .ok (xs.map g) w:=by
 rw[afp,Sem.run_map,oV P w f g xs.toList hf]
 simp only[Result.andThen_ok]
 congr 1
 apply aef;simp
theorem oo {ys:List V} {us:List Value} (places:List Nat) (hlen:places.length=ys.length) (Hu:us.length=ys.length) (hv:∀(i:Nat) (y:V) (u:Value),ys[i]? =some y→us[i]? =some u→RV L c y u):
 (places.zip ys).map (·.1)=(places.zip us).map (·.1)∧∀(i:Nat) (p:Nat×V) (q:Nat×Value),(places.zip ys)[i]? =some p→(places.zip us)[i]? =some q→RV L c p.2 q.2:=by
 refine ⟨?_,fun i p q hp hq=> ?_⟩
 ·rw[List.map_fst_zip (by omega),List.map_fst_zip (by omega)]
 ·rw[List.getElem?_zip_eq_some] at hp hq
  exact hv i p.2 q.2 hp.2 hq.2
theorem No (hL:L.OK) (hs:bp L c h w) {T t:Nat} {fields:Array Field} {gs:List (Option Nat)} {zero:List V} {places:List Nat} (hu:P.underlying T=some (.struct fields))
 (je:L.fields t=some gs) (hfs:∀i f,fields[i]? =some f→∃g,gs[i]? =some g∧TG P L f.type g∧f.offset=((gs.take i).map L.aD).sum) (cU:fields.size=gs.length)
 (hz:eO P L T (.st t zero)) {ys:List V} {us:List Value} (Hu:us.length=ys.length) (hv:∀(i:Nat) (y:V) (u:Value),ys[i]? =some y→us[i]? =some u→RV L c y u)
 {v:V} {h':Hp} (ai:rb h t zero places ys=some (v,h')):aN L c w ((Instr.build T (places.zip us).toArray).run P w) v h':=by
 simp only[rb] at ai
 split at ai
 case isFalse=> cases ai
 rename_i hlen
 obtain ⟨fs,gj,he⟩:=ach.1 ai
 simp only[Prod.mk.injEq] at he
 obtain ⟨rfl,rfl⟩:=he
 obtain ⟨i,z,hi,pq,pL⟩:=hz
 obtain ⟨zs,rfl,hr⟩:=(fN rfl).1 (pL c)
 simp only[RC] at hr
 obtain ⟨hr,hf,fy⟩:=hr
 rw[je] at hf
 simp only[Option.some.injEq] at hf
 obtain ⟨hp1,hp2⟩:=oo places hlen Hu hv
 have mq:nH L ((fields.map fun f=>(f.offset,P.cellsOf f.type))[·]?) (zero.map V.ty):=by
   intro j g hj
   rw[←hf] at hj ⊢
   have sx:j < fields.size:=by have:=(acj.1 hj).1;omega
   obtain ⟨g',h1,h2,h3⟩:=hfs j fields[j] (by simp[sx])
   rw[hj] at h1;cases h1
   obtain ⟨q,hq1,hq2⟩:=h2.info
   simp[sx,h3,Program.cellsOf,hq1,hq2]
 obtain ⟨us',h1,h2,h3,h4,h5⟩:=nI hL (places.zip ys) (places.zip us) zero fs zs.toArray mq (by simpa using hr) gj hp1 hp2
 have hm:=Kh P w (fun f:Field=> do pure (f.offset,←Go.sizeOf f.type)) (fun f=>(f.offset,P.cellsOf f.type)) fields (fun f hf=> by
   obtain ⟨j,hj⟩:=List.getElem?_of_mem hf
   obtain ⟨g',_,k2,_⟩:=hfs j f (by simpa using hj)
   obtain ⟨q,hq1,hq2⟩:=k2.info
   simp[Go.sizeOf,typeInfo,hq1,Program.cellsOf])
 refine aN.same (u:= .agg us') ?_ ((fN rfl).2 ⟨us'.toList,by simp,?_⟩) hs
 ·simp only[Instr.build,zeroValue,typeInfo,underlying,Sem.run_bind,run_program,Result.andThen_ok,hi,Sem.run_pure,pq,hu,Value.cells]
  have hm':=hm
  simp only[bind_pure_comp] at hm'
  simp only[bind_pure_comp,hm',Result.andThen_ok,h1,Sem.run_pure]
 ·simp only[RC]
  exact ⟨h2,by rw[h3,je,hf],h4 fy⟩
theorem Np (hL:L.OK) (hs:bp L c h w) {T t n:Nat} {el:TypeId} {e:Option Nat} {zero:List V} {places:List Nat} (hu:P.underlying T=some (.array n el)) (cm:TG P L el e)
 (ha:L.arr t=some (n,e)) (hz:eO P L T (.arr t zero)) {ys:List V} {us:List Value} (Hu:us.length=ys.length) (hv:∀(i:Nat) (y:V) (u:Value),ys[i]? =some y→us[i]? =some u→RV L c y u)
 {v:V} {h':Hp} (ai:re h t zero places ys=some (v,h')):aN L c w ((Instr.build T (places.zip us).toArray).run P w) v h':=by
 simp only[re] at ai
 split at ai
 case isFalse=> cases ai
 rename_i hlen
 obtain ⟨fs,gj,he⟩:=ach.1 ai
 simp only[Prod.mk.injEq] at he
 obtain ⟨rfl,rfl⟩:=he
 obtain ⟨i,z,hi,pq,pL⟩:=hz
 obtain ⟨zs,rfl,hr⟩:=(fN rfl).1 (pL c)
 simp only[RC] at hr
 obtain ⟨hr,e',pI,cY⟩:=hr
 rw[ha] at pI
 simp only[Option.some.injEq,Prod.mk.injEq] at pI
 obtain ⟨hn,rfl⟩:=pI
 obtain ⟨hp1,hp2⟩:=oo places hlen Hu hv
 have mq:nH L (fun i=> some (i * L.aD e,L.aD e)) (zero.map V.ty):=by
   intro j g hj
   rw[acv] at hj
   obtain ⟨x,hx,rfl⟩:=ach.1 hj
   have AE:=(cY x (acw hx)).1
   have:=dV (zero.map V.ty) L.aD (L.aD e) j (fun y hy=> by
     obtain ⟨q,hq,rfl⟩:=ac6.1 hy
     rw[(cY q hq).1]) (by have:=(acj.1 hx).1;simp;omega)
   rw[this,AE]
 obtain ⟨us',h1,h2,h3,h4,h5⟩:=nI hL (places.zip ys) (places.zip us) zero fs zs.toArray mq (by simpa using hr) gj hp1 hp2
 have m6:fs.length=zero.length:=by have:=congrArg List.length h3;simpa using this
 refine aN.same (u:= .agg us') ?_ ((fN rfl).2 ⟨us'.toList,by simp,?_⟩) hs
 ·simp only[Instr.build,zeroValue,typeInfo,underlying,Sem.run_bind,run_program,Result.andThen_ok,hi,Sem.run_pure,pq,hu,Value.cells,cm.sizeOf,h1]
 ·simp only[RC]
  refine ⟨h2,e,by rw[m6,←hn];exact ha,fun x hx=>⟨?_,h4 (fun y hy=>(cY y hy).2) x hx⟩⟩
  have:x.ty∈zero.map V.ty:=by rw[←h3];exact ac6.2 ⟨x,hx,rfl⟩
  obtain ⟨y,hy,Hr⟩:=ac6.1 this
  rw[←Hr];exact (cY y hy).1
theorem ew {zv:V} {zs:List Value} (hz:RC L c zv zs):∀n,cB L c (List.replicate n zv) ((List.replicate n zs).flatten)
 | 0=> by simp[cB]
 | n+1=> by
   rw[aeh,aeh,aed]
   simp only[cB]
   exact ⟨_,_,rfl,hz,ew hz n⟩
theorem jC (z:Array Value):∀n,((Array.range (n * z.size)).map (z[· % z.size]!)).toList=(List.replicate n z.toList).flatten
 | 0=> by simp
 | n+1=> by
   by_cases h0:z.size=0
   ·have:z= #[]:=ad1 h0
    subst this
    simp
   rw[aeh,aed,←jC z n]
   simp only[afE,Array.toList_range]
   rw[show (n+1)* z.size=z.size+n * z.size by rw[adG];omega,List.range_add,adm,adA]
   congr 1
   ·refine adl fun j=> ?_
    by_cases hj:j < z.size
    ·simp[hj,aeu hj]
    ·rw[acW (by simp;omega),acW (by simp;omega)]
   ·refine aes fun j hj=> ?_
    simp
theorem fI (hL:L.OK) {g:Option Nat} {es:List V} {l:Loc} {id:Nat} {w':World} {h':Hp} (hs:bp L c h' w') (hl:c.loc id=some l) (cD:l.tag=g) (cO:l.aB=es.length) (k:Nat) (hk:es.length≤k) (gF:k≤l.cap):
 RV L c (.ref id [] g 0 es.length es.length) (.slice (some ⟨l.bE,0,none⟩) es.length k):=by
 have:=nC hs (id:=id) (aB:=es.length) (off:=0) (len:=es.length) (k:=k) (path:=[]) (m:=none) (o:=0) (e:=l.tag) hl cO rfl hk ⟨by omega,by omega,by omega⟩
 rw[←cD]
 simpa using this
theorem bp.Y6 {es:List V} {g:Option Nat} {l:Loc} (hs:bp L c (h++[.cells g es]) w) (hl:c.loc h.length=some l) (gF:l.cap=es.length):bp L c (h++[.lit g es]) w where
 z:=hs.z
 n:=by simpa using hs.n
 loc i l' dF:=by
   obtain ⟨k,h1,h2,h3⟩:=hs.loc i l' dF
   by_cases e:i=h.length
   ·subst e
    rw[hl] at dF;cases dF
    simp only[List.getElem?_concat_length,Option.some.injEq] at h1
    subst h1
    obtain ⟨a1,a2,a3,a4⟩:=h3
    exact ⟨.lit g es,by simp,h2,a1,a2,gF.symm,a4⟩
   ·have hi:i < h.length:=by
      have:=(acj.1 h1).1
      simp at this;omega
    exact ⟨k,by rw[ac0 hi] at h1 ⊢;exact h1,h2,h3⟩
 live i k hk:=by
   by_cases e:i=h.length
   ·subst e;exact .inl ⟨l,hl⟩
   ·have hi:i < h.length:=by
      have:=(acj.1 hk).1
      simp at this;omega
    exact hs.live i k (by rw[ac0 hi] at hk ⊢;exact hk)
 inj:=hs.inj
theorem DE (hL:L.OK) (hs:bp L c h w) {T:Nat} {el:TypeId} {g:Option Nat} {zv:V} {n:Nat} {places:List Nat} (hu:P.underlying T=some (.slice el)) (cm:TG P L el g) (ij:0 < L.aD g)
 (hz:eO P L el zv) (jM:zv.ty=g) (iV:zv.aA=true) (hn:n * L.aD g≤16777216) {ys:List V} {us:List Value} (Hu:us.length=ys.length) (hv:∀(i:Nat) (y:V) (u:Value),ys[i]? =some y→us[i]? =some u→RV L c y u)
 {v:V} {h':Hp} (ai:oT h g (List.replicate n zv) places ys=some (v,h')):aN L c w ((Instr.buildSlice T n (places.zip us).toArray).run P w) v h'∧∀es,v= .ref h.length [] g 0 es.length es.length→h'=h++[.cells g es]→aN L c w ((Instr.buildSlice T n (places.zip us).toArray).run P w) v (h++[.lit g es]):=by
 simp only[oT] at ai
 split at ai
 case isFalse=> cases ai
 rename_i hlen
 split at ai
 case h_2=> cases ai
 rename_i es gj
 obtain ⟨i,z,hi,pq,pL⟩:=hz
 have iq:=((pL c).cells iV).1
 have vn:=(pL c).aW hL iV
 rw[jM] at vn
 obtain ⟨i',xS,qp⟩:=cm.info
 rw[hi] at xS;cases xS
 obtain ⟨hp1,hp2⟩:=oo places hlen Hu hv
 have mq:nH L (fun i=> some (i * L.aD g,L.aD g)) ((List.replicate n zv).map V.ty):=by
   intro j x hj
   simp only[afl] at hj ⊢
   have hj':=acw hj
   have sx:=(acj.1 hj).1
   simp only[ac8] at sx
   have hx:=(ac4 hj')
   have:=dV (List.replicate n zv.ty) L.aD (L.aD g) j (fun y hy=> by rw[ac4 hy,jM]) (by simp;omega)
   rw[this,hx,jM]
 have BU:cB L c (List.replicate n zv) ((Array.range (n * L.aD g)).map (z.cells[· % z.cells.size]!)).toList:=by
   have e:L.aD g=z.cells.size:=by simpa using vn.symm
   rw[e,jC]
   exact ew iq n
 obtain ⟨us',h1,h2,h3,h4,h5⟩:=nI hL (places.zip ys) (places.zip us) _ es _ mq BU gj hp1 hp2
 have FA:es.length=n:=by have:=congrArg List.length h3;simpa using this
 have BV:∀x∈es,x.ty=g∧x.aA=true:=fun x hx=> by
   refine ⟨?_,h4 (fun y hy=> by rw[ac4 hy];exact iV) x hx⟩
   have:x.ty∈(List.replicate n zv).map V.ty:=by rw[←h3];exact ac6.2 ⟨x,hx,rfl⟩
   obtain ⟨y,hy,Hr⟩:=ac6.1 this
   rw[←Hr,ac4 hy,jM]
 have Su:us'.size=n * L.aD g:=by rw[h5];simp
 have uG:Instr.fill (fun i=> some (i * L.aD g,L.aD g)) ((Array.range (n * L.aD g)).map (z.cells[· % z.cells.size]!)) (places.zip us)=some us':=h1
 have bo:(Instr.buildSlice T n (places.zip us).toArray).run P w= .ok (.slice (some ⟨w.heap.size,0,none⟩) n n) (w.alloc (.cells us' el)):=by
   by_cases h0:n=0
   ·subst h0
    have Hl:Instr.fill (fun i=> some (i * L.aD g,L.aD g)) (#[]:Array Value) (places.zip us)=some us':=by
      have e0:(Array.range (0 * L.aD g)).map (z.cells[· % z.cells.size]!)= #[]:=ad1 (by simp)
      rw[e0] at uG;exact uG
    simp[Instr.buildSlice,underlying,hu,Go.sizeOf,typeInfo,hi,qp,Hl,newRow,Array.range_zero']
   ·have cC:¬n * L.aD g=0:=by have:=Nat.mul_pos (show 0 < n by omega) ij;omega
    simp only[Instr.buildSlice,underlying,Sem.run_bind,run_program,Result.andThen_ok,hu,Sem.run_pure,cm.sizeOf,if_neg (show ¬n * L.aD g > 2 ^ 24 by omega),if_neg cC,zeroValue,typeInfo,hi,pq,uG,newRow,run_newObj,World.alloc_eq]
 by_cases h0:es.isEmpty=true
 ·simp only[h0,if_true,Option.some.injEq,Prod.mk.injEq] at ai
  obtain ⟨rfl,rfl⟩:=ai
  have Ej:n=0:=by rw[←FA];simpa using h0
  subst Ej
  exact ⟨⟨_,c,_,bo,dh.2 ⟨_,0,rfl,by simp,fun _=> rfl,by simp,.inl rfl⟩,hs.Dz _,Ctx.le_refl c,St.alloc _ _⟩,fun es e=> by cases e⟩
 ·simp only[h0,if_false,Option.some.injEq,Prod.mk.injEq,acz] at ai
  obtain ⟨rfl,rfl⟩:=ai
  obtain ⟨l,hb,gF,cD,cO,dv,hl⟩:=jR hL hs h2 BV n [] (by simp[Su]) (by omega) el (0,0) ⟨by intro j hj;omega,fun _=> rfl⟩
  have iB:RV L (c.push l) (.ref h.length [] g 0 es.length es.length) (.slice (some ⟨w.heap.size,0,none⟩) n n):=by
    rw[←hb]
    have:=fI (es:=es) hL dv hl cD cO n (by omega) (by omega)
    rwa [FA] at this ⊢
  refine ⟨⟨_,c.push l,_,bo,iB,by simpa using dv,c.iE l,St.alloc _ _⟩,fun es' e1 e2=> ?_⟩
  obtain rfl:es=es':=by simpa using e2
  exact ⟨_,c.push l,_,bo,iB,(show bp L (c.push l) (h++[.cells g es]) _ by simpa using dv).Y6 hl (by omega),c.iE l,St.alloc _ _⟩
theorem Sv (hL:L.OK) (hs:bp L c h w) {T:Nat} {el:TypeId} {g:Option Nat} {zv:V} {n:Nat} {places:List Nat} (hu:P.underlying T=some (.slice el)) (cm:TG P L el g) (ij:0 < L.aD g)
 (hz:eO P L el zv) (jM:zv.ty=g) (iV:zv.aA=true) (hn:n * L.aD g≤16777216) {ys:List V} {us:List Value} (Hu:us.length=ys.length) (hv:∀(i:Nat) (y:V) (u:Value),ys[i]? =some y→us[i]? =some u→RV L c y u)
 {v:V} {h':Hp} (ai:oT h g (List.replicate n zv) places ys=some (v,h')):aN L c w ((Instr.buildSlice T n (places.zip us).toArray).run P w) v h':=(DE hL hs hu cm ij hz jM iV hn Hu hv ai).1
theorem Sw (hL:L.OK) (hs:bp L c h w) {T:Nat} {el:TypeId} {g:Option Nat} {zv:V} {n:Nat} {places:List Nat} (hu:P.underlying T=some (.slice el)) (cm:TG P L el g) (ij:0 < L.aD g)
 (hz:eO P L el zv) (jM:zv.ty=g) (iV:zv.aA=true) (hn:n * L.aD g≤16777216) {ys:List V} {us:List Value} (Hu:us.length=ys.length) (hv:∀(i:Nat) (y:V) (u:Value),ys[i]? =some y→us[i]? =some u→RV L c y u)
 {v:V} {h':Hp} (ai:uu h g (List.replicate n zv) places ys=some (v,h')):aN L c w ((Instr.buildSlice T n (places.zip us).toArray).run P w) v h':=by
 unfold uu at ai
 split at ai
 case isFalse=> cases ai
 rename_i hlen
 split at ai
 case h_2=> cases ai
 rename_i es gj
 split at ai
 case isTrue=> cases ai
 rename_i cC
 simp only[Option.some.injEq,Prod.mk.injEq] at ai
 obtain ⟨rfl,rfl⟩:=ai
 exact (DE hL hs hu cm ij hz jM iV hn Hu hv (v:= .ref h.length [] g 0 es.length es.length) (h':=h++[.cells g es]) (by unfold oT;rw[if_pos hlen,gj];simp[cC])).2 es rfl rfl
theorem Sx (hL:L.OK) (hs:bp L c h w) {T:Nat} {el:TypeId} {g:Option Nat} {zv:V} {n:Nat} {places:List Nat} (hu:P.underlying T=some (.slice el)) (cm:TG P L el g) (ij:0 < L.aD g)
 (hz:eO P L el zv) (jM:zv.ty=g) (iV:zv.aA=true) (hn:n * L.aD g≤16777216) {ys:List V} {us:List Value} (Hu:us.length=ys.length) (hv:∀(i:Nat) (y:V) (u:Value),ys[i]? =some y→us[i]? =some u→RV L c y u)
 {v:V} {h':Hp} (ai:uC h g (List.replicate n zv) places ys=some (v,h')):aN L c w ((Instr.buildSlice T n (places.zip us).toArray).run P w) v h':=by
 simp only[uC] at ai
 split at ai
 case isFalse=> cases ai
 rename_i hlen
 obtain ⟨es,gj,he⟩:=ach.1 ai
 simp only[Prod.mk.injEq] at he
 obtain ⟨rfl,rfl⟩:=he
 obtain ⟨i,z,hi,pq,pL⟩:=hz
 have iq:=((pL c).cells iV).1
 have vn:=(pL c).aW hL iV
 rw[jM] at vn
 obtain ⟨i',xS,qp⟩:=cm.info
 rw[hi] at xS;cases xS
 obtain ⟨hp1,hp2⟩:=oo places hlen Hu hv
 have mq:nH L (fun i=> some (i * L.aD g,L.aD g)) ((List.replicate n zv).map V.ty):=by
   intro j x hj
   simp only[afl] at hj ⊢
   have hj':=acw hj
   have sx:=(acj.1 hj).1
   simp only[ac8] at sx
   have hx:=(ac4 hj')
   have:=dV (List.replicate n zv.ty) L.aD (L.aD g) j (fun y hy=> by rw[ac4 hy,jM]) (by simp;omega)
   rw[this,hx,jM]
 have BU:cB L c (List.replicate n zv) ((Array.range (n * L.aD g)).map (z.cells[· % z.cells.size]!)).toList:=by
   have e:L.aD g=z.cells.size:=by simpa using vn.symm
   rw[e,jC]
   exact ew iq n
 obtain ⟨us',h1,h2,h3,h4,h5⟩:=nI hL (places.zip ys) (places.zip us) _ es _ mq BU gj hp1 hp2
 have FA:es.length=n:=by have:=congrArg List.length h3;simpa using this
 have BV:∀x∈es,x.ty=g∧x.aA=true:=fun x hx=> by
   refine ⟨?_,h4 (fun y hy=> by rw[ac4 hy];exact iV) x hx⟩
   have:x.ty∈(List.replicate n zv).map V.ty:=by rw[←h3];exact ac6.2 ⟨x,hx,rfl⟩
   obtain ⟨y,hy,Hr⟩:=ac6.1 this
   rw[←Hr,ac4 hy,jM]
 have Su:us'.size=n * L.aD g:=by rw[h5];simp
 have uG:Instr.fill (fun i=> some (i * L.aD g,L.aD g)) ((Array.range (n * L.aD g)).map (z.cells[· % z.cells.size]!)) (places.zip us)=some us':=h1
 have bo:(Instr.buildSlice T n (places.zip us).toArray).run P w= .ok (.slice (some ⟨w.heap.size,0,none⟩) n n) (w.alloc (.cells us' el)):=by
   by_cases h0:n=0
   ·subst h0
    have Hl:Instr.fill (fun i=> some (i * L.aD g,L.aD g)) (#[]:Array Value) (places.zip us)=some us':=by
      have e0:(Array.range (0 * L.aD g)).map (z.cells[· % z.cells.size]!)= #[]:=ad1 (by simp)
      rw[e0] at uG;exact uG
    simp[Instr.buildSlice,underlying,hu,Go.sizeOf,typeInfo,hi,qp,Hl,newRow,Array.range_zero']
   ·have cC:¬n * L.aD g=0:=by have:=Nat.mul_pos (show 0 < n by omega) ij;omega
    simp only[Instr.buildSlice,underlying,Sem.run_bind,run_program,Result.andThen_ok,hu,Sem.run_pure,cm.sizeOf,if_neg (show ¬n * L.aD g > 2 ^ 24 by omega),if_neg cC,zeroValue,typeInfo,hi,pq,uG,newRow,run_newObj,World.alloc_eq]
 have hz:bp L (c.dK w.heap.size (.cells us' el (0,0))) h (w.alloc (.cells us' el)):=hs.dK _
 refine ⟨_,_,_,bo,dh.2 ⟨_,n,by rw[FA],by omega,fun _=> FA.symm,BV,Or.inr ⟨w.heap.size,0,us',el,(0,0),rfl,by simp[Ctx.dK],?_⟩⟩,hz,c.lO _ _ hs.rJ,St.alloc _ _⟩
 rw[FA,←Su]
 simp only[og,ac2]
 rw[ack (by simp)]
 exact cB.mono (c.lO _ _ hs.rJ) h2
theorem Sy (hL:L.OK) (hs:bp L c h w) {T:Nat} {el:TypeId} {g:Option Nat} {zv:V} (hu:P.underlying T=some (.slice el)) (cm:TG P L el g) (nJ:P.bytesOf el≤4096)
 (hz:eO P L el zv) (jM:zv.ty=g) (iV:zv.aA=true) {x y:V} {ux uy:Value} (hx:RV L c x ux) (hy:RV L c y uy)
 {v:V} {h':Hp} (ai:wB h g zv x y=some (v,h')):aN L c w ((Instr.makeSlice T ux uy).run P w) v h':=by
 simp only[wB] at ai
 split at ai
 case h_2=> cases ai
 rename_i n m hn hm
 split at ai
 case isFalse=> cases ai
 rename_i hc
 obtain ⟨rfl,h0,Y7⟩:=hc
 obtain ⟨kx,rfl⟩:=jP hn hx
 obtain ⟨ky,rfl⟩:=jP hm hy
 obtain ⟨i,z,hi,pq,pL⟩:=hz
 have iq:=((pL c).cells iV).1
 have vn:=(pL c).aW hL iV
 rw[jM] at vn
 obtain ⟨i',xS,qp⟩:=cm.info
 rw[hi] at xS;cases xS
 have nV:i.bytes≤4096:=by simpa[Program.bytesOf,hi] using nJ
 have hmul:(i.bytes:Int)* n≤281474976710656:=by
   have h1:(i.bytes:Int)* n≤4096 * n:=Int.mul_le_mul_of_nonneg_right (by omega) h0
   omega
 have bo:=run_make (P:=P) w T el i z hu hi pq kx ky n n h0 (Int.le_refl _) hmul (by omega)
 obtain ⟨k,rfl⟩:=afw h0
 simp only[acC] at bo ai
 by_cases hk:k=0
 ·subst hk
  rw[if_pos (by simp)] at ai
  simp only[Option.some.injEq,Prod.mk.injEq] at ai
  obtain ⟨rfl,rfl⟩:=ai
  exact ⟨_,c,_,bo,dh.2 ⟨_,0,rfl,by simp,fun _=> rfl,by simp,.inl rfl⟩,hs.Dz _,Ctx.le_refl c,St.alloc _ _⟩
 ·rw[if_neg (by omega)] at ai
  simp only[Option.some.injEq,Prod.mk.injEq] at ai
  obtain ⟨rfl,rfl⟩:=ai
  have PG:(madeCells z.cells (k * i.size)).toList=(List.replicate k z.cells.toList).flatten:=by
    have e:i.size=z.cells.size:=by rw[qp];simpa using vn.symm
    rw[e];exact jC z.cells k
  have hr:=ew iq k
  obtain ⟨l,hb,gF,cD,cO,dv,hl⟩:=jR hL hs hr (fun x hx=> by rw[ac4 hx];exact ⟨jM,iV⟩) k [] (by rw[←PG];simp[madeCells,qp]) (by simp) el (0,0) ⟨by intro j hj;omega,fun _=> rfl⟩
  refine ⟨_,c.push l,_,bo,?_,?_,c.iE l,St.alloc _ _⟩
  ·rw[←hb]
   have:=fI (es:=List.replicate k zv) hL dv hl cD cO k (by simp) (by omega)
   simp only[ac8] at this
   exact this
  ·have:(madeCells z.cells (k * i.size))=((List.replicate k z.cells.toList).flatten++[]).toArray:=by
     apply aef
     simpa using PG
   rw[this];exact dv
end Go.Vm
namespace Go.Vm
variable {P : Program} {L : cG} {c : Ctx} {h : Hp} {w : World}
theorem ql (hL:L.OK) (hs:bp L c h w) {x:V} {u:Value} (hx:RV L c x u) {g:Option Nat} {es:List V} (he:elems h x=some (g,es)):
 ∃a k,u= .slice a es.length k∧es.length≤k∧(∀y∈es,y.ty=g∧y.aA=true)∧(es=[]∨∃b o us ty fz,a=some ⟨b,o,none⟩∧w.heap[b]? =some (.cells us ty fz)∧cB L c es ((us.toList.drop o).take (es.length * L.aD g))):=by
 unfold elems at he
 split at he
 ·rename_i full g' es'
  simp only[Option.some.injEq,Prod.mk.injEq] at he
  obtain ⟨rfl,rfl⟩:=he
  obtain ⟨a,k,rfl,h1,h2,h3,h4⟩:=dh.1 hx
  refine ⟨a,k,rfl,h1,h3,?_⟩
  rcases h4 with h4 | ⟨b,off,cs,ty,fz,ha,hz,hr⟩
  ·exact .inl h4
  ·exact .inr ⟨b,off,cs,ty,fz,ha,hs.z _ _ hz,hr⟩
 ·rename_i id path g' off len aB
  obtain ⟨es',hr,Hv⟩:=ach.1 he
  simp only[Prod.mk.injEq] at Hv
  obtain ⟨rfl,rfl⟩:=Hv
  obtain ⟨l,o,e,m,us,ty,fz,hl,ht,pf,hg,hz,dt,hle,gk,cY,kI,pK,jb⟩:=hs.rowAt hL hr
  obtain ⟨rfl,k,rfl,mR,hm⟩:=dU hx hl ht pf
  have oK:off+len≤es'.length:=by
    cases m with
    | none=> have:=(kI rfl).1;simp only[fp] at hm;omega
    | some n=> have:=pK n rfl;simp only[fp] at hm;omega
  have hlen:((es'.drop off).take len).length=len:=by simp;omega
  rw[hlen]
  refine ⟨_,k,rfl,mR,fun y hy=> cY y (acY (acA hy)),.inr ⟨l.bE,o+off * L.aD e,us,ty,fz,rfl,hg,?_⟩⟩
  have:=xO hL gk (fun y hy=>(cY y hy).1) off len oK
  have hmul:(off+len)* L.aD e≤es'.length * L.aD e:=acE _ oK
  rw[adG] at hmul
  rw[adM,ads,adn,acZ (by omega)] at this
  exact this
 ·cases he
theorem oe (hL:L.OK) {es:List V} {b o:Nat} {us:Array Value} {ty:TypeId} {fz:Nat×Nat} {g:Option Nat} (hg:w.heap[b]? =some (.cells us ty fz)) (hr:cB L c es ((us.toList.drop o).take (es.length * L.aD g))) (cY:∀y∈es,y.ty=g):
 ∀j v,((us.toList.drop o).take (es.length * L.aD g))[j]? =some v→w.cell? ((⟨b,o,none⟩:Addr).add j)=some v:=fun j v hj=> by
 rw[eV,q15z hg]
 have hlen:=q8z hL hr cY
 have sx:=(acj.1 hj).1
 rw[hlen] at sx
 rw[adL,if_pos sx,ad5] at hj
 simpa using hj
theorem kQ :∀(es:List V) (l:List UInt8) (us:List Value),bytesOf es=some l→cB L c es us→∃ns:List Int,us=ns.map (Value.int .u8)∧ns.length=es.length∧l=ns.map fun n=> UInt8.ofNat n.toNat
 | [],l,us,hb,hr=> by
   simp only[bytesOf,Option.some.injEq] at hb
   simp only[cB] at hr
   subst hb;subst hr
   exact ⟨[],rfl,rfl,rfl⟩
 | e::es,l,us,hb,hr=> by
   simp only[cB] at hr
   obtain ⟨u1,u2,rfl,h1,h2⟩:=hr
   unfold bytesOf at hb
   split at hb
   ·rename_i heq
    cases heq
   ·rename_i n vs heq
    simp only[List.cons.injEq] at heq
    obtain ⟨rfl,rfl⟩:=heq
    obtain ⟨l',dF,rfl⟩:=ach.1 hb
    obtain ⟨ns,rfl,h3,rfl⟩:=kQ es l' u2 dF h2
    simp only[RC] at h1
    rw[h1.1]
    exact ⟨n::ns,by simp,by simp[h3],by simp⟩
   ·cases hb
theorem Sz (hs:bp L c h w) {T:Nat} {el:TypeId} (hu:P.underlying T=some (.slice el)) {ty:TypeId} {x:V} {ux:Value} (hx:RV L c x ux) {v:V} {h':Hp} (ai:uv h x=some (v,h')):
 aN L c w ((Builtin.len_ #[T] ty #[ux]).run P w) v h':=by
 simp only[uv] at ai
 obtain ⟨n,hn,ai⟩:=acr.1 ai
 simp only[j6,Option.some.injEq,Prod.mk.injEq] at ai
 obtain ⟨rfl,rfl⟩:=ai
 have:∃a k,ux= .slice a n k:=by
   unfold fj at hn
   split at hn
   ·simp only[Option.some.injEq] at hn;subst hn
    obtain ⟨a,k,h1,_⟩:=dh.1 hx;exact ⟨a,k,h1⟩
   ·simp only[Option.some.injEq] at hn;subst hn
    obtain ⟨a,k,h1,_⟩:=o7.1 hx;exact ⟨some a,k,h1⟩
   ·cases hn
 obtain ⟨a,k,rfl⟩:=this
 refine aN.same (u:= .int .i64 n) ?_ (bF.2 ⟨rfl,rfl⟩) hs
 simp[Builtin.len_,underlying,hu,goInt]
theorem SA (hs:bp L c h w) {T:Nat} {el:TypeId} (hu:P.underlying T=some (.slice el)) {ty:TypeId} {x:V} {ux:Value} (hx:RV L c x ux) {v:V} {h':Hp} (ai:wA h x=some (v,h')):
 aN L c w ((Builtin.cap_ #[T] ty #[ux]).run P w) v h':=by
 simp only[wA] at ai
 split at ai
 case h_2=> cases ai
 rename_i g es
 simp only[j6,Option.some.injEq,Prod.mk.injEq] at ai
 obtain ⟨rfl,rfl⟩:=ai
 obtain ⟨a,k,rfl,h2,h3,h4⟩:=dh.1 hx
 have hk:=h3 rfl
 subst hk
 refine aN.same (u:= .int .i64 es.length) ?_ (bF.2 ⟨rfl,rfl⟩) hs
 simp[Builtin.cap_,underlying,hu,goInt]
theorem Nq (hs:bp L c h w) {T:Nat} (hu:P.underlying T=some .string) {ty:TypeId} {x:V} {ux:Value} (hx:RV L c x ux) {v:V} {h':Hp} (ai:rh h x=some (v,h')):
 aN L c w ((Builtin.len_ #[T] ty #[ux]).run P w) v h':=by
 simp only[rh] at ai
 split at ai
 case h_2=> cases ai
 rename_i s
 simp only[j6,Option.some.injEq,Prod.mk.injEq] at ai
 obtain ⟨rfl,rfl⟩:=ai
 obtain ⟨rfl,_⟩:=bF.1 hx
 refine aN.same (u:= .int .i64 s.size) ?_ (bF.2 ⟨rfl,rfl⟩) hs
 simp[Builtin.len_,underlying,hu,goInt]
def SB (L:cG) (c:Ctx):Option V→Option Value→Prop
 | none,none=> True
 | some y,some u=> RV L c y u
 | _,_=> False
theorem dX {x:Option V} {d n:Nat} (hn:cX x d=some n) {u:Option Value} (hx:SB L c x u):(u=none∧x=none∧n=d)∨∃k,u=some (.int k (n:Int)):=by
 cases x with
 | none=>
   simp only[cX,Option.some.injEq] at hn
   cases u with
   | none=> exact .inl ⟨rfl,rfl,hn.symm⟩
   | some _=> exact hx.elim
 | some y=>
   cases u with
   | none=> exact hx.elim
   | some uy=>
     cases y <;> try (simp[cX] at hn;done)
     rename_i q
     cases q <;> try (simp[cX] at hn;done)
     rename_i k m
     simp only[cX] at hn
     split at hn
     ·rename_i h0
      simp only[Option.some.injEq] at hn
      obtain ⟨rfl,_⟩:=bF.1 hx
      exact .inr ⟨k,by congr 2;omega⟩
     ·cases hn
theorem eW {k:IntKind} {n y:Nat} {code:BoundsCode} (hle:n≤y):(Instr.sliceBound (.int k (n:Int)) y code).run P w= .ok n w:=by
 simp only[Instr.sliceBound,asIntOf,Sem.run_bind,Sem.run_pure,Result.andThen_ok]
 rw[if_pos ⟨by omega,by omega⟩]
 simp
theorem DF {T:Nat} {el:TypeId} {g:Option Nat} (hu:P.underlying T=some (.slice el)) (cm:TG P L el g) {a:Option Addr} {len cap l r:Nat} {ul ur:Option Value} (hl:(ul=none∧l=0)∨∃k,ul=some (.int k (l:Int)))
 (hr:(ur=none∧r=len)∨∃k,ur=some (.int k (r:Int))) (sb:l≤r) (gk:r≤cap):
 (Instr.sliceAt T (.slice a len cap) ul ur none).run P w= .ok (.slice (if cap=l then a else a.map (·.add (l * L.aD g))) (r - l) (cap - l)) w:=by
 have hb:(Instr.sliceBounds true len cap ul ur none).run P w= .ok (l,r,cap) w:=by
   rcases hl with ⟨rfl,rfl⟩ | ⟨kl,rfl⟩<;> rcases hr with ⟨rfl,rfl⟩ | ⟨kr,rfl⟩<;> simp[Instr.sliceBounds,eW sb,eW gk]
 simp only[Instr.sliceAt,Instr.slice,underlying,Sem.run_bind,run_program,Result.andThen_ok,hu,Sem.run_pure,hb,cm.sizeOf]
theorem zG {T:Nat} {el:TypeId} {g:Option Nat} (hu:P.underlying T=some (.slice el)) (cm:TG P L el g) {a:Option Addr} {len cap l r m:Nat} {ul:Option Value} {kr km:IntKind} (hl:(ul=none∧l=0)∨∃k,ul=some (.int k (l:Int)))
 (sb:l≤r) (CV:r≤m) (hmc:m≤cap):
 (Instr.sliceAt T (.slice a len cap) ul (some (.int kr (r:Int))) (some (.int km (m:Int)))).run P w= .ok (.slice (if m=l then a else a.map (·.add (l * L.aD g))) (r - l) (m - l)) w:=by
 have hb:(Instr.sliceBounds true len cap ul (some (.int kr (r:Int))) (some (.int km (m:Int)))).run P w= .ok (l,r,m) w:=by
   rcases hl with ⟨rfl,rfl⟩ | ⟨kl,rfl⟩<;> simp[Instr.sliceBounds,eW sb,eW CV,eW hmc]
 simp only[Instr.sliceAt,Instr.slice,underlying,Sem.run_bind,run_program,Result.andThen_ok,hu,Sem.run_pure,hb,cm.sizeOf]
theorem xT (hL:L.OK) {full:Bool} {es:List V} {a:Option Addr} {n k l r k':Nat} {g:Option Nat} (hx:RV L c (.al full g es) (.slice a n k)) (sb:l≤r) (hr:r≤es.length) (full':Bool) (mD:r - l≤k') (hf:full'=true→k'=r - l)
 (a':Option Addr) (pI:l < r→a'=a.map (·.add (l * L.aD g))):RV L c (.al full' g ((es.drop l).take (r - l))) (.slice a' (r - l) k'):=by
 have hlen:((es.drop l).take (r - l)).length=r - l:=by simp;omega
 obtain ⟨a0,k0,heq,h1,h2,cY,h3⟩:=dh.1 hx
 simp only[Value.slice.injEq] at heq
 obtain ⟨rfl,rfl,rfl⟩:=heq
 refine dh.2 ⟨a',k',by rw[hlen],by rw[hlen];exact mD,fun h=> by rw[hlen];exact hf h,fun y hy=> cY y (acY (acA hy)),?_⟩
 by_cases bR:l < r
 ·right
  rcases h3 with rfl | ⟨b,off,cs,ty,fz,rfl,hz,gk⟩
  ·simp at hr;omega
  ·refine ⟨b,off+l * L.aD g,cs,ty,fz,by rw[pI bR];simp[eV],hz,?_⟩
   have:=xO hL gk (fun y hy=>(cY y hy).1) l (r - l) (by omega)
   have hmul:(l+(r - l))* L.aD g≤es.length * L.aD g:=acE _ (by omega)
   rw[adG] at hmul
   simp only[og] at this ⊢
   rw[adM,ads,adn,acZ (by omega)] at this
   rw[hlen];exact this
 ·left
  rw[show r - l=0 by omega];simp
theorem fK {full:Bool} {g:Option Nat} {a:Option Addr} {k:Nat} (hf:full=true→k=0):RV L c (.al full g []) (.slice a 0 k):=
 dh.2 ⟨a,k,rfl,ae1 _,fun h=> by simpa using hf h,by simp,Or.inl rfl⟩
def gu (L:cG) (c:Ctx):List V→List Value→Prop
 | [],[]=> True
 | v::vs,u::us=> RV L c v u∧gu L c vs us
 | _,_=> False
theorem gu.length :∀ {vs:List V} {us:List Value},gu L c vs us→us.length=vs.length
 | [],[],_=> rfl
 | [],_::_,h=> h.elim
 | _::_,[],h=> h.elim
 | _::_,_::_,h=> by simp[gu.length h.2]
theorem gu.get :∀ {vs:List V} {us:List Value},gu L c vs us→∀(i:Nat) (y:V) (u:Value),vs[i]? =some y→us[i]? =some u→RV L c y u
 | [],[],_,i,y,u,h1,_=> by simp at h1
 | [],_::_,h,_,_,_,_,_=> h.elim
 | _::_,[],h,_,_,_,_,_=> h.elim
 | v::vs,x::us,h,0,y,u,h1,h2=> by
   simp at h1 h2;subst h1;subst h2;exact h.1
 | v::vs,x::us,h,i+1,y,u,h1,h2=> gu.get h.2 i y u (by simpa using h1) (by simpa using h2)
theorem jS {ul ur:Option Value} {bs:List V} (hv:gu L c bs (ul.toList++ur.toList)) {a b:Option V} (hb:aO ul.isSome ur.isSome bs=some (a,b)):SB L c a ul∧SB L c b ur:=by
 cases ul with
 | none=>
   cases ur with
   | none=>
     simp only[aeA,acL] at hv
     match bs,hv with
     | [],_=> simp only[aO,adF,Option.some.injEq,Prod.mk.injEq] at hb;obtain ⟨rfl,rfl⟩:=hb;exact ⟨trivial,trivial⟩
   | some u=>
     simp only[aeA,aeB,ac1] at hv
     match bs,hv with
     | [y],hv=> simp only[aO,adF,adr,Option.some.injEq,Prod.mk.injEq] at hb;obtain ⟨rfl,rfl⟩:=hb;exact ⟨trivial,hv.1⟩
     | _::_::_,hv=> exact hv.2.elim
 | some v=>
   cases ur with
   | none=>
     simp only[aeA,aeB,acL] at hv
     match bs,hv with
     | [y],hv=> simp only[aO,adF,adr,Option.some.injEq,Prod.mk.injEq] at hb;obtain ⟨rfl,rfl⟩:=hb;exact ⟨hv.1,trivial⟩
     | _::_::_,hv=> exact hv.2.elim
   | some u=>
     simp only[aeB,ade,ac1] at hv
     match bs,hv with
     | [y],hv=> exact hv.2.elim
     | [y,z],hv=> simp only[aO,adr,Option.some.injEq,Prod.mk.injEq] at hb;obtain ⟨rfl,rfl⟩:=hb;exact ⟨hv.1,hv.2.1⟩
     | _::_::_::_,hv=> exact hv.2.2.elim
theorem xU {x:V} {n:Nat} (hn:fj x=some n) {u:Value} (hx:RV L c x u):∃a k,u= .slice a n k∧n≤k:=by
 unfold fj at hn
 split at hn
 ·simp only[Option.some.injEq] at hn;subst hn
  obtain ⟨a,k,h1,h2,_⟩:=dh.1 hx;exact ⟨a,k,h1,h2⟩
 ·simp only[Option.some.injEq] at hn;subst hn
  obtain ⟨a,k,h1,_,h2,_⟩:=o7.1 hx;exact ⟨some a,k,h1,h2⟩
 ·cases hn
theorem FB (hL:L.OK) (hs:bp L c h w) {T:Nat} {el:TypeId} {g:Option Nat} (hu:P.underlying T=some (.slice el)) (cm:TG P L el g) {x:V} {a:Option Addr} {len cap:Nat} (hx:RV L c x (.slice a len cap))
 {ul ur:Option Value} {l r:Nat} (hl:(ul=none∧l=0)∨∃k,ul=some (.int k (l:Int))) (hr:(ur=none∧r=len)∨∃k,ur=some (.int k (r:Int)))
 {v:V} (ai:dH h g x l r=some v):aN L c w ((Instr.sliceAt T (.slice a len cap) ul ur none).run P w) v h:=by
 unfold dH at ai
 split at ai
 case isFalse=> cases ai
 rename_i sb
 split at ai
 ·rename_i full g' es
  split at ai
  case isFalse=> cases ai
  rename_i ng
  obtain ⟨rfl,ng⟩:=ng
  simp only[Option.some.injEq] at ai
  subst ai
  obtain ⟨a0,k0,heq,h1,h2,h3,h4⟩:=dh.1 hx
  simp only[Value.slice.injEq] at heq
  obtain ⟨rfl,rfl,rfl⟩:=heq
  rw[DF hu cm hl hr sb (by omega)]
  refine aN.same rfl (xT hL hx sb ng _ (by omega) (fun hf=> ?_) _ (fun bR=> by rw[if_neg (by omega)])) hs
  simp only[acn,beq_iff_eq] at hf
  have:=h2 hf.1;omega
 ·rename_i id path g' off n aB
  split at ai
  case h_2=> cases ai
  rename_i es cE
  split at ai
  case isFalse=> cases ai
  rename_i oK
  obtain ⟨rfl,oK⟩:=oK
  obtain ⟨ll,o,e,m,us,ty,fz,dF,ht,pf,hg,hz,dt,hle,gk,cY,kI,pK,jb⟩:=hs.rowAt hL cE
  obtain ⟨rfl,k,heq,mR,hm⟩:=dU hx dF ht pf
  simp only[Value.slice.injEq] at heq
  obtain ⟨rfl,rfl,rfl⟩:=heq
  have gF:r≤cap:=by
    rcases oK with hf | hf
    ·omega
    ·cases m with
     | none=> simp only[fp] at hm;have:=(kI rfl).1;omega
     | some n=> simp only[fp] at hm;have:=pK n rfl;omega
  rw[DF hu cm hl hr sb gF]
  split at ai
  ·rename_i gq
   simp only[Option.some.injEq] at ai
   subst ai
   have abp:(if cap=l then some (⟨ll.bE,o+off * L.aD e,none⟩:Addr) else (some (⟨ll.bE,o+off * L.aD e,none⟩:Addr)).map (·.add (l * L.aD e)))=some ⟨ll.bE,o+(off+l)* L.aD e,none⟩:=by
     by_cases h0:l=0
     ·subst h0;split <;> simp[eV]
     ·rw[if_neg (by omega)]
      simp only[acO,eV,adG,aek]
   rw[abp]
   refine aN.same rfl (nC hs dF ht pf (by omega) ?_) hs
   cases m with
   | none=>
     simp only[fp] at hm ⊢
     have:=(kI rfl).1
     omega
   | some n=> simp only[fp] at hm ⊢;omega
  ·rename_i gq
   simp only[Option.some.injEq] at ai
   subst ai
   have e0:r - l=0:=by omega
   rw[e0]
   exact aN.same rfl (fK (fun hf=> by cases hf)) hs
 ·cases ai
theorem uH (hL:L.OK) (hs:bp L c h w) {T:Nat} {el:TypeId} {g:Option Nat} (hu:P.underlying T=some (.slice el)) (cm:TG P L el g) {x:V} {a:Option Addr} {len cap:Nat} (hx:RV L c x (.slice a len cap))
 {ul:Option Value} {kr km:IntKind} {l r m:Nat} (hl:(ul=none∧l=0)∨∃k,ul=some (.int k (l:Int)))
 {v:V} (ai:sN h g x l r m=some v):aN L c w ((Instr.sliceAt T (.slice a len cap) ul (some (.int kr (r:Int))) (some (.int km (m:Int)))).run P w) v h:=by
 unfold sN at ai
 split at ai
 case isFalse=> cases ai
 rename_i sb
 obtain ⟨sb,CV⟩:=sb
 split at ai
 ·rename_i full g' es
  split at ai
  case isFalse=> cases ai
  rename_i ng
  obtain ⟨rfl,ng⟩:=ng
  simp only[Option.some.injEq] at ai
  subst ai
  obtain ⟨a0,k0,heq,h1,h2,h3,h4⟩:=dh.1 hx
  simp only[Value.slice.injEq] at heq
  obtain ⟨rfl,rfl,rfl⟩:=heq
  rw[zG hu cm hl sb CV (by omega)]
  refine aN.same rfl (xT hL hx sb (by omega) _ (by omega) (fun hf=> ?_) _ (fun bR=> by rw[if_neg (by omega)])) hs
  simp only[beq_iff_eq] at hf
  omega
 ·rename_i id path g' off n aB
  split at ai
  case h_2=> cases ai
  rename_i es cE
  split at ai
  case isFalse=> cases ai
  rename_i oK
  obtain ⟨ll,o,e,m',us,ty,fz,dF,ht,pf,hg,hz,dt,hle,gk,cY,kI,pK,jb⟩:=hs.rowAt hL cE
  obtain ⟨rfl,k,heq,mR,hm⟩:=dU hx dF ht pf
  simp only[Value.slice.injEq] at heq
  obtain ⟨rfl,rfl,rfl⟩:=heq
  have gF:m≤cap:=by
    rcases oK with hf | hf
    ·omega
    ·cases m' with
     | none=> simp only[fp] at hm;have:=(kI rfl).1;omega
     | some n=> simp only[fp] at hm;have:=pK n rfl;omega
  rw[zG hu cm hl sb CV gF]
  split at ai
  ·simp only[Option.some.injEq] at ai
   subst ai
   have e0:r - l=0:=by omega
   rw[e0]
   exact aN.same rfl (fK (fun hf=> by omega)) hs
  ·simp only[Option.some.injEq] at ai
   subst ai
   exact aN.same rfl ⟨[_],⟨_,rfl⟩,rfl⟩ hs
 ·cases ai
theorem SC (hL:L.OK) (hs:bp L c h w) {T:Nat} {el:TypeId} {g:Option Nat} (hu:P.underlying T=some (.slice el)) (cm:TG P L el g) {x:V} {ux:Value} (hx:RV L c x ux)
 {ul ur um:Option Value} {bs:List V} (hb:gu L c bs (ul.toList++ur.toList++um.toList)) {v:V} {h':Hp} (ai:gV h g ul.isSome ur.isSome um.isSome x bs=some (v,h')):
 aN L c w ((Instr.sliceAt T ux ul ur um).run P w) v h':=by
 simp only[gV] at ai
 split at ai
 case h_2=> cases ai
 rename_i len hlen
 obtain ⟨a,k,rfl,mR⟩:=xU hlen hx
 cases um with
 | none=>
   simp only[adF] at ai
   split at ai
   case h_2=> cases ai
   rename_i p q vU
   simp only[aeA,acL] at hb
   obtain ⟨h1,h2⟩:=jS hb vU
   split at ai
   case h_2=> cases ai
   rename_i l r hl hr
   obtain ⟨v',BB,he⟩:=ach.1 ai
   simp only[Prod.mk.injEq] at he
   obtain ⟨rfl,rfl⟩:=he
   refine FB hL hs hu cm hx ?_ ?_ BB
   ·rcases dX hl h1 with ⟨e1,_,e2⟩ | h3
    ·exact Or.inl ⟨e1,e2⟩
    ·exact Or.inr h3
   ·rcases dX hr h2 with ⟨e1,_,e2⟩ | h3
    ·exact Or.inl ⟨e1,e2⟩
    ·exact Or.inr h3
 | some um=>
   simp only[adr] at ai
   split at ai
   ·rename_i heq;cases heq
   ·rename_i y m h1 h2 _
    have e1:ul=none:=by cases ul <;> simp_all
    obtain ⟨ur',rfl⟩:∃u,ur=some u:=by cases ur <;> simp_all
    subst e1
    simp only[aeA,aeB,ac1,ade] at hb
    split at ai
    case h_2=> cases ai
    rename_i r m' hr hm
    obtain ⟨v',BB,he⟩:=ach.1 ai
    simp only[Prod.mk.injEq] at he
    obtain ⟨rfl,rfl⟩:=he
    rcases dX (u:=some ur') hr hb.1 with ⟨e1,_⟩ | ⟨kr,e1⟩
    ·cases e1
    rcases dX (u:=some um) hm hb.2.1 with ⟨e2,_⟩ | ⟨km,e2⟩
    ·cases e2
    rw[e1,e2]
    exact uH hL hs hu cm hx (Or.inl ⟨rfl,rfl⟩) BB
   ·rename_i z y m h1 h2 _
    obtain ⟨ul',rfl⟩:∃u,ul=some u:=by cases ul <;> simp_all
    obtain ⟨ur',rfl⟩:∃u,ur=some u:=by cases ur <;> simp_all
    simp only[aeB,ac1,ade] at hb
    split at ai
    case h_2=> cases ai
    rename_i l r m' hl hr hm
    obtain ⟨v',BB,he⟩:=ach.1 ai
    simp only[Prod.mk.injEq] at he
    obtain ⟨rfl,rfl⟩:=he
    rcases dX (u:=some ul') hl hb.1 with ⟨e0,_⟩ | ⟨kl,e0⟩
    ·cases e0
    rcases dX (u:=some ur') hr hb.2.1 with ⟨e1,_⟩ | ⟨kr,e1⟩
    ·cases e1
    rcases dX (u:=some um) hm hb.2.2.1 with ⟨e2,_⟩ | ⟨km,e2⟩
    ·cases e2
    rw[e0,e1,e2]
    exact uH hL hs hu cm hx (Or.inr ⟨kl,rfl⟩) BB
   ·cases ai
theorem zH {T n:Nat} {el:TypeId} {g:Option Nat} (hu:P.underlying T=some (.array n el)) (cm:TG P L el g) {b o l r:Nat} {ul ur:Option Value} (hl:(ul=none∧l=0)∨∃k,ul=some (.int k (l:Int)))
 (hr:(ur=none∧r=n)∨∃k,ur=some (.int k (r:Int))) (sb:l≤r) (gk:r≤n):
 (Instr.sliceAt T (.pointer (some ⟨b,o,none⟩)) ul ur none).run P w= .ok (.slice (some (if n=l then ⟨b,o,none⟩ else ⟨b,o+l * L.aD g,none⟩)) (r - l) (n - l)) w:=by
 have hb:(Instr.sliceBounds false n n ul ur none).run P w= .ok (l,r,n) w:=by
   rcases hl with ⟨rfl,rfl⟩ | ⟨kl,rfl⟩<;> rcases hr with ⟨rfl,rfl⟩ | ⟨kr,rfl⟩<;> simp[Instr.sliceBounds,eW sb,eW gk]
 simp only[Instr.sliceAt,Instr.sureAddr,underlying,Sem.run_bind,run_program,Result.andThen_ok,hu,Sem.run_pure,hb,cm.sizeOf,eV]
theorem SD (hL:L.OK) (hs:bp L c h w) {T t n:Nat} {el:TypeId} {g:Option Nat} (hu:P.underlying T=some (.array n el)) (cm:TG P L el g) (ha:L.arr t=some (n,g)) {x:V} {ux:Value} (hx:RV L c x ux)
 {ul ur:Option Value} {bs:List V} (hb:gu L c bs (ul.toList++ur.toList)) {v:V} {h':Hp} (ai:rB h t g ul.isSome ur.isSome x bs=some (v,h')):
 aN L c w ((Instr.sliceAt T ux ul ur none).run P w) v h':=by
 simp only[rB] at ai
 split at ai
 case h_2=> cases ai
 rename_i p q vU
 obtain ⟨h1,h2⟩:=jS hb vU
 split at ai
 ·rename_i id path aB
  split at ai
  case h_2=> cases ai
  rename_i t' es hn
  split at ai
  case isFalse=> cases ai
  rename_i ht';subst ht'
  split at ai
  case h_2=> cases ai
  rename_i l r hl hr
  split at ai
  case isFalse=> cases ai
  rename_i hc
  obtain ⟨sb,hrn⟩:=hc
  obtain ⟨ll,j',pp,o,us,ty,fz,rfl,oC,ht,ho,⟨o',mI⟩,hg,hz,dt,hle,gk⟩:=hs.nodeAt hL hn
  have Fz:=jO hx oC ht ho
  subst Fz
  simp only[RC] at gk
  obtain ⟨e',pI,cY⟩:=gk.2
  rw[ha] at pI
  simp only[Option.some.injEq,Prod.mk.injEq] at pI
  obtain ⟨rfl,rfl⟩:=pI
  have Kf:o=j' * L.aD ll.tag+o':=by
    simp only[cG.off,mI,acO,Option.some.injEq] at ho
    omega
  have cE:L.row ll.tag (j'::pp)=some (o,g,some es.length):=by simp only[cG.row,mI,V.ty,ha,acO,Kf]
  have dF:(ul=none∧l=0)∨∃k,ul=some (.int k (l:Int)):=by
    rcases dX hl h1 with ⟨e1,_,e2⟩ | h3
    ·exact Or.inl ⟨e1,e2⟩
    ·exact Or.inr h3
  have hr':(ur=none∧r=es.length)∨∃k,ur=some (.int k (r:Int)):=by
    rcases dX hr h2 with ⟨e1,_,e2⟩ | h3
    ·exact Or.inl ⟨e1,e2⟩
    ·exact Or.inr h3
  rw[zH hu cm dF hr' sb hrn]
  split at ai
  ·rename_i gq
   simp only[Option.some.injEq,Prod.mk.injEq] at ai
   obtain ⟨rfl,rfl⟩:=ai
   have e1:(if es.length=l then (⟨ll.bE,o,none⟩:Addr) else ⟨ll.bE,o+l * L.aD g,none⟩)=⟨ll.bE,o+l * L.aD g,none⟩:=by
     split
     ·have:l=0:=by omega
      subst this;simp
     ·rfl
   rw[e1]
   exact aN.same rfl (nC hs oC ht cE (by omega) (by simp only[fp];omega)) hs
  ·simp only[Option.some.injEq,Prod.mk.injEq] at ai
   obtain ⟨rfl,rfl⟩:=ai
   have e0:r - l=0:=by omega
   rw[e0]
   exact aN.same rfl (fK (fun _=> by omega)) hs
 ·rename_i t' es
  split at ai
  case isFalse=> cases ai
  rename_i ht';subst ht'
  split at ai
  case h_2=> cases ai
  rename_i l r hl hr
  split at ai
  case isFalse=> cases ai
  rename_i hc
  obtain ⟨sb,hrn⟩:=hc
  simp only[Option.some.injEq,Prod.mk.injEq] at ai
  obtain ⟨rfl,rfl⟩:=ai
  obtain ⟨b,off,cs,ty,fz,rfl,hz,gk⟩:=gL.1 hx
  simp only[RC] at gk
  obtain ⟨gk,e',pI,cY⟩:=gk
  rw[ha] at pI
  simp only[Option.some.injEq,Prod.mk.injEq] at pI
  obtain ⟨rfl,rfl⟩:=pI
  have dF:(ul=none∧l=0)∨∃k,ul=some (.int k (l:Int)):=by
    rcases dX hl h1 with ⟨e1,_,e2⟩ | h3
    ·exact Or.inl ⟨e1,e2⟩
    ·exact Or.inr h3
  have hr':(ur=none∧r=es.length)∨∃k,ur=some (.int k (r:Int)):=by
    rcases dX hr h2 with ⟨e1,_,e2⟩ | h3
    ·exact Or.inl ⟨e1,e2⟩
    ·exact Or.inr h3
  rw[zH hu cm dF hr' sb hrn]
  have cU:L.aD (V.ty (.arr t' es))=es.length * L.aD g:=by simp[V.ty,cG.aD,hL.ar _ _ _ ha]
  rw[cU] at gk
  have bV:RV L c (.al true g es) (.slice (some ⟨b,off,none⟩) es.length es.length):=dh.2 ⟨_,_,rfl,acm _,fun _=> rfl,cY,Or.inr ⟨b,off,cs,ty,fz,rfl,hz,gk⟩⟩
  refine aN.same rfl (xT hL bV sb hrn _ (by omega) (fun hf=> ?_) _ (fun bR=> by rw[if_neg (by omega)];simp[eV])) hs
  simp only[beq_iff_eq] at hf;omega
 ·cases ai
theorem SE (hs:bp L c h w) {T:Nat} (hu:P.underlying T=some .string) {x:V} {ux:Value} (hx:RV L c x ux)
 {ul ur:Option Value} {bs:List V} (hb:gu L c bs (ul.toList++ur.toList)) {v:V} {h':Hp} (ai:wC h ul.isSome ur.isSome x bs=some (v,h')):
 aN L c w ((Instr.sliceAt T ux ul ur none).run P w) v h':=by
 simp only[wC] at ai
 split at ai
 case h_2=> cases ai
 rename_i s p q vU
 obtain ⟨h1,h2⟩:=jS hb vU
 split at ai
 case h_2=> cases ai
 rename_i l r hl hr
 split at ai
 case isFalse=> cases ai
 rename_i hc
 obtain ⟨sb,hrn⟩:=hc
 simp only[j6,Option.some.injEq,Prod.mk.injEq] at ai
 obtain ⟨rfl,rfl⟩:=ai
 obtain ⟨rfl,_⟩:=bF.1 hx
 have hbd:(Instr.sliceBounds false s.size s.size ul ur none).run P w= .ok (l,r,s.size) w:=by
   rcases dX hl h1 with ⟨rfl,_,rfl⟩ | ⟨kl,rfl⟩<;> rcases dX hr h2 with ⟨rfl,_,rfl⟩ | ⟨kr,rfl⟩<;> simp[Instr.sliceBounds,eW sb,eW hrn]
 refine aN.same (u:= .string (s.extract l r)) ?_ (bF.2 ⟨rfl,rfl⟩) hs
 simp only[Instr.sliceAt,Instr.slice,underlying,Sem.run_bind,run_program,Result.andThen_ok,hu,Sem.run_pure,adF,acz,if_false,hbd]
end Go.Vm
namespace Go.Vm
variable {P : Program} {L : cG} {c : Ctx} {h : Hp} {w : World}
structure Src (P:Program) (L:cG) (c:Ctx) (w:World) (g:Option Nat) (ys:List V) (u:Value) (us:List Value):Prop where
 len:(Builtin.lenOf u).run P w= .ok ys.length w
 first:∀(w':World) (n:Nat),w'.heap=w.heap→n≤ys.length→(Builtin.firstCells (L.aD g) n u).run P w'= .ok (us.take (n * L.aD g)).toArray w'
 rc:cB L c ys us
 el:∀y∈ys,y.ty=g∧y.aA=true
theorem BW {w w':World} (hw:w'.heap=w.heap) (a:Addr):w'.cell? a=w.cell? a:=by simp[World.cell?,hw]
theorem eX (s:ByteArray):(dW s).length=s.size:=by simp[dW]
theorem rO (s:ByteArray):cB L c (dW s) (s.data.toList.map fun b=> Value.int .u8 b.toNat):=by
 unfold dW
 induction s.data.toList with
 | nil=> simp[cB]
 | cons b l ih=> exact ⟨[Value.int .u8 b.toNat],_,rfl,by simp[aa,RC,Value.oneCell'],ih⟩
theorem nK (s:ByteArray):∀y∈dW s,y.ty=none∧y.aA=true:=fun y hy=> by
 simp only[dW,ac6] at hy
 obtain ⟨b,_,rfl⟩:=hy
 exact ⟨rfl,rfl⟩
theorem oq (hL:L.OK) (hs:bp L c h w) {x:V} {u:Value} (hx:RV L c x u) {g:Option Nat} {ys:List V} (he:source h x=some (g,ys)):∃us,Src P L c w g ys u us:=by
 unfold source at he
 split at he
 ·rename_i s
  simp only[Option.some.injEq,Prod.mk.injEq] at he
  obtain ⟨rfl,rfl⟩:=he
  obtain ⟨rfl,_⟩:=bF.1 hx
  refine ⟨_,⟨by simp[Builtin.lenOf,eX],fun w' n hw hn=> ?_,rO s,nK s⟩⟩
  simp only[Builtin.firstCells,cG.aD,Sem.run_pure]
  congr 1
  apply aef
  have cU:s.data.toList.length=s.size:=by simp
  simp[ByteArray.data_extract,aeX]
 ·obtain ⟨a,k,rfl,mR,cm,gq⟩:=ql hL hs hx he
  rcases gq with rfl | ⟨b,o,us,ty,fz,rfl,hg,hr⟩
  ·refine ⟨[],⟨by simp[Builtin.lenOf],fun w' n hw hn=> ?_,by simp[cB],cm⟩⟩
   obtain rfl:n=0:=by simpa using hn
   cases a <;> simp[Builtin.firstCells,loadCells,loadCellsFrom]
  ·refine ⟨_,⟨by simp[Builtin.lenOf],fun w' n hw hn=> ?_,hr,cm⟩⟩
   have hlen:=q8z hL hr (fun y hy=>(cm y hy).1)
   have hmul:n * L.aD g≤ys.length * L.aD g:=acE _ hn
   refine run_firstCells_some (P:=P) w' (L.aD g) n ⟨b,o,none⟩ _ _ _ (by rw[acI,hlen];omega) (fun j v hj=> ?_)
   rw[BW hw]
   refine oe hL hg hr (fun y hy=>(cm y hy).1) j v ?_
   rw[adL] at hj
   split at hj
   ·exact hj
   ·cases hj
theorem vu (w:World) (need db:Nat) (e:TypeId):need≤grownCap w need db e:=grownCap_ge w need db e
theorem xV {T T2 el:TypeId} {i:TypeInfo} (ht:P.underlying T=some (.slice el)) (hi:P.info? el=some i) (h2:(∃e2,P.underlying T2=some (.slice e2))∨P.underlying T2=some .string) {ty:TypeId} {g:Option Nat} (cU:i.size=L.aD g)
 {base:Option Addr} {sLen sCap:Nat} {u:Value} {ys:List V} {us:List Value} (mj:Src P L c w g ys u us) (gE:sLen+ys.length≤sCap) (w':World)
 (aR:(match base with | some a=>(storeCells (a.add (sLen * L.aD g)) (us.take (ys.length * L.aD g))).run P w | none=> .ok () w)= .ok () w'):
 (Builtin.append_ #[T,T2] ty #[.slice base sLen sCap,u]).run P w= .ok (.slice base (sLen+ys.length) sCap) w':=by
 have hf:=mj.first w ys.length rfl (acm _)
 rcases h2 with ⟨e2,hd⟩ | hd
 all_goals
   cases base with
   | none=>
     simp only[Result.ok.injEq,true_and] at aR
     subst aR
     simp[Builtin.append_,run_underlying ht,run_underlying hd,sizeOf,typeInfo,hi,cU,mj.len,gE,hf]
   | some a=>
     simp only at aR
     simp[Builtin.append_,run_underlying ht,run_underlying hd,sizeOf,typeInfo,hi,cU,mj.len,gE,hf,aR]
theorem xW {T T2 el:TypeId} {i:TypeInfo} {z:Value} (ht:P.underlying T=some (.slice el)) (hi:P.info? el=some i) (hzero:i.zero=some z) (h2:(∃e2,P.underlying T2=some (.slice e2))∨P.underlying T2=some .string) {ty:TypeId} {g:Option Nat} (cU:i.size=L.aD g)
 {base:Option Addr} {sLen sCap:Nat} {olds:List Value} (hold:(Builtin.firstCells (L.aD g) sLen (.slice base sLen sCap)).run P w.drew= .ok olds.toArray w.drew)
 {u:Value} {ys:List V} {us:List Value} (mj:Src P L c w g ys u us) (DC:us.length=ys.length * L.aD g) (gE:sCap < sLen+ys.length) (hlen:(sLen+ys.length)* i.bytes≤140737488355328) (h63:sLen+ys.length≤9223372036854775807):
 (Builtin.append_ #[T,T2] ty #[.slice base sLen sCap,u]).run P w= .ok (.slice (some ⟨w.heap.size,0,none⟩) (sLen+ys.length) (grownCap w (sLen+ys.length) sCap el))
   (w.drew.alloc (.cells (olds++us++(Builtin.zeroCells z.cells (grownCap w (sLen+ys.length) sCap el - (sLen+ys.length))).toList).toArray el)):=by
 have hf:=mj.first w.drew ys.length rfl (acm _)
 rw[←DC,adN] at hf
 have hn:¬(sLen+ys.length≤sCap):=by omega
 have h63':¬(9223372036854775807 <((sLen:Int)+(ys.length:Int))):=by omega
 have oK:=growslice_fits (need:=sLen+ys.length) gE hlen
 have h48':¬(281474976710656 < Builtin.nextslicecap (sLen+ys.length) sCap * i.bytes):=by omega
 rcases h2 with ⟨e2,hd⟩ | hd
 all_goals
   simp[Builtin.append_,run_underlying ht,run_underlying hd,sizeOf,typeInfo,zeroValue,hi,cU,mj.len,hzero,hn,h63',h48',Question.forced,hf,hold,newRow,grownCap]
   congr 2
   apply aef
   simp[acs]
theorem jB (hL:L.OK) (hs:bp L c h w) {id:Nat} {g:Option Nat} {l:Loc} {us:Array Value} {ty:TypeId} {fz:Nat×Nat} (hl:c.loc id=some l) (cD:l.tag=g) (hz:c.z l.bE=none) (hg:w.heap[l.bE]? =some (.cells us ty fz))
 (dt:J7 g us.size fz) (cU:us.size=l.cap * L.aD g) {es':List V} (cY:∀y∈es',y.ty=g∧y.aA=true) (hlen:l.aB≤es'.length) (gF:es'.length≤l.cap) {o:Nat} {vs:List Value} (ho:o+vs.length≤us.size)
 (hr:cB L c es' ((lay us.toList o vs).take (es'.length * L.aD g))):
 ∃l',l'= {l with aB:=es'.length}∧bp L (c.move id l') (h.set id (.cells g es')) (w.setCells l.bE o vs)∧c.le (c.move id l')∧(c.move id l').loc id=some l':=by
 have hle:c.le (c.move id {l with aB:=es'.length}):=Ctx.xL c id l _ hl rfl hlen (fun _=>⟨rfl,rfl⟩)
 refine ⟨_,rfl,?_,hle,by simp[Ctx.move]⟩
 have qo:(lay us.toList o vs).length=us.size:=by rw[ei _ _ _ (by simpa using ho)];simp
 refine hs.move hl _ hle hz (Or.inl rfl) (fun b hb sI=> q13z l.bE _ _ _ b sI) (fun o' kP=> by rw[hz] at kP;cases kP) ?_
 exact ⟨cD,rfl,gF,cY,_,ty,fz,dI l.bE ty fz vs o us w hg ho,by simpa[qo] using cU,⟨fun j hj=> dt.1 j (by simpa[qo] using hj),dt.2⟩,by simpa using hr.mono hle⟩
theorem nA (hL:L.OK) {es ys:List V} {us vs:List Value} {g:Option Nat} (h1:cB L c es us) (h2:cB L c ys vs) (he:∀y∈es,y.ty=g) (hy:∀y∈ys,y.ty=g) {n:Nat} (hn:n+ys.length≤es.length):
 cB L c (es.take n++ys++es.drop (n+ys.length)) (lay us (n * L.aD g) vs):=by
 have hv:=q8z hL h2 hy
 have a:=(fq hL h1 he n (by omega)).1
 have b:=(fq hL h1 he (n+ys.length) hn).2
 rw[acs]
 refine ej.2 ⟨_,_,rfl,a,ej.2 ⟨_,_,rfl,h2,?_⟩⟩
 rw[hv,←Nat.add_mul];exact b
theorem iC {us vs:List Value} {a b:Nat} (h:a+vs.length≤us.length) (hb:a+vs.length=b):(lay us a vs).take b=us.take a++vs:=by
 simp only[lay]
 rw[←List.append_assoc,acV (by simp;omega),ack (by simp;omega)]
structure Apd (P:Program) (L:cG) (c:Ctx) (w:World) (T T2 ty el:TypeId) (i:TypeInfo) (g:Option Nat) (ys:List V) (u:Value) (us:List Value):Prop where
 room:∀(base:Option Addr) (sLen sCap:Nat) (w':World),sLen+ys.length≤sCap→(match base with | some a=>(storeCells (a.add (sLen * L.aD g)) (us.take (ys.length * L.aD g))).run P w | none=> .ok () w)= .ok () w'→
   (Builtin.append_ #[T,T2] ty #[.slice base sLen sCap,u]).run P w= .ok (.slice base (sLen+ys.length) sCap) w'
 grow:∀(z:Value),i.zero=some z→∀(base:Option Addr) (sLen sCap:Nat) (olds:List Value),(Builtin.firstCells (L.aD g) sLen (.slice base sLen sCap)).run P w.drew= .ok olds.toArray w.drew→us.length=ys.length * L.aD g→sCap < sLen+ys.length→(sLen+ys.length)* i.bytes≤140737488355328→sLen+ys.length≤9223372036854775807→
   (Builtin.append_ #[T,T2] ty #[.slice base sLen sCap,u]).run P w= .ok (.slice (some ⟨w.heap.size,0,none⟩) (sLen+ys.length) (grownCap w (sLen+ys.length) sCap el))
     (w.drew.alloc (.cells (olds++us++(Builtin.zeroCells z.cells (grownCap w (sLen+ys.length) sCap el - (sLen+ys.length))).toList).toArray el))
 rc:cB L c ys us
 el:∀y∈ys,y.ty=g∧y.aA=true
theorem Src.apd {T T2 ty el:TypeId} {i:TypeInfo} {g:Option Nat} {ys:List V} {u:Value} {us:List Value} (ht:P.underlying T=some (.slice el)) (hi:P.info? el=some i) (h2:(∃e2,P.underlying T2=some (.slice e2))∨P.underlying T2=some .string) (cU:i.size=L.aD g) (hs:Src P L c w g ys u us):
 Apd P L c w T T2 ty el i g ys u us:=
 ⟨fun _ _ _ w' hr aR=> xV ht hi h2 cU hs hr w' aR,fun z hz _ _ _ _ ho hf hr hl h63=> xW ht hi hz h2 cU ho hs hf hr hl h63,hs.rc,hs.el⟩
theorem FC (z:Array Value) (n:Nat):(Builtin.zeroCells z n).toList=(List.replicate n z.toList).flatten:=jC z n
theorem FD (hL:L.OK) {T T2 ty el:TypeId} {i:TypeInfo} {z:Value} {g:Option Nat} {zv:V} {kd:IntKind} (ht:P.underlying T=some (.slice el)) (hi:P.info? el=some i) (pq:i.zero=some z) (pL:∀c,RV L c zv z) (jM:zv.ty=g) (iV:zv.aA=true) (h2:P.underlying T2=some (.int kd)) (cU:i.size=L.aD g) (nV:0 < i.bytes) {k:Nat} (hk:k * i.bytes≤140737488355328):
 Apd P L c w T T2 ty el i g (List.replicate k zv) (.int .i64 k) (Builtin.zeroCells z.cells k).toList:=by
 have vn:=(pL c).aW hL iV
 rw[jM] at vn
 have hkk:k≤140737488355328:=acN (adJ _ nV) hk
 have gk:cB L c (List.replicate k zv) (Builtin.zeroCells z.cells k).toList:=by
   rw[FC];exact ew ((pL c).cells iV).1 k
 have cm:∀y∈List.replicate k zv,y.ty=g∧y.aA=true:=fun y hy=> by rw[ac4 hy];exact ⟨jM,iV⟩
 have hlen:=q8z hL gk (fun q hq=>(cm q hq).1)
 have iA:IntKind.i64.wrap (k:Int)=k:=IntWalk.i64_in _ (by omega)
 have zI:¬((k:Int)< 0):=by omega
 have h48:¬((2:Int)^ 48 <(k:Int)*(i.bytes:Int)):=by
   have:((k * i.bytes:Nat):Int)≤140737488355328:=Int.ofNat_le.2 hk
   rw[Int.natCast_mul] at this
   omega
 have h48b:¬((281474976710656:Int)<(k:Int)*(i.bytes:Int)):=by
   have:((k * i.bytes:Nat):Int)≤140737488355328:=Int.ofNat_le.2 hk
   rw[Int.natCast_mul] at this
   omega
 have oA:k * L.aD g=0→(Builtin.zeroCells z.cells k)= #[]:=fun h0=> by
   apply ad1
   rw[ac8] at hlen
   rw[←Array.length_toList,hlen,h0]
 refine ⟨fun base sLen sCap w' hr aR=> ?_,fun z' DG base sLen sCap olds hold abq gE hl h63=> ?_,gk,cm⟩
 ·simp only[ac8] at hr aR ⊢
  have ir:(match base with | some a=>(storeCells (a.add (sLen * L.aD g)) (Builtin.zeroCells z.cells k).toList).run P w | none=> .ok () w)= .ok () w':=by
    have:(Builtin.zeroCells z.cells k).toList.take (k * L.aD g)=(Builtin.zeroCells z.cells k).toList:=by
      rw[ack];rw[hlen];simp
    rwa [this] at aR
  cases base with
  | none=>
    simp only[Result.ok.injEq,true_and] at ir
    subst ir
    by_cases h0:k * L.aD g=0
    ·simp[Builtin.append_,run_underlying ht,run_underlying h2,sizeOf,typeInfo,zeroValue,hi,cU,pq,asInt,asIntOf,iA,zI,h48,h48b,hr,h0]
    ·simp[Builtin.append_,run_underlying ht,run_underlying h2,sizeOf,typeInfo,zeroValue,hi,cU,pq,asInt,asIntOf,iA,zI,h48,h48b,hr,h0]
  | some a=>
    simp only at ir
    by_cases h0:k * L.aD g=0
    ·rw[oA h0] at ir
     simp[Builtin.append_,run_underlying ht,run_underlying h2,sizeOf,typeInfo,zeroValue,hi,cU,pq,asInt,asIntOf,iA,zI,h48,h48b,hr,h0,ir]
    ·simp[Builtin.append_,run_underlying ht,run_underlying h2,sizeOf,typeInfo,zeroValue,hi,cU,pq,asInt,asIntOf,iA,zI,h48,h48b,hr,h0,ir]
 ·rw[pq] at DG
  cases DG
  simp only[ac8] at abq gE hl h63 ⊢
  have hn:¬(sLen+k≤sCap):=by omega
  have h63':¬(9223372036854775807 <((sLen:Int)+(k:Int))):=by omega
  have oK:=growslice_fits (need:=sLen+k) gE hl
  have h48':¬(281474976710656 < Builtin.nextslicecap (sLen+k) sCap * i.bytes):=by omega
  by_cases h0:k * L.aD g=0
  ·rw[oA h0]
   simp[Builtin.append_,run_underlying ht,run_underlying h2,sizeOf,typeInfo,zeroValue,hi,cU,pq,asInt,asIntOf,iA,zI,h48,h48b,hn,h63',h48',Question.forced,hold,newRow,grownCap,h0]
   try (congr 2;apply aef;simp[acs])
  ·simp[Builtin.append_,run_underlying ht,run_underlying h2,sizeOf,typeInfo,zeroValue,hi,cU,pq,asInt,asIntOf,iA,zI,h48,h48b,hn,h63',h48',Question.forced,hold,newRow,grownCap,h0]
   try (congr 2;apply aef;simp[acs])
set_option maxHeartbeats 1000000 in
theorem nL (hL:L.OK) (hs:bp L c h w) {T T2 el:TypeId} {i:TypeInfo} {g:Option Nat} {zv:V} (ht:P.underlying T=some (.slice el)) (cm:TG P L el g) (hi:P.info? el=some i) (hz:eO P L el zv) (jM:zv.ty=g) (iV:zv.aA=true)
 {ty:TypeId} (nV:0 < i.bytes) {x:V} {ux uy:Value} (hx:RV L c x ux) {base:Nat} {v:V} {h':Hp} {gy:Option Nat} {ys:List V} {us:List Value} (src:Apd P L c w T T2 ty el i gy ys uy us) (ai:df base g i.bytes h x gy ys=some (v,h')):
 aN L c w ((Builtin.append_ #[T,T2] ty #[ux,uy]).run P w) v h':=by
 obtain ⟨i',xS,qp⟩:=cm.info
 rw[hi] at xS;cases xS
 obtain ⟨i2,z,qL,pq,pL⟩:=hz
 rw[hi] at qL;cases qL
 have vn:=(pL c).aW hL iV
 rw[jM] at vn
 have qq:=q8z hL src.rc (fun q hq=>(src.el q hq).1)
 unfold df at ai
 split at ai
 ·rename_i oA
  subst oA
  obtain ⟨n,hn,he⟩:=ach.1 ai
  simp only[Prod.mk.injEq] at he
  obtain ⟨rfl,rfl⟩:=he
  obtain ⟨a,k,rfl,mR⟩:=xU hn hx
  have BX:us=[]:=by simpa[cB] using src.rc
  subst BX
  have bo:=src.room a n k w (by simpa using mR) (by cases a <;> simp[storeCells])
  simp only[ada,aeC] at bo
  exact aN.same bo hx hs
 rename_i cC
 have ij:0 < ys.length:=afd.2 cC
 split at ai
 case isFalse=> cases ai
 rename_i hgy
 subst hgy
 have SF:∀n,n * i.bytes≤140737488355328→n≤140737488355328:=fun n hn=> by
   have:=adJ n nV;omega
 have grow:∀(es:List V) (a:Option Addr) (sCap:Nat) (olds:List Value),cB L c es olds→(∀q∈es,q.ty=gy∧q.aA=true)→(Builtin.firstCells (L.aD gy) es.length (.slice a es.length sCap)).run P w.drew= .ok olds.toArray w.drew→sCap < es.length+ys.length→(es.length+ys.length)* i.bytes≤140737488355328→
  ∃(l:Loc) (k:Nat) (w':World),(Builtin.append_ #[T,T2] ty #[.slice a es.length sCap,uy]).run P w= .ok (.slice (some ⟨l.bE,0,none⟩) (es.length+ys.length) k) w'∧l.bE=w.heap.size∧l.cap=k∧l.tag=gy∧l.aB=es.length+ys.length∧es.length+ys.length≤k∧St w w'∧
   w'=w.drew.alloc (.cells (olds++us++(Builtin.zeroCells z.cells (k - (es.length+ys.length))).toList).toArray el):=by
   intro es a sCap olds pf cY hold bR nJ
   have bo:=src.grow z pq a es.length sCap olds hold qq bR nJ (by have:=SF _ nJ;omega)
   exact ⟨⟨w.heap.size,_,gy,es.length+ys.length⟩,_,_,bo,rfl,rfl,rfl,rfl,vu w _ _ _,(St.drew w).trans (St.alloc _ _),rfl⟩
 split at ai
 ·rename_i g' es
  split at ai
  case isFalse=> cases ai
  rename_i hc
  obtain ⟨rfl,nJ⟩:=hc
  simp only[Option.some.injEq,Prod.mk.injEq] at ai
  obtain ⟨rfl,rfl⟩:=ai
  obtain ⟨a,k0,rfl,h1,DC,cY,gq⟩:=dh.1 hx
  have hk0:=DC rfl
  subst hk0
  obtain ⟨olds,so⟩:=oq (P:=P) hL hs hx (g:=g') (ys:=es) (by simp[source,elems])
  have pf:=so.rc
  have rP:=q8z hL pf (fun q hq=>(cY q hq).1)
  have hold:=so.first w.drew es.length rfl (acm _)
  rw[←rP,adN] at hold
  obtain ⟨l,k,w',bo,hb,gF,cD,cO,hnk,aR,mI⟩:=grow es a es.length olds pf cY hold (by omega) nJ
  have bV:cB L c (es++ys) (olds++us):=ej.2 ⟨_,_,rfl,pf,src.rc⟩
  obtain ⟨l2,qU,wL,Dy,Pz,dv,CY⟩:=jR hL hs.drew bV (fun q hq=> by rcases acG.1 hq with hq | hq;exact cY q hq;exact src.el q hq) k (Builtin.zeroCells z.cells (k - (es.length+ys.length))).toList
    (by
      simp only[aco,rP,qq,adP,size_zeroCells]
      simp only[adP] at vn
      rw[vn,←Nat.add_mul,←Nat.add_mul];congr 1;omega) (by simpa using hnk) el (0,0) ⟨by intro j hj;omega,fun _=> rfl⟩
  refine ⟨_,c.push l2,w',bo,?_,by rw[mI];exact dv,c.iE l2,aR⟩
  have xP:l.bE=l2.bE:=by rw[hb,qU];rfl
  rw[xP]
  have:=fI (es:=es++ys) hL dv CY Dy Pz k (by simpa using hnk) (by omega)
  simpa using this
 ·rename_i id g' off len aB
  split at ai
  case h_2=> cases ai
  rename_i g'' es cE
  split at ai
  case isFalse=> cases ai
  rename_i hc
  obtain ⟨rfl,rfl,gj⟩:=hc
  obtain ⟨l,hl,cO,cD,hz,jo,qU,hb3,cY,us0,ty0,fz0,hg,cU,dt,gk⟩:=hs.row cE
  have oJ:=(q16z cE).2
  obtain ⟨he,k,rfl,mR,hm⟩:=dU hx hl cO (path:=[]) (o:=0) (e:=l.tag) (m:=none) rfl
  simp only[acU] at mR hm ⊢
  simp only[fp] at hm
  obtain ⟨kI,pK,hm3⟩:=hm
  have gM:∀n,n≤l.cap→n * L.aD g''≤us0.size:=fun n hn=> by rw[cU];exact acE _ hn
  have nM:∀n,n+ys.length≤l.cap→(storeCells (⟨l.bE,n * L.aD g'',none⟩:Addr) (us.take (ys.length * L.aD g''))).run P w= .ok () (w.setCells l.bE (n * L.aD g'') us):=by
    intro n hn
    rw[←qq,adN]
    have oK:n * L.aD g''+us.length≤us0.size:=by rw[qq,←Nat.add_mul];exact gM _ hn
    have xR:∀q∈us,q.oneCell'=true:=dC (fun v _=> ed v) (fun v hv=>(src.el v hv).2) us src.rc
    have:=run_storeCells_cells (P:=P) l.bE (n * L.aD g'') us 0 w (fun j hj=> by rw[q15z hg];simp;omega) (fun j hj=> eN hg dt.1 (by omega)) xR
    simpa using this
  split at ai
  ·rename_i oK
   simp only[Option.some.injEq,Prod.mk.injEq] at ai
   obtain ⟨rfl,rfl⟩:=ai
   have gE:len+ys.length≤k:=by omega
   have wL:off+len+ys.length≤l.cap:=by omega
   have oW:(off+len)* L.aD g''+us.length≤us0.size:=by rw[qq,←Nat.add_mul];exact gM _ wL
   have bo:=src.room (some ⟨l.bE,off * L.aD g'',none⟩) len k (w.setCells l.bE ((off+len)* L.aD g'') us) gE
     (by simp only[eV,←Nat.add_mul];exact nM _ wL)
   have ji:=nA hL gk src.rc (fun q hq=>(cY q hq).1) (fun q hq=>(src.el q hq).1) (n:=off+len) (by omega)
   have yu:(es.take (off+len)++ys++es.drop (off+len+ys.length)).length=es.length:=by simp;omega
   have BY:lay (us0.toList.take (es.length * L.aD g'')) ((off+len)* L.aD g'') us=(lay us0.toList ((off+len)* L.aD g'') us).take (es.length * L.aD g''):=
     (nB _ _ _ _ (by rw[qq,←Nat.add_mul];exact acE _ (by omega)) (by have:=gM _ hb3;simpa using this)).symm
   rw[BY] at ji
   obtain ⟨l',dF,dv,hle,xM⟩:=jB hL hs hl cD hz hg dt cU (es':=es.take (off+len)++ys++es.drop (off+len+ys.length)) (fun q hq=> by
     rcases acG.1 hq with hq | hq
     ·rcases acG.1 hq with hq | hq
      ·exact cY q (acA hq)
      ·exact src.el q hq
     ·exact cY q (acY hq)) (by omega) (by omega) oW (by rw[yu];exact ji)
   refine ⟨_,_,_,bo,?_,dv,hle,St.setCells _ _ _ _⟩
   have:=nC dv (id:=id) (aB:=aB) (off:=off) (len:=len+ys.length) (k:=k) (path:=[]) (m:=none) (o:=0) (e:=l'.tag) xM (by rw[dF];simp;omega) rfl gE (by subst dF;simp only[fp];omega)
   subst dF
   simp only[acU,cD] at this ⊢
   exact this
  ·rename_i abQ
   split at ai
   case isFalse=> cases ai
   rename_i hc
   simp only[Option.some.injEq,Prod.mk.injEq] at ai
   obtain ⟨rfl,rfl⟩:=ai
   obtain ⟨rfl,rfl,nJ⟩:=hc
   simp only[adS] at ⊢
   have bV:cB L c (es++ys) (us0.toList.take (es.length * L.aD g'')++us):=ej.2 ⟨_,_,rfl,gk,src.rc⟩
   have kO:∀q∈es++ys,q.ty=g''∧q.aA=true:=fun q hq=> by rcases acG.1 hq with hq | hq;exact cY q hq;exact src.el q hq
   by_cases gE:len+ys.length≤k
   ·have wL:len+ys.length≤l.cap:=by omega
    have oW:len * L.aD g''+us.length≤us0.size:=by rw[qq,←Nat.add_mul];exact gM _ wL
    have bo:=src.room (some ⟨l.bE,0,none⟩) len k (w.setCells l.bE (len * L.aD g'') us) gE
      (by simp only[eV,acU];exact nM _ wL)
    obtain ⟨l',dF,dv,hle,xM⟩:=jB hL hs hl cD hz hg dt cU (es':=es++ys) kO (by simp;omega) (by simp;omega) oW (by
      rw[iC (by simpa using oW) (by rw[aco,qq,adG,oJ])]
      rw[←oJ];exact bV)
    refine ⟨_,_,_,bo,?_,dv,hle,St.setCells _ _ _ _⟩
    have:=nC dv (id:=id) (aB:=len+ys.length) (off:=0) (len:=len+ys.length) (k:=k) (path:=[]) (m:=none) (o:=0) (e:=l'.tag) xM (by rw[dF];simp;omega) rfl gE (by subst dF;simp only[fp];omega)
    subst dF
    simp only[acU,adS,cD] at this ⊢
    exact this
   ·have pf:cB L c es (us0.toList.take (es.length * L.aD g'')):=gk
    have rP:=q8z hL pf (fun q hq=>(cY q hq).1)
    obtain ⟨olds,so⟩:=oq (P:=P) hL hs hx (g:=g'') (ys:=es) (by
      have PH:=cE
      rw[←oJ] at PH
      simp[source,elems,rowAt,←oJ,PH])
    have pf:=so.rc
    have rP:=q8z hL pf (fun q hq=>(cY q hq).1)
    have hold:=so.first w.drew es.length rfl (acm _)
    rw[←rP,adN] at hold
    have Y8:len=es.length:=by omega
    subst Y8
    simp only[acU,adS] at hold
    obtain ⟨l3,k3,w',bo,hb',Y9,zn,PI,hnk,aR,mI⟩:=grow es (some ⟨l.bE,0,none⟩) k olds pf cY hold (by omega) nJ
    have Za:cB L c (es++ys) (olds++us):=ej.2 ⟨_,_,rfl,pf,src.rc⟩
    have hle:c.le (c.move id l3):=Ctx.xL c id l l3 hl (by rw[cD,zn]) (by omega) (fun he=> by omega)
    have hzn:c.z l3.bE=none:=by rw[hb'];exact hs.rJ
    have dv:bp L (c.move id l3) (h.set id (.cells g'' (es++ys))) w':=by
      refine hs.move hl _ hle hzn (Or.inr (by omega)) (fun b hb sI=> ?_) (fun o' kP=> by rw[hz] at kP;cases kP) ?_
      ·rw[mI];exact iQ (w:=w.drew) hb
      ·refine ⟨zn,by simp[PI],by simp;omega,kO,(olds++us++(Builtin.zeroCells z.cells (k3 - (es.length+ys.length))).toList).toArray,el,(0,0),?_,?_,⟨by intro j hj;omega,fun _=> rfl⟩,?_⟩
       ·rw[mI,hb'];exact jL (w:=w.drew)
       ·simp only[aeK,aco,rP,qq,adP,size_zeroCells]
        simp only[adP] at vn
        rw[vn,←Nat.add_mul,←Nat.add_mul,Y9];congr 1;omega
       ·have:((olds++us++(Builtin.zeroCells z.cells (k3 - (es.length+ys.length))).toList).take ((es++ys).length * L.aD g''))=olds++us:=by
          rw[acV (by simp only[aco,rP,qq,adG];omega),ack (by simp only[aco,rP,qq,adG];omega)]
        simp only[adO,this]
        exact Za.mono hle
    have xM:(c.move id l3).loc id=some l3:=by simp[Ctx.move]
    refine ⟨_,_,_,bo,?_,dv,hle,aR⟩
    have:=nC dv (id:=id) (aB:=es.length+ys.length) (off:=0) (len:=es.length+ys.length) (k:=k3) (path:=[]) (m:=none) (o:=0) (e:=l3.tag) xM PI rfl hnk (by simp only[fp];omega)
    simpa only[acU,adS,zn] using this
 ·cases ai
theorem BP (hL:L.OK) (hs:bp L c h w) {T T2 el:TypeId} {i:TypeInfo} {g:Option Nat} {zv:V} (ht:P.underlying T=some (.slice el)) (cm:TG P L el g) (hi:P.info? el=some i) (hz:eO P L el zv) (jM:zv.ty=g) (iV:zv.aA=true)
 (h2:(∃e2,P.underlying T2=some (.slice e2))∨P.underlying T2=some .string) {ty:TypeId} (nV:0 < i.bytes) {x y:V} {ux uy:Value} (hx:RV L c x ux) (hy:RV L c y uy) {base:Nat} {v:V} {h':Hp} (ai:oM base h g i.bytes x y=some (v,h')):
 aN L c w ((Builtin.append_ #[T,T2] ty #[ux,uy]).run P w) v h':=by
 simp only[oM] at ai
 obtain ⟨⟨gy,ys⟩,mj,ai⟩:=acr.1 ai
 simp only at ai
 obtain ⟨us,src⟩:=oq (P:=P) hL hs hy mj
 obtain ⟨i',xS,qp⟩:=cm.info
 rw[hi] at xS;cases xS
 by_cases hg:gy=g
 ·subst hg
  exact nL hL hs ht cm hi hz jM iV nV hx (src.apd ht hi h2 qp) ai
 ·unfold df at ai
  split at ai
  ·rename_i oA
   subst oA
   have BX:us=[]:=by simpa[cB] using src.rc
   subst BX
   have src':Src P L c w g [] uy []:=⟨src.len,fun w' n hw hn=> by
     obtain rfl:n=0:=by simpa using hn
     have:=src.first w' 0 hw (by simp)
     simp only[adS,aex] at this ⊢
     cases uy <;> simp_all [Builtin.firstCells,loadCells,loadCellsFrom],src.rc,by simp⟩
   exact nL hL hs ht cm hi hz jM iV nV hx (src'.apd ht hi h2 qp) (base:=base) (by unfold df;rw[if_pos rfl];exact ai)
  ·simp[hg] at ai
theorem SG (hL:L.OK) (hs:bp L c h w) {T T2 el:TypeId} {i:TypeInfo} {g:Option Nat} {zv:V} {kd:IntKind} (ht:P.underlying T=some (.slice el)) (cm:TG P L el g) (hi:P.info? el=some i) (hz:eO P L el zv) (jM:zv.ty=g) (iV:zv.aA=true)
 (h2:P.underlying T2=some (.int kd)) {ty:TypeId} (nV:0 < i.bytes) {x y:V} {ux uy:Value} (hx:RV L c x ux) (hy:RV L c y uy) {base:Nat} {v:V} {h':Hp} (ai:vI base h g i.bytes zv x y=some (v,h')):
 aN L c w ((Builtin.append_ #[T,T2] ty #[ux,uy]).run P w) v h':=by
 unfold vI at ai
 split at ai
 case h_2=> cases ai
 rename_i k
 split at ai
 case isFalse=> cases ai
 rename_i hc
 obtain ⟨hk0,hk⟩:=hc
 obtain ⟨rfl,_⟩:=bF.1 hy
 obtain ⟨i',xS,qp⟩:=cm.info
 rw[hi] at xS;cases xS
 obtain ⟨n,rfl⟩:=afw hk0
 simp only[acC] at ai hk
 obtain ⟨i2,z,qL,pq,pL⟩:=id hz
 rw[hi] at qL;cases qL
 exact nL hL hs ht cm hi hz jM iV nV hx (FD hL ht hi pq pL jM iV h2 qp nV hk) ai
end Go.Vm
namespace Go.Vm
variable {P : Program} {L : cG} {c : Ctx} {h : Hp} {w : World}
theorem zJ {T T2 el:TypeId} (ht:P.underlying T=some (.slice el)) {ty:TypeId} {g:Option Nat} (cm:TG P L el g)
 {base:Option Addr} {dLen dCap:Nat} {u:Value} {ys:List V} {us:List Value} (mj:Src P L c w g ys u us) (w':World)
 (aR:(match base with | some a=>(storeCells a (us.take (Nat.min ys.length dLen * L.aD g))).run P w | none=> .ok () w)= .ok () w'):
 (Builtin.copy_ #[T,T2] ty #[.slice base dLen dCap,u]).run P w= .ok (.int .i64 (Nat.min ys.length dLen:Nat)) w':=by
 have hf:=mj.first w (Nat.min ys.length dLen) rfl (ae0 _ _)
 cases base with
 | none=>
   simp only[Result.ok.injEq,true_and] at aR
   subst aR
   simp[Builtin.copy_,run_underlying ht,cm.sizeOf,mj.len,hf,goInt]
 | some a=>
   simp only at aR
   simp[Builtin.copy_,run_underlying ht,cm.sizeOf,mj.len,hf,aR,goInt]
theorem SH (hL:L.OK) (hs:bp L c h w) {T T2 el:TypeId} {g:Option Nat} (ht:P.underlying T=some (.slice el)) (cm:TG P L el g)
 {ty:TypeId} {x y:V} {ux uy:Value} (hx:RV L c x ux) (hy:RV L c y uy) {base:Nat} {v:V} {h':Hp} (ai:Kb base h g x y=some (v,h')):
 aN L c w ((Builtin.copy_ #[T,T2] ty #[ux,uy]).run P w) v h':=by
 simp only[Kb] at ai
 obtain ⟨⟨gy,ys⟩,mj,ai⟩:=acr.1 ai
 simp only at ai
 obtain ⟨us,src⟩:=oq (P:=P) hL hs hy mj
 have qq:=q8z hL src.rc (fun q hq=>(src.el q hq).1)
 unfold zp at ai
 split at ai
 ·rename_i id i p g' off len aB abr
  clear abr
  split at ai
  case h_2=> cases ai
  rename_i t es oU
  split at ai
  case isFalse=> cases ai
  rename_i hc
  obtain ⟨rfl,rfl,oK,gj⟩:=hc
  obtain ⟨h1,aR,he⟩:=ach.1 ai
  simp only[Prod.mk.injEq] at he
  obtain ⟨rfl,rfl⟩:=he
  obtain ⟨l,j,p',o,us0,ty0,fz0,hjp,hl,cO,jb,⟨o',mI⟩,hg,hz,dt,hle,hr⟩:=hs.nodeAt hL oU
  have hr0:=hr
  simp only[RC] at hr
  obtain ⟨hr,e,ha,cY⟩:=hr
  have cU:L.aD (V.ty (.arr t es))=es.length * L.aD e:=by simp[V.ty,cG.aD,hL.ar _ _ _ ha]
  rw[cU] at hr hle
  have cE:L.row l.tag (i::p)=some (o,e,some es.length):=by
    rw[hjp] at jb ⊢
    simp only[cG.off,mI,acO,Option.some.injEq] at jb
    simp only[cG.row,mI,V.ty,ha,acO,jb]
  obtain ⟨rfl,k,rfl,mR,hm⟩:=dU hx hl cO cE
  have hm:off+k=es.length:=hm
  have mU:min ys.length len≤ys.length:=ae0 _ _
  have hnr:min ys.length len≤len:=afC _ _
  have BZ:=(fq hL src.rc (fun q hq=>(src.el q hq).1) (min ys.length len) mU).1
  have DH:(us.take (min ys.length len * L.aD e)).length=min ys.length len * L.aD e:=by
    rw[acI,qq];exact acZ (acE _ mU)
  have Zb:off * L.aD e+(us.take (min ys.length len * L.aD e)).length≤es.length * L.aD e:=by
    rw[DH,←Nat.add_mul];exact acE _ (by omega)
  have oW:o+off * L.aD e+(us.take (min ys.length len * L.aD e)).length≤us0.size:=by omega
  have xR:∀q∈us.take (min ys.length len * L.aD e),q.oneCell'=true:=fun q hq=> dC (fun v _=> ed v) (fun v hv=>(src.el v hv).2) us src.rc q (acA hq)
  have nM:(storeCells (⟨l.bE,o+off * L.aD e,none⟩:Addr) (us.take (min ys.length len * L.aD e))).run P w= .ok () (w.setCells l.bE (o+off * L.aD e) (us.take (min ys.length len * L.aD e))):=by
    have:=run_storeCells_cells (P:=P) l.bE (o+off * L.aD e) (us.take (min ys.length len * L.aD e)) 0 w (fun j hj=> by rw[q15z hg];simp;omega) (fun j hj=> eN hg dt (by omega)) xR
    simpa using this
  have bo:=zJ (w:=w) (T2:=T2) (ty:=ty) ht cm (base:=some ⟨l.bE,o+off * L.aD e,none⟩) (dLen:=len) (dCap:=k) src _ nM
  have tF:(ys.take (min ys.length len)).length=min ys.length len:=by simp
  have ji:=nA hL hr BZ (fun q hq=>(cY q hq).1) (fun q hq=>(src.el q (acA hq)).1) (n:=off) (by omega)
  rw[tF] at ji
  have yu:(es.take off++ys.take (min ys.length len)++es.drop (off+min ys.length len)).length=es.length:=by simp only[aco,acI,adb];omega
  have mf:RC L c (.arr t (es.take off++ys.take (min ys.length len)++es.drop (off+min ys.length len))) (lay ((us0.toList.drop o).take (es.length * L.aD e)) (off * L.aD e) (us.take (min ys.length len * L.aD e))):=by
    simp only[RC]
    refine ⟨ji,e,by rw[yu];exact ha,fun q hq=> ?_⟩
    rcases acG.1 hq with hq | hq
    ·rcases acG.1 hq with hq | hq
     ·exact cY q (acA hq)
     ·exact src.el q (acA hq)
    ·exact cY q (acY hq)
  have jQ:=dI l.bE ty0 fz0 (us.take (min ys.length len * L.aD e)) (o+off * L.aD e) us0 w hg oW
  rw[sO us0.toList _ o (es.length * L.aD e) (off * L.aD e) (by simpa using hle) Zb] at jQ
  have dv:=DD hL hs oU aR mf rfl rfl hl jb hg dt (by rw[cU];exact hle) jQ (fun k hk=> q13z l.bE _ _ _ k hk)
  exact ⟨_,_,_,bo,bF.2 ⟨rfl,rfl⟩,dv,Ctx.le_refl c,St.setCells _ _ _ _⟩
 rename_i hnp
 unfold copyV at ai
 split at ai
 case h_2=> cases ai
 rename_i id g' off len aB _
 split at ai
 case h_2=> cases ai
 rename_i g'' es cE
 split at ai
 case isFalse=> cases ai
 rename_i hc
 simp only[Option.some.injEq,Prod.mk.injEq] at ai
 obtain ⟨rfl,rfl⟩:=ai
 obtain ⟨rfl,rfl,rfl,oK,gj⟩:=hc
 obtain ⟨l,hl,cO,cD,hz,jo,qU,hb3,cY,us0,ty0,fz0,hg,cU,dt,gk⟩:=hs.row cE
 have oJ:=(q16z cE).2
 obtain ⟨he,k,rfl,mR,hm⟩:=dU hx hl cO (path:=[]) (o:=0) (e:=l.tag) (m:=none) rfl
 simp only[acU] at mR hm ⊢
 have EH:min ys.length len=Nat.min ys.length len:=rfl
 have mU:min ys.length len≤ys.length:=ae0 _ _
 have hnr:min ys.length len≤len:=afC _ _
 have BZ:=(fq hL src.rc (fun q hq=>(src.el q hq).1) (min ys.length len) mU).1
 have DH:(us.take (min ys.length len * L.aD g'')).length=min ys.length len * L.aD g'':=by
   rw[acI,qq];exact acZ (acE _ mU)
 have gM:∀n,n≤l.cap→n * L.aD g''≤us0.size:=fun n hn=> by rw[cU];exact acE _ hn
 have oW:off * L.aD g''+(us.take (min ys.length len * L.aD g'')).length≤us0.size:=by rw[DH,←Nat.add_mul];exact gM _ (by omega)
 have xR:∀q∈us.take (min ys.length len * L.aD g''),q.oneCell'=true:=fun q hq=> dC (fun v _=> ed v) (fun v hv=>(src.el v hv).2) us src.rc q (acA hq)
 have nM:(storeCells (⟨l.bE,off * L.aD g'',none⟩:Addr) (us.take (min ys.length len * L.aD g''))).run P w= .ok () (w.setCells l.bE (off * L.aD g'') (us.take (min ys.length len * L.aD g''))):=by
   have:=run_storeCells_cells (P:=P) l.bE (off * L.aD g'') (us.take (min ys.length len * L.aD g'')) 0 w (fun j hj=> by rw[q15z hg];simp;omega) (fun j hj=> eN hg dt.1 (by omega)) xR
   simpa using this
 have bo:=zJ (w:=w) (T2:=T2) (ty:=ty) ht cm (base:=some ⟨l.bE,off * L.aD g'',none⟩) (dLen:=len) (dCap:=k) src _ nM
 have tF:(ys.take (min ys.length len)).length=min ys.length len:=by simp
 have ji:=nA hL gk BZ (fun q hq=>(cY q hq).1) (fun q hq=>(src.el q (acA hq)).1) (n:=off) (by omega)
 rw[tF] at ji
 have yu:(es.take off++ys.take (min ys.length len)++es.drop (off+min ys.length len)).length=es.length:=by simp only[aco,acI,adb];omega
 have BY:lay (us0.toList.take (es.length * L.aD g'')) (off * L.aD g'') (us.take (min ys.length len * L.aD g''))=(lay us0.toList (off * L.aD g'') (us.take (min ys.length len * L.aD g''))).take (es.length * L.aD g''):=
   (nB _ _ _ _ (by rw[DH,←Nat.add_mul];exact acE _ (by omega)) (by have:=gM _ hb3;simpa using this)).symm
 rw[BY] at ji
 obtain ⟨l',dF,dv,hle,xM⟩:=jB hL hs hl cD hz hg dt cU (es':=es.take off++ys.take (min ys.length len)++es.drop (off+min ys.length len)) (fun q hq=> by
   rcases acG.1 hq with hq | hq
   ·rcases acG.1 hq with hq | hq
    ·exact cY q (acA hq)
    ·exact src.el q (acA hq)
   ·exact cY q (acY hq)) (by omega) (by omega) oW (by rw[yu];exact ji)
 exact ⟨_,_,_,bo,bF.2 ⟨rfl,rfl⟩,dv,hle,St.setCells _ _ _ _⟩
theorem zK (hL:L.OK) {r:Result Value} {v:V} {h1:Hp} (hd:aN L c w r v h1) {v':V} {h':Hp} (ai:rC (v,h1)=some (v',h')):aN L c w r v' h':=by
 obtain ⟨u,c1,w1,hr,hx,hs,hle,aR⟩:=hd
 unfold rC at ai
 simp only at ai
 split at ai
 case h_3=> cases ai
 ·cases ai
  obtain ⟨a,k,e1,e2,_,e3⟩:=dh.1 hx
  exact ⟨u,c1,w1,hr,dh.2 ⟨a,k,e1,e2,(fun hf=> by cases hf),e3⟩,hs,hle,aR⟩
 rename_i id g' len aB
 split at ai
 case h_2=> cases ai
 rename_i g es cE
 split at ai
 case isFalse=> cases ai
 rename_i hc
 simp only[Option.some.injEq,Prod.mk.injEq] at ai
 obtain ⟨rfl,rfl⟩:=ai
 obtain ⟨rfl,rfl⟩:=hc
 obtain ⟨l,hl,cO,cD,hz,jo,qU,hb3,cY,us0,ty0,fz0,hg,cU,dt,gk⟩:=hs.row cE
 have oJ:=(q16z cE).2
 obtain ⟨he,k,rfl,mR,hm⟩:=dU hx hl cO (path:=[]) (o:=0) (e:=l.tag) (m:=none) rfl
 have dv:=hs.die hl (w':=w1) (fun _ _=> rfl) hg
 refine ⟨_,_,w1,hr,?_,dv,hle.trans (c1.pz _ _ _ hz),aR⟩
 refine dh.2 ⟨_,k,by rw[oJ];simp,by omega,(fun hf=> by cases hf),cY,Or.inr ⟨l.bE,0,us0,ty0,fz0,rfl,by simp[Ctx.die],?_⟩⟩
 simpa[og] using gk.mono (c1.pz id l.bE (.cells us0 ty0 fz0) hz)
theorem Nr (hL:L.OK) (hs:bp L c h w) {T el:TypeId} (ht:P.underlying T=some (.slice el)) (xX:P.underlying el=some (.int .u8)) {id len aB:Nat} {g':Option Nat} {ux:Value} (hx:RV L c (.ref id [] g' 0 len aB) ux) {v:V} {h':Hp} (ai:Ka h id g' len aB=some (v,h')):
 aN L c w ((convert T T ux).run P w) v h':=by
 unfold Ka at ai
 split at ai
 case h_2=> cases ai
 rename_i g es A9
 split at ai
 case isFalse=> cases ai
 rename_i hc
 simp only[Option.some.injEq,Prod.mk.injEq] at ai
 obtain ⟨rfl,rfl⟩:=ai
 obtain ⟨rfl,oJ,rfl⟩:=hc
 rcases hs.live id _ A9 with ⟨l,hl⟩ | h'
 case inr=> cases h'
 obtain ⟨k,h1,hz,h3⟩:=hs.loc id l hl
 rw[A9] at h1;cases h1
 obtain ⟨cD,cO,gF,cY,us0,ty0,fz0,hg,cU,dt,gk⟩:=h3
 have cO:=cO.trans oJ
 obtain ⟨he,k,rfl,mR,hm⟩:=dU hx hl cO (path:=[]) (o:=0) (e:=l.tag) (m:=none) rfl
 simp only[acU,adS] at mR hm ⊢
 have uI:w.shape? l.bE=some (ty0,us0.size):=by simp[World.shape?,hg]
 have bo:(convert T T (.slice (some ⟨l.bE,0,none⟩) len k)).run P w= .ok (.slice (some ⟨l.bE,0,none⟩) len k) (w.freeze ⟨l.bE,us0.size,none⟩ 1):=by
   simp[convert,run_underlying ht,run_underlying xX,markStringish,uI]
 have jQ:∃fz,(w.freeze ⟨l.bE,us0.size,none⟩ 1).heap[l.bE]? =some (.cells us0 ty0 fz):=by
   simp[World.freeze,ad0,hg]
 obtain ⟨fz,jQ⟩:=jQ
 have B0:∀b,b≠l.bE→(w.freeze ⟨l.bE,us0.size,none⟩ 1).heap[b]? =w.heap[b]? :=fun b hb=> by
   simp[World.freeze,ad0,adY hb]
 have dv:=hs.die hl B0 jQ
 refine ⟨_,_,_,bo,?_,dv,c.pz _ _ _ hz,⟨rfl,rfl,rfl,by simp[World.freeze]⟩⟩
 refine dh.2 ⟨_,k,by rw[oJ],by omega,(fun _=> by simp only[fp] at hm;omega),cY,Or.inr ⟨l.bE,0,us0,ty0,fz,rfl,by simp[Ctx.die],?_⟩⟩
 simpa[og] using gk.mono (c.pz id l.bE (.cells us0 ty0 fz) hz)
theorem SI (hL:L.OK) (hs:bp L c h w) {T el:TypeId} (ht:P.underlying T=some (.slice el)) (xX:P.underlying el=some (.int .u8)) {x:V} {ux:Value} (hx:RV L c x ux) {v:V} {h':Hp} (ai:wz h x=some (v,h')):
 aN L c w ((convert T T ux).run P w) v h':=by
 unfold wz at ai
 split at ai
 case h_2=> cases ai
 rename_i id g' len aB
 split at ai
 case h_2=> exact Nr hL hs ht xX hx ai
 rename_i g es cE
 split at ai
 case isFalse=> cases ai
 rename_i hc
 simp only[Option.some.injEq,Prod.mk.injEq] at ai
 obtain ⟨rfl,rfl⟩:=ai
 obtain ⟨rfl,rfl⟩:=hc
 obtain ⟨l,hl,cO,cD,hz,jo,qU,hb3,cY,us0,ty0,fz0,hg,cU,dt,gk⟩:=hs.row cE
 have oJ:=(q16z cE).2
 obtain ⟨he,k,rfl,mR,hm⟩:=dU hx hl cO (path:=[]) (o:=0) (e:=l.tag) (m:=none) rfl
 simp only[acU,adS] at mR hm ⊢
 have uI:w.shape? l.bE=some (ty0,us0.size):=by simp[World.shape?,hg]
 have bo:(convert T T (.slice (some ⟨l.bE,0,none⟩) len k)).run P w= .ok (.slice (some ⟨l.bE,0,none⟩) len k) (w.freeze ⟨l.bE,us0.size,none⟩ 1):=by
   simp[convert,run_underlying ht,run_underlying xX,markStringish,uI]
 have jQ:∃fz,(w.freeze ⟨l.bE,us0.size,none⟩ 1).heap[l.bE]? =some (.cells us0 ty0 fz):=by
   simp[World.freeze,ad0,hg]
 obtain ⟨fz,jQ⟩:=jQ
 have B0:∀b,b≠l.bE→(w.freeze ⟨l.bE,us0.size,none⟩ 1).heap[b]? =w.heap[b]? :=fun b hb=> by
   simp[World.freeze,ad0,adY hb]
 have dv:=hs.die hl B0 jQ
 refine ⟨_,_,_,bo,?_,dv,c.pz _ _ _ hz,⟨rfl,rfl,rfl,by simp[World.freeze]⟩⟩
 refine dh.2 ⟨_,k,by rw[oJ],by omega,(fun hf=> by cases hf),cY,Or.inr ⟨l.bE,0,us0,ty0,fz,rfl,by simp[Ctx.die],?_⟩⟩
 simpa[og] using gk.mono (c.pz id l.bE (.cells us0 ty0 fz) hz)
theorem SJ (hs:bp L c h w) {S T:TypeId} {k:IntKind} (hT:P.underlying T=some (.int k)) (hS:∃d,P.underlying S=some d) {x:V} {ux:Value} (hx:RV L c x ux) {v:V} {h':Hp} (ai:wD h k x=some (v,h')):
 aN L c w ((convert S T ux).run P w) v h':=by
 simp only[wD] at ai
 obtain ⟨n,hn,ai⟩:=acr.1 ai
 simp only[j6,Option.some.injEq,Prod.mk.injEq] at ai
 obtain ⟨rfl,rfl⟩:=ai
 obtain ⟨k',rfl⟩:=jP hn hx
 obtain ⟨d,hd⟩:=hS
 refine aN.same (u:= .int k (k.wrap n)) ?_ (bF.2 ⟨rfl,rfl⟩) hs
 simp[convert,run_underlying hT,run_underlying hd,Conv.intToInt]
theorem xY (ns:List Int):strOfNums ns=⟨(ns.map fun n=> UInt8.ofNat n.toNat).toArray⟩:=by
 simp[strOfNums]
theorem SK (hL:L.OK) (hs:bp L c h w) {S T el:TypeId} (hS:P.underlying S=some (.slice el)) (xX:P.underlying el=some (.int .u8)) (hT:P.underlying T=some .string) {x:V} {ux:Value} (hx:RV L c x ux) {v:V} {h':Hp} (ai:wE h x=some (v,h')):
 aN L c w ((convert S T ux).run P w) v h':=by
 simp only[wE] at ai
 obtain ⟨⟨g,es⟩,he,ai⟩:=acr.1 ai
 obtain ⟨l,hl,ai⟩:=acr.1 ai
 simp only[j6,Option.some.injEq,Prod.mk.injEq] at ai
 obtain ⟨rfl,rfl⟩:=ai
 obtain ⟨a,k,rfl,mR,cm,gq⟩:=ql hL hs hx he
 simp only at hl
 rcases gq with rfl | ⟨b,o,us,ty,fz,rfl,hg,hr⟩
 ·simp only[bytesOf,Option.some.injEq] at hl
  subst hl
  refine aN.same (u:= .string ⟨#[]⟩) ?_ (bF.2 ⟨rfl,rfl⟩) hs
  show (convert S T (.slice a 0 k)).run P w=_
  rw[run_convert_bytes_string w S T el a 0 k hS xX hT]
  cases a <;> simp[Conv.bytesToString,loadCells,loadCellsFrom]<;> rfl
 ·obtain ⟨ns,hns,mU,rfl⟩:=kQ es l _ hl hr
  have cS:es≠[]→L.aD g=1:=fun cC=> by
    obtain ⟨y,hy⟩:=List.exists_mem_of_ne_nil es cC
    have:=congrArg List.length hns
    have h2:=q8z hL hr (fun q hq=>(cm q hq).1)
    have ij:0 < es.length:=afd.2 cC
    rw[h2,acy,mU] at this
    exact Nat.eq_of_mul_eq_mul_left ij (by omega)
  have zo:=oe hL hg hr (fun q hq=>(cm q hq).1)
  rw[hns] at zo
  have bo:=run_convert_bytes_arg (P:=P) w S el hS xX b o es.length k ns mU (fun i hi=> by
    have:=zo i (.int .u8 (ns.getD i 0)) (by simp[List.getD,aci (show i < ns.length by omega)])
    rwa [eV] at this) T hT
  rw[xY] at bo
  exact aN.same bo (bF.2 ⟨rfl,rfl⟩) hs
theorem oX :∀(es:List V) (l:List Int) (us:List Value),oi es=some l→cB L c es us→us=l.map (Value.int .i32)∧l.length=es.length
 | [],l,us,hb,hr=> by
   simp only[oi,Option.some.injEq] at hb
   simp only[cB] at hr
   subst hb;subst hr
   exact ⟨rfl,rfl⟩
 | e::es,l,us,hb,hr=> by
   simp only[cB] at hr
   obtain ⟨u1,u2,rfl,h1,h2⟩:=hr
   unfold oi at hb
   split at hb
   ·rename_i heq
    cases heq
   ·rename_i n vs heq
    simp only[List.cons.injEq] at heq
    obtain ⟨rfl,rfl⟩:=heq
    obtain ⟨l',dF,rfl⟩:=ach.1 hb
    obtain ⟨rfl,h3⟩:=oX es l' u2 dF h2
    simp only[RC] at h1
    rw[h1.1]
    exact ⟨by simp,by simp[h3]⟩
   ·cases hb
theorem SL (hL:L.OK) (hs:bp L c h w) {S T el:TypeId} (hS:P.underlying S=some (.slice el)) (hu:P.underlying el=some (.int .i32)) (hT:P.underlying T=some .string) {x:V} {ux:Value} (hx:RV L c x ux) {v:V} {h':Hp} (ai:uw h false x=some (v,h')):
 aN L c w ((convert S T ux).run P w) v h':=by
 simp only[uw,acz,if_false] at ai
 obtain ⟨⟨g,es⟩,he,ai⟩:=acr.1 ai
 obtain ⟨l,hl,ai⟩:=acr.1 ai
 simp only[j6,Option.some.injEq,Prod.mk.injEq] at ai
 obtain ⟨rfl,rfl⟩:=ai
 obtain ⟨a,k,rfl,mR,cm,gq⟩:=ql hL hs hx he
 simp only at hl
 rcases gq with rfl | ⟨b,o,us,ty,fz,rfl,hg,hr⟩
 ·simp only[oi,Option.some.injEq] at hl
  subst hl
  refine aN.same (u:= .string (runesBytes [])) ?_ (bF.2 ⟨rfl,rfl⟩) hs
  show (convert S T (.slice a 0 k)).run P w=_
  cases a with
  | none=> exact run_convert_runes_nil w S T el 0 k hS hu hT
  | some a=> exact run_convert_runes w S T el a 0 k [] (acm _) hS hu hT (fun j hj=> absurd hj (Nat.not_lt_zero _))
 ·obtain ⟨hns,mU⟩:=oX es l _ hl hr
  have zo:=oe hL hg hr (fun q hq=>(cm q hq).1)
  rw[hns] at zo
  have bo:=run_convert_runes (P:=P) w S T el ⟨b,o,none⟩ es.length k l (by omega) hS hu hT (fun i hi=> zo i (.int .i32 (l.getD i 0)) (by simp[List.getD,aci hi]))
  rw[ack (by omega)] at bo
  exact aN.same bo (bF.2 ⟨rfl,rfl⟩) hs
theorem SM (hs:bp L c h w) {S T:TypeId} (hS:P.underlying S=some (.int .i32)) (hT:P.underlying T=some .string) {x:V} {ux:Value} (hx:RV L c x ux) {v:V} {h':Hp} (ai:uw h true x=some (v,h')):
 aN L c w ((convert S T ux).run P w) v h':=by
 simp only[uw,if_true] at ai
 split at ai
 ·have:=(bF.1 hx).1
  subst this
  simp only[j6,Option.some.injEq,Prod.mk.injEq] at ai
  obtain ⟨rfl,rfl⟩:=ai
  refine aN.same (u:= .string (Utf8.encode _)) ?_ (bF.2 ⟨rfl,rfl⟩) hs
  simp[convert,run_underlying hT,run_underlying hS,Conv.intToString]
 ·cases ai
theorem zL {α:Type} (a:Array α) (x:α) (f:α→α):(a.push x).modify a.size f=a.push (f x):=by
 apply Array.ext_getElem?
 intro i
 rw[ad0,Array.getElem?_push,Array.getElem?_push]
 by_cases hi:i=a.size
 ·subst hi;simp
 ·simp[hi,adY hi]
theorem Ns {S T el:TypeId} (hS:P.underlying S=some .string) (hT:P.underlying T=some (.slice el)) (xX:P.underlying el=some (.int .u8)) (s:ByteArray):
 ∃cap extra fz w',(convert S T (.string s)).run P w= .ok (.slice (some ⟨w.heap.size,0,none⟩) s.size cap) w'∧s.size≤cap∧w'=w.drew.alloc (.cells ((s.data.toList.map fun b=> Value.int .u8 b.toNat)++extra).toArray el fz)∧
  s.size+extra.length=cap∧(∀j,j < cap→¬(fz.1≤j∧j < fz.2)):=by
 let cap:=(Question.appendCap s.size 0 el).cut (w.tape w.drawn (Question.appendCap s.size 0 el))
 have gF:s.size≤cap:=acS _ _
 refine ⟨cap,List.replicate (cap - s.size) (.int .u8 0),(cap,cap+1),_,?_,gF,rfl,by simp;omega,by intro j hj;simp only;omega⟩
 have cU:(s.data.map (fun b=> Value.int IntKind.u8 b.toNat)++Array.replicate (cap - s.size) (Value.int IntKind.u8 0)).size=cap:=by
   simp only[afs,Array.size_map,Array.size_replicate]
   have:s.data.size=s.size:=rfl
   omega
 have e:(((s.data.toList.map fun b=> Value.int .u8 b.toNat)++List.replicate (cap - s.size) (Value.int .u8 0)).toArray)=s.data.map (fun b=> Value.int IntKind.u8 b.toNat)++Array.replicate (cap - s.size) (Value.int IntKind.u8 0):=by
   apply aef;simp
 rw[e]
 have dt:((w.drew.alloc (.cells (s.data.map (fun b=> Value.int IntKind.u8 b.toNat)++Array.replicate (cap - s.size) (Value.int IntKind.u8 0)) el)).freeze ⟨w.heap.size,cap,none⟩ 1)=w.drew.alloc (.cells (s.data.map (fun b=> Value.int IntKind.u8 b.toNat)++Array.replicate (cap - s.size) (Value.int IntKind.u8 0)) el (cap,cap+1)):=by
   unfold World.freeze
   simp only[Nat.one_ne_zero,if_false]
   show World.mk _ _ _ _ _=World.mk _ _ _ _ _
   congr 1
   exact (zL _ _ _).trans (by simp)
 have uI:(w.drew.alloc (.cells (s.data.map (fun b=> Value.int IntKind.u8 b.toNat)++Array.replicate (cap - s.size) (Value.int IntKind.u8 0)) el)).shape? w.heap.size=some (el,cap):=by
   have:(w.drew.alloc (.cells (s.data.map (fun b=> Value.int IntKind.u8 b.toNat)++Array.replicate (cap - s.size) (Value.int IntKind.u8 0)) el)).heap[w.heap.size]? =some _:=jL (w:=w.drew)
   simp only[World.shape?,this,cU]
 rw[←dt]
 simp only[convert,run_underlying hS,run_underlying hT,run_underlying xX,Sem.run_bind,Result.andThen_ok,Conv.stringToBytes,run_choose,Question.forced,acz,if_false,World.drew_eq,newRow,run_newObj,Sem.run_pure,markStringish,run_shape,World.alloc_eq]
 show (Sem.run P _ _).andThen _=_
 have hd:w.drew.heap.size=w.heap.size:=rfl
 simp only[hd]
 rw[show (Question.appendCap s.size 0 el).cut (w.tape w.drawn (Question.appendCap s.size 0 el))=cap from rfl,uI]
 simp
theorem SN (hL:L.OK) (hs:bp L c h w) {S T el:TypeId} (hS:P.underlying S=some .string) (hT:P.underlying T=some (.slice el)) (xX:P.underlying el=some (.int .u8)) {lit:Bool} {x:V} {ux:Value} (hx:RV L c x ux) {v:V} {h':Hp} (ai:rL h lit x=some (v,h')):
 aN L c w ((convert S T ux).run P w) v h':=by
 unfold rL at ai
 split at ai
 case h_2=> cases ai
 rename_i s
 obtain ⟨rfl,_⟩:=bF.1 hx
 obtain ⟨cap,extra,fz,w',bo,gF,mI,hlen,dt⟩:=Ns (P:=P) (w:=w) hS hT xX s
 have hr:=rO (L:=L) (c:=c) s
 split at ai
 ·simp only[Option.some.injEq,Prod.mk.injEq] at ai
  obtain ⟨rfl,rfl⟩:=ai
  subst mI
  have hz:bp L (c.dK w.drew.heap.size _) h (w.drew.alloc _):=hs.drew.dK (.cells ((s.data.toList.map fun b=> Value.int .u8 b.toNat)++extra).toArray el fz)
  refine ⟨_,_,_,bo,?_,hz,c.lO _ _ hs.rJ,(St.drew w).trans (St.alloc _ _)⟩
  refine dh.2 ⟨_,cap,by rw[eX],by rw[eX];exact gF,(fun hf=> by cases hf),nK s,Or.inr ⟨w.heap.size,0,((s.data.toList.map fun b=> Value.int .u8 b.toNat)++extra).toArray,el,fz,rfl,by simp[Ctx.dK],?_⟩⟩
  have hl:(dW s).length * L.aD none=(s.data.toList.map fun b=> Value.int .u8 b.toNat).length:=by simp[dW,cG.aD]
  rw[hl]
  simp only[og,ac2,adO,afj]
  exact hr.mono (c.lO _ _ hs.rJ)
 ·split at ai
  ·cases ai
  rename_i cC
  simp only[Option.some.injEq,Prod.mk.injEq] at ai
  obtain ⟨rfl,rfl⟩:=ai
  have hml:(s.data.toList.map fun b=> Value.int IntKind.u8 (b.toNat:Int)).length=s.size:=by simp
  obtain ⟨l,hb,hc,cD,cO,dv,hl⟩:=jR hL hs.drew hr (nK s) cap extra (by rw[hml];simp only[cG.aD];omega) (by rw[eX];exact gF) el fz ⟨by
    intro j hj
    rw[aco,hml,hlen] at hj
    exact dt j hj,fun h=> by cases h⟩
  subst mI
  refine ⟨_,c.push l,_,bo,?_,dv,c.iE l,(St.drew w).trans (St.alloc _ _)⟩
  have:=fI (es:=dW s) hL dv hl cD cO cap (by rw[eX];exact gF) (by omega)
  rw[eX] at this
  rw[hb] at this
  exact this
end Go.Vm
namespace Go.Vm
variable {P : Program} {L : cG} {c : Ctx} {h : Hp} {w : World}
theorem cI {vs:List V} {u:Value}:RV L c (.bP vs) u↔∃ws:List Value,u= .tuple ws.toArray∧gu L c vs ws:=by
 have vh:∀(vs:List V) (ws:List Value),RW L c vs ws↔gu L c vs ws:=by
   intro vs
   induction vs with
   | nil=>
     intro ws
     cases ws with
     | nil=> exact ⟨fun _=> trivial,fun _=> by simp[RW]⟩
     | cons a b=> exact ⟨fun h=> by simp[RW] at h,fun h=> h.elim⟩
   | cons v vs ih=>
     intro ws
     cases ws with
     | nil=> exact ⟨fun h=> by simp[RW] at h,fun h=> h.elim⟩
     | cons a b=>
       simp only[RW,gu,List.cons.injEq]
       exact ⟨fun ⟨u,us',⟨e1,e2⟩,h1,h2⟩=> by subst e1;subst e2;exact ⟨h1,(ih b).1 h2⟩,fun ⟨h1,h2⟩=>⟨a,b,⟨rfl,rfl⟩,h1,(ih b).2 h2⟩⟩
 rw[eD rfl]
 simp only[RC,List.cons.injEq,and_true]
 exact ⟨fun ⟨ws,h1,h2⟩=>⟨ws,h1,(vh vs ws).1 h2⟩,fun ⟨ws,h1,h2⟩=>⟨ws,h1,(vh vs ws).2 h2⟩⟩
theorem DI {f:Nat} {cap:List V} {u:Value}:RV L c (.fn f cap) u↔∃ws:List Value,u= .func (.func f) #[] ws.toArray∧gu L c cap ws:=by
 have:= @cI L c cap
 rw[eD rfl]
 simp only[RC,List.cons.injEq,and_true]
 constructor
 ·rintro ⟨ws,h1,h2⟩
  obtain ⟨ws',h3,h4⟩:=(this (u:= .tuple ws.toArray)).1 ((eD rfl).2 (by simp only[RC];exact ⟨ws,rfl,h2⟩))
  have:ws'=ws:=by simpa using (Value.tuple.inj h3).symm
  subst this
  exact ⟨_,h1,h4⟩
 ·rintro ⟨ws,h1,h2⟩
  have h3:=(eD (v:= .bP cap) rfl).1 ((this (u:= .tuple ws.toArray)).2 ⟨ws,rfl,h2⟩)
  simp only[RC,List.cons.injEq,and_true] at h3
  obtain ⟨ws',h4,h5⟩:=h3
  have:ws'=ws:=by simpa using (Value.tuple.inj h4).symm
  subst this
  exact ⟨_,h1,h5⟩
theorem zM {t:Nat} {v:V} {u:Value}:RV L c (.iface t v) u↔∃u',u= .iface t u'∧RV L c v u':=by
 rw[eD rfl]
 simp only[RC,List.cons.injEq,and_true]
 exact ⟨fun ⟨a,b,h1,h2,h3⟩=>⟨a,h1,b,h2,h3⟩,fun ⟨a,h1,b,h2,h3⟩=>⟨a,b,h1,h2,h3⟩⟩
theorem rk {x:Value} {h':Hp} {v:V} (ai:j6 x h=some (v,h')):v= .s x∧h'=h:=by
 simp only[j6,Option.some.injEq,Prod.mk.injEq] at ai
 exact ⟨ai.1.symm,ai.2.symm⟩
theorem wM {op:BinOp} {k:IntKind} {a b:Int} {x:Value} (hb:jK op k a b=some x):
 ((match op with
   | .add | .sub | .mul=> Op.intArith op k a b
   | .quo | .rem=> Op.intDiv op k a b
   | .and | .or | .xor | .andNot=> Op.intBits op k a b
   | _=> Op.intCmp op a b).run P w= .ok x w)∧x.oneCell'=true:=by
 cases op <;> simp only[jK] at hb <;> first
   | (cases hb;done)
   | (simp only[Option.some.injEq] at hb;subst hb;exact ⟨by simp[Op.intArith,Op.intBits,Op.intCmp],rfl⟩)
   | (split at hb
      ·cases hb
      ·rename_i cC
       simp only[Option.some.injEq] at hb;subst hb;exact ⟨by simp[Op.intDiv,cC],rfl⟩)
theorem FE {op:BinOp} {a b:ByteArray} {x:Value} (hb:ra op a b=some x):(Op.stringOp op a b).run P w= .ok x w∧x.oneCell'=true:=by
 have Y7:IntKind.i64.max=9223372036854775807:=rfl
 cases op <;> simp only[ra] at hb <;> first
   | (cases hb;done)
   | (simp only[Option.some.injEq] at hb;subst hb;exact ⟨by simp[Op.stringOp],rfl⟩)
   | (split at hb
      ·rename_i hle
       simp only[Option.some.injEq] at hb;subst hb
       refine ⟨?_,rfl⟩
       have hn:¬(((a.size+b.size:Nat):Int)> IntKind.i64.max):=by rw[Y7];omega
       simp only[Op.stringOp]
       rw[if_neg hn];rfl
      ·cases hb)
theorem sQ {op:BinOp} {b:Bool} {x:Value} (hb:Ft op b=some x):(op= .eql∧x= .bool b)∨(op= .neq∧x= .bool !b):=by
 cases op <;> simp only[Ft] at hb <;> first
   | (cases hb;done)
   | (simp only[Option.some.injEq] at hb;subst hb;first | exact Or.inl ⟨rfl,rfl⟩ | exact Or.inr ⟨rfl,rfl⟩)
theorem run_equal_bool {T:TypeId} (hT:P.underlying T=some .bool) (a b:Bool):(Op.equal T (.bool a) (.bool b)).run P w= .ok (a==b) w:=by
 have key:∀d,(Op.equalIn (d+1) T (.bool a) (.bool b)).run P w= .ok (a==b) w:=fun d=> by
   simp only[Op.equalIn,Sem.run_bind,run_underlying hT,Result.andThen_ok,Sem.run_pure]
 exact key 9999
theorem kS {T e:TypeId} (hT:P.underlying T=some (.pointer e)) (a b:Option Addr) (hab:a=none∨b=none):(Op.equal T (.pointer a) (.pointer b)).run P w= .ok (a.isNone && b.isNone) w:=by
 have key:∀d,(Op.equalIn (d+1) T (.pointer a) (.pointer b)).run P w= .ok (a.isNone && b.isNone) w:=fun d=> by
   cases a <;> cases b <;> simp only[Op.equalIn,Sem.run_bind,run_underlying hT,Result.andThen_ok,Sem.run_pure]<;> first | rfl | simp at hab
 exact key 9999
theorem vv {op:BinOp} {T:TypeId} (a b:Bool):binOp op T (.bool a) (.bool b)=match op with | .eql=>(do pure (.bool (←Op.equal T (.bool a) (.bool b)))) | .neq=>(do pure (.bool (!(←Op.equal T (.bool a) (.bool b))))) | _=> stuck "BinOp: no such operator on these operands" :=by
 cases op <;> rfl
theorem kT {T:TypeId} (a b:Option Addr):binOp .eql T (.pointer a) (.pointer b)=(do pure (.bool (←Op.equal T (.pointer a) (.pointer b)))):=rfl
theorem kU {T:TypeId} (a b:Option Addr):binOp .neq T (.pointer a) (.pointer b)=(do pure (.bool (!(←Op.equal T (.pointer a) (.pointer b))))):=rfl
theorem SO (hs:bp L c h w) {T:TypeId} {op:BinOp} {X Y:Operand} {x y:V} {ux uy:Value} (hx:RV L c x ux) (hy:RV L c y uy)
 {cl:Cl} (oB:match cl with | .num=> True | .tru=> P.underlying T=some .bool | .ptr=>∃e,P.underlying T=some (.pointer e))
 {v:V} {h':Hp} (ai:lK h cl op x y=some (v,h')):
 aN L c w ((do eqGuard op T X Y ux uy;binOp op T ux uy:Sem Value).run P w) v h':=by
 simp only[lK] at ai
 obtain ⟨r,hr,ai⟩:=acr.1 ai
 obtain ⟨rfl,rfl⟩:=rk ai
 suffices hh:(do eqGuard op T X Y ux uy;binOp op T ux uy:Sem Value).run P w= .ok r w∧r.oneCell'=true from aN.same hh.1 (bF.2 ⟨rfl,hh.2⟩) hs
 have guard_ok:(∀(a b:Array Value),ux= .agg a→uy= .agg b→False)→(ux= .nilIface→False)→(eqGuard op T X Y ux uy).run P w= .ok () w:=by
   intro h1 h2
   unfold eqGuard
   cases op <;> first
     | rfl
     | (cases ux <;> first
         | (exact (h2 rfl).elim)
         | rfl
         | (cases uy <;> first | (exact (h1 _ _ rfl rfl).elim) | rfl))
 unfold vp at hr
 cases cl with
 | num=>
  simp only at hr
  split at hr
  ·rename_i k a k' b
   obtain ⟨rfl,_⟩:=bF.1 hx
   obtain ⟨rfl,_⟩:=bF.1 hy
   simp only[Sem.run_bind,guard_ok (fun _ _ h=> by cases h) (fun h=> by cases h),Result.andThen_ok]
   have shift_ok:∀(o:BinOp),nD o k a b=some r→(Op.shift o k a k' b).run P w= .ok r w∧r.oneCell'=true:=by
     intro o ho
     unfold nD at ho
     split at ho
     ·cases ho
     ·rename_i zI
      cases o <;> simp only at ho <;> first
        | (cases ho;done)
        | (simp only[Option.some.injEq] at ho;subst ho;exact ⟨by simp[Op.shift,zI],rfl⟩)
   have other:op≠ .shl→op≠ .shr→(if k=k' then jK op k a b else none)=some r→(binOp op T (.int k a) (.int k' b)).run P w= .ok r w∧r.oneCell'=true:=by
     intro h1 h2 nr
     by_cases hk:k=k'
     ·rw[if_pos hk] at nr
      have:=wM (P:=P) (w:=w) nr
      clear hr ai hx hy
      subst hk
      cases op <;> first | (exact absurd rfl h1) | (exact absurd rfl h2) | (simpa[binOp] using this)
     ·rw[if_neg hk] at nr;cases nr
   cases op with
   | shl=> simpa[binOp] using shift_ok .shl hr
   | shr=> simpa[binOp] using shift_ok .shr hr
   | _=> exact other (by simp) (by simp) hr
  ·rename_i a b
   obtain ⟨rfl,_⟩:=bF.1 hx
   obtain ⟨rfl,_⟩:=bF.1 hy
   simp only[Sem.run_bind,guard_ok (fun _ _ h=> by cases h) (fun h=> by cases h),Result.andThen_ok]
   have:=FE (P:=P) (w:=w) hr
   cases op <;> simpa[binOp] using this
  ·cases hr
 | tru=>
  simp only at hr oB
  have hT:=oB
  split at hr
  ·rename_i a b
   obtain ⟨rfl,_⟩:=bF.1 hx
   obtain ⟨rfl,_⟩:=bF.1 hy
   simp only[Sem.run_bind,guard_ok (fun _ _ h=> by cases h) (fun h=> by cases h),Result.andThen_ok]
   rcases sQ hr with ⟨rfl,rfl⟩ | ⟨rfl,rfl⟩<;> exact ⟨by simp only[vv,Sem.run_bind,run_equal_bool hT,Result.andThen_ok,Sem.run_pure],rfl⟩
  ·cases hr
 | ptr=>
  simp only at hr oB
  obtain ⟨e,hT⟩:=oB
  split at hr
  ·obtain ⟨rfl,_⟩:=bF.1 hx
   obtain ⟨rfl,_⟩:=bF.1 hy
   simp only[Sem.run_bind,guard_ok (fun _ _ h=> by cases h) (fun h=> by cases h),Result.andThen_ok]
   rcases sQ hr with ⟨rfl,rfl⟩ | ⟨rfl,rfl⟩<;> exact ⟨by simp only[kT,kU,Sem.run_bind,kS hT none none (Or.inl rfl),Result.andThen_ok,Sem.run_pure];rfl,rfl⟩
  ·obtain ⟨a,rfl,_⟩:=uE.1 hx
   obtain ⟨rfl,_⟩:=bF.1 hy
   simp only[Sem.run_bind,guard_ok (fun _ _ h=> by cases h) (fun h=> by cases h),Result.andThen_ok]
   rcases sQ hr with ⟨rfl,rfl⟩ | ⟨rfl,rfl⟩<;> exact ⟨by simp only[kT,kU,Sem.run_bind,kS hT (some a) none (Or.inr rfl),Result.andThen_ok,Sem.run_pure];rfl,rfl⟩
  ·obtain ⟨rfl,_⟩:=bF.1 hx
   obtain ⟨a,rfl,_⟩:=uE.1 hy
   simp only[Sem.run_bind,guard_ok (fun _ _ h=> by cases h) (fun h=> by cases h),Result.andThen_ok]
   rcases sQ hr with ⟨rfl,rfl⟩ | ⟨rfl,rfl⟩<;> exact ⟨by simp only[kT,kU,Sem.run_bind,kS hT none (some a) (Or.inl rfl),Result.andThen_ok,Sem.run_pure];rfl,rfl⟩
  ·cases hr
theorem Zc (hs:bp L c h w) {op:UnOp} {x:V} {ux:Value} (hx:RV L c x ux) {v:V} {h':Hp} (ai:(unV op x).bind (j6 · h)=some (v,h')):
 aN L c w ((Op.unary op ux).run P w) v h':=by
 obtain ⟨r,hr,ai⟩:=acr.1 ai
 obtain ⟨rfl,rfl⟩:=rk ai
 unfold unV at hr
 split at hr
 ·rename_i k n
  obtain ⟨rfl,_⟩:=bF.1 hx
  split at hr
  ·simp only[Option.some.injEq] at hr
   subst hr
   exact aN.same (u:= .int k (k.wrap (0 - n))) (by simp[Op.unary,Op.intArith]) (bF.2 ⟨rfl,rfl⟩) hs
  ·have:=wM (P:=P) (w:=w) hr
   exact aN.same (u:=r) (by simpa[Op.unary] using this.1) (bF.2 ⟨rfl,this.2⟩) hs
  ·cases hr
 ·rename_i b
  obtain ⟨rfl,_⟩:=bF.1 hx
  split at hr
  ·simp only[Option.some.injEq] at hr
   subst hr
   exact aN.same (u:= .bool !b) (by simp[Op.unary]) (bF.2 ⟨rfl,rfl⟩) hs
  ·cases hr
 ·cases hr
theorem SP (hs:bp L c h w) {XT A:TypeId} {ok:Bool} {zero:V} (hz:ok=true→eO P L A zero) (hA:∃d,P.underlying A=some d∧(match d with | .interface _=> false | _=> true)=true) {x:V} {ux:Value} (hx:RV L c x ux) {v:V} {h':Hp} (ai:wF h A ok zero x=some (v,h')):
 aN L c w ((Instr.typeAssert ux XT A ok).run P w) v h':=by
 obtain ⟨d,hd,hdi⟩:=hA
 unfold wF at ai
 split at ai
 case h_2=> cases ai
 rename_i t' y
 obtain ⟨u,rfl,hy⟩:=zM.1 hx
 split at ai
 ·rename_i ht
  subst ht
  simp only[Option.some.injEq,Prod.mk.injEq] at ai
  obtain ⟨rfl,rfl⟩:=ai
  cases ok with
  | true=>
    refine aN.same (u:= .tuple #[u,.bool true]) ?_ (cI.2 ⟨[u,.bool true],rfl,hy,bF.2 ⟨rfl,rfl⟩,trivial⟩) hs
    simp only[Instr.typeAssert,Sem.run_bind,run_underlying hd,Result.andThen_ok]
    cases d <;> first | (simp at hdi;done) | simp
  | false=>
    refine aN.same (u:=u) ?_ hy hs
    simp only[Instr.typeAssert,Sem.run_bind,run_underlying hd,Result.andThen_ok]
    cases d <;> first | (simp at hdi;done) | simp
 ·rename_i ht
  cases ok with
  | false=> simp at ai
  | true=>
    simp only[if_true,Option.some.injEq,Prod.mk.injEq] at ai
    obtain ⟨rfl,rfl⟩:=ai
    obtain ⟨i,z,hi,pq,pL⟩:=hz rfl
    refine aN.same (u:= .tuple #[z,.bool false]) ?_ (cI.2 ⟨[z,.bool false],rfl,pL c,bF.2 ⟨rfl,rfl⟩,trivial⟩) hs
    simp only[Instr.typeAssert,Sem.run_bind,run_underlying hd,Result.andThen_ok]
    cases d <;> first | (simp at hdi;done) | simp[ht,zeroValue,typeInfo,hi,pq]
theorem SQ (hs:bp L c h w) {i:Nat} {x:V} {ux:Value} (hx:RV L c x ux) {v:V} {h':Hp} (ai:wG h i x=some (v,h')):aN L c w ((Instr.extract ux i).run P w) v h':=by
 unfold wG at ai
 split at ai
 case h_2=> cases ai
 rename_i vs
 obtain ⟨y,hy,he⟩:=ach.1 ai
 simp only[Prod.mk.injEq] at he
 obtain ⟨rfl,rfl⟩:=he
 obtain ⟨ws,rfl,hv⟩:=cI.1 hx
 have bR:i < ws.length:=by rw[hv.length];exact (acj.1 hy).1
 refine aN.same (u:=ws[i]) ?_ (hv.get i y ws[i] hy (aci bR)) hs
 simp[Instr.extract,bR]
theorem SS (hs:bp L c h w) {Ts:Array TypeId} {ty:TypeId} {x y:V} {ux uy:Value} (hx:RV L c x ux) (hy:RV L c y uy) {v:V} {h':Hp} (ai:uA h false x y=some (v,h')):aN L c w ((Builtin.min_ Ts ty #[ux,uy]).run P w) v h':=by
 unfold uA at ai
 split at ai
 case h_2=> cases ai
 obtain ⟨rfl,_⟩:=bF.1 hx
 obtain ⟨rfl,_⟩:=bF.1 hy
 obtain ⟨rfl,rfl⟩:=rk ai
 exact aN.same (by simp[Builtin.min_,Builtin.min2]) (bF.2 ⟨rfl,rfl⟩) hs
theorem SU (hs:bp L c h w) {Ts:Array TypeId} {ty:TypeId} {x y:V} {ux uy:Value} (hx:RV L c x ux) (hy:RV L c y uy) {v:V} {h':Hp} (ai:uA h true x y=some (v,h')):aN L c w ((Builtin.max_ Ts ty #[ux,uy]).run P w) v h':=by
 unfold uA at ai
 split at ai
 case h_2=> cases ai
 obtain ⟨rfl,_⟩:=bF.1 hx
 obtain ⟨rfl,_⟩:=bF.1 hy
 obtain ⟨rfl,rfl⟩:=rk ai
 exact aN.same (by simp[Builtin.max_,Builtin.max2]) (bF.2 ⟨rfl,rfl⟩) hs
theorem Nt (hs:bp L c h w) {T:TypeId} (hT:P.underlying T=some .string) {x y:V} {ux uy:Value} (hx:RV L c x ux) (hy:RV L c y uy) {v:V} {h':Hp} (ai:pt h x y=some (v,h')):
 aN L c w ((Instr.index T ux uy).run P w) v h':=by
 unfold pt at ai
 split at ai
 case h_2=> cases ai
 rename_i s i hi
 obtain ⟨k,rfl⟩:=jP hi hy
 obtain ⟨rfl,_⟩:=bF.1 hx
 split at ai
 case isFalse=> cases ai
 rename_i h0
 split at ai
 case h_2=> cases ai
 rename_i b hb
 simp only[Option.some.injEq,Prod.mk.injEq] at ai
 obtain ⟨rfl,rfl⟩:=ai
 refine aN.same (u:= .int .u8 b.toNat) ?_ (bF.2 ⟨rfl,rfl⟩) hs
 simp[Instr.index,asIntOf,run_underlying hT,h0,hb]
theorem SV (hs:bp L c h w) {T:TypeId} (hT:P.concrete T=true) {x:V} {ux:Value} (hx:RV L c x ux):aN L c w ((Instr.makeInterface T ux).run P w) (.iface T x) h:=
 aN.same (run_makeInterface (P:=P) w T ux hT) (zM.2 ⟨ux,rfl,hx⟩) hs
theorem SW (hs:bp L c h w) {T:TypeId} (hT:P.underlying T=some .string) {x:V} {ux:Value} (hx:RV L c x ux) {v:V} {h':Hp} (ai:zu h x=some (v,h')):
 aN L c w ((Instr.range T ux).run P w) v h':=by
 unfold zu at ai
 split at ai
 case h_2=> cases ai
 rename_i s
 obtain ⟨rfl,_⟩:=bF.1 hx
 simp only[Option.some.injEq,Prod.mk.injEq] at ai
 obtain ⟨rfl,rfl⟩:=ai
 have dv:=hs.push (.stringIter s 0) (.gI s 0) ⟨w.heap.size,0,none,0⟩ rfl ⟨rfl,rfl,jL⟩
 have hl:(c.push ⟨w.heap.size,0,none,0⟩).loc h.length=some ⟨w.heap.size,0,none,0⟩:=by simp[Ctx.push,hs.n]
 refine ⟨.pointer (some ⟨w.heap.size,0,none⟩),_,_,?_,uF dv hl rfl rfl,dv,c.iE _,St.alloc _ _⟩
 simp[Instr.range,run_underlying hT]
theorem SX (hs:bp L c h w) {ty:TypeId} {x:V} {ux:Value} (hx:RV L c x ux) {v:V} {h':Hp} (ai:zw h x=some (v,h')):
 aN L c w ((Instr.next ux true ty).run P w) v h':=by
 unfold zw at ai
 split at ai
 case h_2=> cases ai
 rename_i id
 split at ai
 case h_2=> cases ai
 rename_i s pos hk
 rcases hs.live id _ hk with ⟨l,hl⟩ | hd
 case inr=> cases hd
 obtain ⟨k,mD,hz,hb⟩:=hs.loc id l hl
 rw[hk] at mD;cases mD
 obtain ⟨h1,h2,h3⟩:=hb
 have hu:=jO hx hl h2 (o:=0) rfl
 subst hu
 have dL:(getObj l.bE).run P w= .ok (.stringIter s pos) w:=by simp[getObj,Sem.run,h3]
 split at ai
 ·rename_i bR
  simp only[Option.some.injEq,Prod.mk.injEq] at ai
  obtain ⟨rfl,rfl⟩:=ai
  have qI:(setObj l.bE (.stringIter s (pos+(Utf8.decode s pos).2))).run P w= .ok () {w with heap:=w.heap.setIfInBounds l.bE (.stringIter s (pos+(Utf8.decode s pos).2))}:=by simp[setObj,Sem.run,h3]
  have hmv:c.move id l=c:=by
    cases c with
    | mk z loc n=>
      simp only[Ctx.move]
      congr
      funext j
      by_cases hj:j=id
      ·subst hj;simp only[if_true];exact hl.symm
      ·simp[hj]
  have dv:=hs.move (l':=l) hl (w':= {w with heap:=w.heap.setIfInBounds l.bE (.stringIter s (pos+(Utf8.decode s pos).2))}) (.gI s (pos+(Utf8.decode s pos).2)) (by rw[hmv];exact Ctx.le_refl c) hz (Or.inl rfl)
    (fun b hb sI=> by simp[aea,adY sI]) (fun o' kP=> by rw[hz] at kP;cases kP)
    ⟨h1,h2,by simp[aea,eM h3]⟩
  rw[hmv] at dv
  refine ⟨.tuple #[.bool true,goInt pos,.int .i32 (Utf8.decode s pos).1],c,_,?_,cI.2 ⟨[.bool true,goInt pos,.int .i32 (Utf8.decode s pos).1],rfl,bF.2 ⟨rfl,rfl⟩,bF.2 ⟨rfl,rfl⟩,bF.2 ⟨rfl,rfl⟩,trivial⟩,dv,Ctx.le_refl c,⟨rfl,rfl,rfl,by simp⟩⟩
  simp only[Instr.next,Sem.run_bind,dL,Result.andThen_ok,if_pos bR,qI,Sem.run_pure]
 ·rename_i bR
  simp only[Option.some.injEq,Prod.mk.injEq] at ai
  obtain ⟨rfl,rfl⟩:=ai
  refine aN.same (u:= .tuple #[.bool false]) ?_ (cI.2 ⟨[.bool false],rfl,bF.2 ⟨rfl,rfl⟩,trivial⟩) hs
  simp only[Instr.next,Sem.run_bind,dL,Result.andThen_ok,if_neg bR,Sem.run_pure]
end Go.Vm
namespace Go.Vm
def aE (P:Program) (t:TypeId):Option Nat:=
 match P.underlying t with
 | some (.struct _)=> some (P.underlyingId t)
 | some (.array _ _)=> some (P.underlyingId t)
 | _=> none
def ak (P:Program):cG where
 size:=P.cellsOf
 fields t:=if t < P.types.size then match P.underlying t with | some (.struct fs)=> some (fs.toList.map fun f=> aE P f.type) | _=> none else none
 arr t:=if t < P.types.size then match P.underlying t with | some (.array n e)=> some (n,aE P e) | _=> none else none
def SY (P:Program) (t:Nat):Bool:=
 match P.underlying t with
 | some (.struct fs)=> P.cellsOf t==((fs.toList.map fun f=> aE P f.type).map (ak P).aD).sum
 | some (.array n e)=> P.cellsOf t==n *(ak P).aD (aE P e)
 | _=> true
def Zd (P:Program):Bool:=(List.range P.types.size).all (SY P)
theorem II {P:Program} (h:Zd P=true):(ak P).OK where
 st t fs hf:=by
  simp only[ak] at hf
  split at hf
  case isFalse=> cases hf
  rename_i bR
  split at hf
  ·rename_i fs' hu
   simp only[Option.some.injEq] at hf
   have h1:=acJ.1 h t (ado.2 bR)
   simp only[SY,hu,beq_iff_eq] at h1
   show P.cellsOf t=_
   rw[h1,hf]
  ·cases hf
 ar t n e ha:=by
  simp only[ak] at ha
  split at ha
  case isFalse=> cases ha
  rename_i bR
  split at ha
  ·rename_i n' e' hu
   simp only[Option.some.injEq,Prod.mk.injEq] at ha
   obtain ⟨rfl,rfl⟩:=ha
   have h1:=acJ.1 h t (ado.2 bR)
   simp only[SY,hu,beq_iff_eq] at h1
   exact h1
  ·cases ha
 no t r ha:=by
  simp only[ak] at ha ⊢
  split at ha
  case isFalse=> cases ha
  rename_i bR
  rw[if_pos bR]
  split at ha
  ·rename_i hu;simp[hu]
  ·cases ha
def oY (P:Program) (t:TypeId):Bool:=(P.info? t).isSome &&(P.underlying t).isSome && P.cellsOf t==(ak P).aD (aE P t)
theorem cM {P:Program} {t:TypeId} (h:oY P t=true):TG P (ak P) t (aE P t):=by
 simp only[oY,acn,beq_iff_eq] at h
 obtain ⟨⟨h1,h2⟩,h3⟩:=h
 obtain ⟨i,hi⟩:=aer.1 h1
 obtain ⟨d,hd⟩:=aer.1 h2
 refine ⟨⟨i,hi,by rw[←h3];simp[Program.cellsOf,hi]⟩,d,hd,?_⟩
 simp only[aE,hd]
 cases d <;> rfl
def zv (P:Program) (full:Bool):Nat→TypeId→Option V
 | 0,_=> none
 | n+1,t=>
   match P.underlying t with
   | some (.struct fs)=>(fs.toList.mapM fun f=> zv P full n f.type).map fun vs=> .st (P.underlyingId t) vs
   | some (.array k e)=>(zv P full n e).map fun v=> .arr (P.underlyingId t) (List.replicate k v)
   | some (.int k)=> some (.s (.int k 0))
   | some .bool=> some (.s (.bool false))
   | some .string=> some (.s (.string ByteArray.empty))
   | some (.pointer _)=> some (.s (.pointer none))
   | some (.slice e)=> some (.al full (aE P e) [])
   | some (.interface _)=> some (.s .nilIface)
   | some (.func ..)=> some (.s .nilFunc)
   | some (.map _ _)=> some (.s (.map none))
   | _=> none
def zc :V→List Value
 | .s x=> [x]
 | .al _ _ _=> [.slice none 0 0]
 | .st _ fs=> zcs fs
 | .arr _ es=> zcs es
 | _=> []
where zcs:List V→List Value
  | []=> []
  | v::vs=> zc v++zcs vs
def zOK (L:cG):V→Bool
 | .s x=> x.oneCell'
 | .al _ _ []=> true
 | .st t fs=> Ki fs && decide (L.fields t=some (fs.map V.ty))&& fs.all V.aA
 | .arr t es=> Ki es &&(match L.arr t with | some (n,e)=> n==es.length && es.all (fun x=> decide (x.ty=e)&& x.aA) | none=> false)
 | _=> false
where Ki:List V→Bool
  | []=> true
  | v::vs=> zOK L v && Ki vs
theorem Kj {L:cG} {c:Ctx}:∀(v:V),zOK L v=true→RC L c v (zc v):=by
 intro v
 induction v using V.rec (motive_2:=fun vs=> zOK.Ki L vs=true→cB L c vs (zc.zcs vs)) with
 | s x=> intro h;simp only[zOK] at h;simp only[RC,zc,true_and];exact h
 | al full g es=>
   intro h
   cases es with
   | nil=> exact (eD rfl).1 (fK (fun _=> rfl))
   | cons a b=> simp[zOK] at h
 | st t fs ih=>
   intro h
   simp only[zOK,acn,decide_eq_true_eq,acJ] at h
   simp only[RC,zc]
   exact ⟨ih h.1.1,h.1.2,h.2⟩
 | arr t es ih=>
   intro h
   simp only[zOK,acn] at h
   obtain ⟨h1,h2⟩:=h
   simp only[RC,zc]
   refine ⟨ih h1,?_⟩
   split at h2
   ·rename_i n e ha
    simp only[acn,beq_iff_eq,acJ,decide_eq_true_eq] at h2
    exact ⟨e,by rw[ha,h2.1],h2.2⟩
   ·cases h2
 | nil=> simp only[cB,zc.zcs]
 | cons v vs h1 h2=>
   rename_i h
   simp only[zOK.Ki,acn] at h
   simp only[cB,zc.zcs]
   exact ⟨_,_,rfl,h1 h.1,h2 h.2⟩
 | _=> intro h;simp[zOK] at h
def eqz :Value→Value→Bool
 | .bool a,.bool b=> a==b
 | .int k a,.int k' b=> decide (k=k')&& a==b
 | .string a,.string b=> decide (a=b)
 | .pointer none,.pointer none=> true
 | .slice none a b,.slice none a' b'=> a==a' && b==b'
 | .map none,.map none=> true
 | .nilFunc,.nilFunc=> true
 | .nilIface,.nilIface=> true
 | _,_=> false
theorem SZ {a b:Value} (h:eqz a b=true):a=b:=by
 unfold eqz at h
 split at h <;> simp_all
def B1 :List Value→List Value→Bool
 | [],[]=> true
 | a::as,b::bs=> eqz a b && B1 as bs
 | _,_=> false
theorem xZ :∀ {as bs:List Value},B1 as bs=true→as=bs
 | [],[],_=> rfl
 | [],_::_,h=> by simp[B1] at h
 | _::_,[],h=> by simp[B1] at h
 | a::as,b::bs,h=> by
   simp only[B1,acn] at h
   rw[SZ h.1,xZ h.2]
def Kk (P:Program) (t:TypeId) (z:V):Bool:=
 zOK (ak P) z && match P.info? t with
 | some i=> match i.zero with
   | some (.agg cs)=> z.ty.isSome && B1 (zc z) cs.toList
   | some x=> z.ty.isNone && B1 (zc z) [x]
   | none=> false
 | none=> false
theorem Kl {P:Program} {t:TypeId} {z:V} (h:Kk P t z=true):eO P (ak P) t z:=by
 simp only[Kk,acn] at h
 obtain ⟨h1,h2⟩:=h
 split at h2
 case h_2=> cases h2
 rename_i i hi
 split at h2
 ·rename_i cs hz
  simp only[acn] at h2
  obtain ⟨n,hn⟩:=aer.1 h2.1
  refine ⟨i,_,hi,hz,fun c=>(fN hn).2 ⟨cs.toList,by simp,?_⟩⟩
  rw[←xZ h2.2];exact Kj z h1
 ·rename_i x hx hz
  simp only[acn] at h2
  have hn:z.ty=none:=by simpa using h2.1
  refine ⟨i,x,hi,hz,fun c=>(eD hn).2 ?_⟩
  rw[←xZ h2.2];exact Kj z h1
 ·cases h2
def B2 (P:Program) (t:TypeId):Value→Option V
 | .bool b=> some (.s (.bool b))
 | .int k n=> some (.s (.int k n))
 | .string s=> some (.s (.string s))
 | .pointer none=> some (.s (.pointer none))
 | .nilIface=> some (.s .nilIface)
 | .nilFunc=> some (.s .nilFunc)
 | .slice none 0 0=> match P.underlying t with | some (.slice e)=> some (.al true (aE P e) []) | _=> none
 | _=> none
theorem FF {P:Program} {L:cG} {c:Ctx} {t:TypeId} {u:Value} {v:V} (h:B2 P t u=some v):RV L c v u:=by
 unfold B2 at h
 split at h <;> first
   | (simp only[Option.some.injEq] at h;subst h;exact bF.2 ⟨rfl,rfl⟩)
   | (split at h
      ·simp only[Option.some.injEq] at h;subst h;exact fK (fun _=> rfl)
      ·cases h)
   | (cases h;done)
def eP (P:Program) (t:TypeId):Operand→Option X
 | .tmp n=> some (.t n)
 | .const v=>(B2 P t v).map .c
 | .func f=> some (.c (.fn f []))
 | .global _=> none
def RF (L:cG) (c:Ctx) (fr:Fr) (a:Act):Prop:=gu L c fr a.tmps.toList
theorem gu.getD {L:cG} {c:Ctx} {vs:List V} {us:List Value} (h:gu L c vs us) (n:Nat):RV L c (vs.getD n (.bP [])) (us.getD n undef):=by
 by_cases hn:n < vs.length
 ·have vO:n < us.length:=by rw[h.length];exact hn
  have:=h.get n vs[n] us[n] (aci hn) (aci vO)
  simpa[List.getD,aci hn,aci vO] using this
 ·have vO:¬n < us.length:=by rw[h.length];exact hn
  simp only[List.getD,acW (aeS hn),acW (aeS vO),afD]
  exact cI.2 ⟨[],rfl,trivial⟩
theorem q23z {P:Program} {L:cG} {c:Ctx} {t:TypeId} {fr:Fr} {a:Act} (hf:RF L c fr a) {o:Operand} {x:X} (h:eP P t o=some x):RV L c (x.ev fr) (a.eval o):=by
 cases o with
 | tmp n=>
   simp only[eP,Option.some.injEq] at h
   subst h
   have:=gu.getD hf n
   simpa[X.ev,Act.eval,acu] using this
 | const v=>
   simp only[eP] at h
   obtain ⟨y,hy,rfl⟩:=ach.1 h
   exact FF hy
 | func f=>
   simp only[eP,Option.some.injEq] at h
   subst h
   exact DI.2 ⟨[],rfl,trivial⟩
 | global _=> simp[eP] at h
def cH (P:Program):List (TypeId×Operand)→Option (List X)
 | []=> some []
 | (t,o)::os=> match eP P t o,cH P os with | some x,some xs=> some (x::xs) | _,_=> none
theorem q12z {P:Program} {L:cG} {c:Ctx} {fr:Fr} {a:Act} (hf:RF L c fr a):∀ {os:List (TypeId×Operand)} {xs:List X},cH P os=some xs→gu L c (xs.map (X.ev fr)) (os.map fun p=> a.eval p.2)
 | [],xs,h=> by simp only[cH,Option.some.injEq] at h;subst h;trivial
 | (t,o)::os,xs,h=> by
   simp only[cH] at h
   split at h
   ·rename_i x xs' h1 h2
    simp only[Option.some.injEq] at h
    subst h
    exact ⟨q23z hf h1,q12z hf h2⟩
   ·cases h
end Go.Vm
