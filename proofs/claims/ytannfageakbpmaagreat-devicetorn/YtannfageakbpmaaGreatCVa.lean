/- An abstract machine for loaded programs, part 1: what it computes is what Go computes. Conditions: none. -/
import Derived.ProofKit
import Derived.WalkKit
import Derived.Laws.Cover4
set_option linter.unusedSimpArgs false
set_option linter.unusedVariables false
set_option linter.unusedSectionVars false
namespace Go.Vm
inductive V where
 | s (x:Value)
 | ptr (id:Nat) (path:List Nat) (aw:Nat)
 | ref (id:Nat) (path:List Nat) (g:Option Nat) (off len aw:Nat)
 | al (full:Bool) (g:Option Nat) (es:List V)
 | dQ (v:V)
 | st (t:Nat) (fs:List V)
 | arr (t:Nat) (es:List V)
 | bI (vs:List V)
 | iface (t:Nat) (v:V)
 | fn (f:Nat) (cap:List V)
 | mp (id:Nat)
 | top
 deriving Inhabited
def V.ty :V→Option Nat
 | .st t _=> some t
 | .arr t _=> some t
 | _=> none
def V.ax :V→Bool
 | .bI _=> false
 | .top=> false
 | _=> true
structure cq where
 size:Nat→Nat
 fields:Nat→Option (List (Option Nat))
 arr:Nat→Option (Nat×Option Nat)
def cq.az (L:cq):Option Nat→Nat
 | some t=> L.size t
 | none=> 1
structure cq.OK (L:cq):Prop where
 st:∀t fs,L.fields t=some fs→L.size t=(fs.map L.az).sum
 ar:∀t n e,L.arr t=some (n,e)→L.size t=n * L.az e
 no:∀t r,L.arr t=some r→L.fields t=none
def cq.walk (L:cq):Option Nat→List Nat→Option (Nat×Option Nat)
 | g,[]=> some (0,g)
 | none,_::_=> none
 | some t,i::p=>
   match L.fields t with
   | some fs=> match fs[i]? with
     | some g=>(L.walk g p).map fun r=>(((fs.take i).map L.az).sum+r.1,r.2)
     | none=> none
   | none=> match L.arr t with
     | some (n,e)=> if i < n then (L.walk e p).map fun r=>(i * L.az e+r.1,r.2) else none
     | none=> none
def cq.row (L:cq) (g:Option Nat):List Nat→Option (Nat×Option Nat×Option Nat)
 | []=> some (0,g,none)
 | i::p=> match L.walk g p with
   | some (o,some t)=>(L.arr t).map fun r=>(i * L.az g+o,r.2,some r.1)
   | _=> none
def cq.off (L:cq) (g:Option Nat):List Nat→Option Nat
 | []=> some 0
 | i::p=>(L.walk g p).map fun r=> i * L.az g+r.1
structure Loc where
 bq:Nat
 cap:Nat
 tag:Option Nat
 aw:Nat
structure Ctx where
 z:Nat→Option Obj
 loc:Nat→Option Loc
 n:Nat
def nb (cs:Array Value) (off n:Nat):List Value:=(cs.toList.drop off).take n
def wr :V→List Value→Value→Prop
 | .st _ _,us,u=> u= .agg us.toArray
 | .arr _ _,us,u=> u= .agg us.toArray
 | _,us,u=> us=[u]
def eL (m:Option Nat) (off len aw k cap:Nat):Prop:=
 match m with
 | none=> off+len≤aw∧aw≤off+k∧off+k≤cap
 | some n=> off+k=n
section
variable (L : cq) (c : Ctx)
mutual
def RC :V→List Value→Prop
 | .s x,us=> us=[x]∧x.oneCell'=true
 | .ptr id path aw,us=>∃a,us=[.pointer (some a)]∧id < c.n∧
     ∀l,c.loc id=some l→aw≤l.aw∧(l.aw=aw→∃o,L.off l.tag path=some o∧a=⟨l.bq,o,none⟩)
 | .ref id path g off len aw,us=>∃a k,us=[.slice (some a) len k]∧id < c.n∧len≤k∧
     ∀l,c.loc id=some l→aw≤l.aw∧(l.aw=aw→∃o m,L.row l.tag path=some (o,g,m)∧a=⟨l.bq,o+off * L.az g,none⟩∧eL m off len aw k l.cap)
 | .al full g es,us=>∃a k,us=[.slice a es.length k]∧es.length≤k∧(full=true→k=es.length)∧(∀e∈es,e.ty=g∧e.ax=true)∧
     (es=[]∨∃b off cs ty fz,a=some ⟨b,off,none⟩∧c.z b=some (.cells cs ty fz)∧bV es (nb cs off (es.length * L.az g)))
 | .dQ v,us=>∃b off cs ty fz,us=[.pointer (some ⟨b,off,none⟩)]∧c.z b=some (.cells cs ty fz)∧RC v (nb cs off (L.az v.ty))
 | .st t fs,us=> bV fs us∧L.fields t=some (fs.map V.ty)∧∀f∈fs,f.ax=true
 | .arr t es,us=> bV es us∧∃e,L.arr t=some (es.length,e)∧∀x∈es,x.ty=e∧x.ax=true
 | .bI vs,us=>∃ws:List Value,us=[.tuple ws.toArray]∧RW vs ws
 | .iface t v,us=>∃u us',us=[.iface t u]∧RC v us'∧wr v us' u
 | .fn f cap,us=>∃ws:List Value,us=[.func (.func f) #[] ws.toArray]∧RW cap ws
 | .mp id,us=>∃b,us=[.map (some b)]∧id < c.n∧∀l,c.loc id=some l→l.aw=0→b=l.bq
 | .top,us=>∃u,us=[u]
def bV :List V→List Value→Prop
 | [],us=> us=[]
 | v::vs,us=>∃u1 u2,us=u1++u2∧RC v u1∧bV vs u2
def RW :List V→List Value→Prop
 | [],us=> us=[]
 | v::vs,us=>∃u us',us=u::us'∧(∃u1,RC v u1∧wr v u1 u)∧RW vs us'
end
def RV (v:V) (u:Value):Prop:=∃us,RC L c v us∧wr v us u
end
end Go.Vm
namespace Go.Vm
variable {L : cq} {c c' : Ctx}
theorem jM (hL:L.OK) {vs:List V} (ih:∀v∈vs,∀us,RC L c v us→us.length=L.az v.ty):∀us,bV L c vs us→us.length=(vs.map fun v=> L.az v.ty).sum:=by
 induction vs with
 | nil=> intro us h;simp[bV] at h;simp[h]
 | cons v vs iv=>
   intro us h
   simp only[bV] at h
   obtain ⟨u1,u2,rfl,h1,h2⟩:=h
   have:=ih v (by simp) u1 h1
   have:=iv (fun x hx=> ih x (by simp[hx])) u2 h2
   simp;omega
theorem p7 {α:Type} (l:List α) (f:α→Nat) (k:Nat) (h:∀x∈l,f x=k):(l.map f).sum=l.length * k:=by
 induction l with
 | nil=> simp
 | cons a l ih=> simp[ih (fun x hx=> h x (by simp[hx])),h a (by simp),Nat.add_mul];omega
theorem q22z (hL:L.OK):∀(v:V) (us:List Value),RC L c v us→us.length=L.az v.ty:=by
 intro v
 induction v using V.rec (motive_2:=fun vs=>∀v∈vs,∀us,RC L c v us→us.length=L.az v.ty) with
 | s x=> intro us h;simp only[RC] at h;simp[h.1,V.ty,cq.az]
 | ptr=> intro us h;simp only[RC] at h;obtain ⟨a,h,_⟩:=h;simp[h,V.ty,cq.az]
 | ref=> intro us h;simp only[RC] at h;obtain ⟨a,k,h,_⟩:=h;simp[h,V.ty,cq.az]
 | al=> intro us h;simp only[RC] at h;obtain ⟨a,k,h,_⟩:=h;simp[h,V.ty,cq.az]
 | dQ=> intro us h;simp only[RC] at h;obtain ⟨_,_,_,_,_,h,_⟩:=h;simp[h,V.ty,cq.az]
 | st t fs ih=>
   intro us h
   simp only[RC] at h
   obtain ⟨h,hf,_⟩:=h
   rw[jM hL ih us h]
   simp[V.ty,cq.az,hL.st _ _ hf,List.map_map]
   rfl
 | arr t es ih=>
   intro us h
   simp only[RC] at h
   obtain ⟨h,e,ha,he⟩:=h
   rw[jM hL ih us h,p7 es _ (L.az e) (fun x hx=> by rw[(he x hx).1])]
   simp[V.ty,cq.az,hL.ar _ _ _ ha]
 | bI=> intro us h;simp only[RC] at h;obtain ⟨ws,h,_⟩:=h;simp[h,V.ty,cq.az]
 | iface=> intro us h;simp only[RC] at h;obtain ⟨u,us',h,_⟩:=h;simp[h,V.ty,cq.az]
 | fn=> intro us h;simp only[RC] at h;obtain ⟨ws,h,_⟩:=h;simp[h,V.ty,cq.az]
 | mp=> intro us h;simp only[RC] at h;obtain ⟨b,h,_⟩:=h;simp[h,V.ty,cq.az]
 | top=> intro us h;simp only[RC] at h;obtain ⟨u,h⟩:=h;simp[h,V.ty,cq.az]
 | nil=> rename_i hv _ _;exact absurd hv (by simp)
 | cons v vs h1 h2=>
   rename_i x hx us h
   rcases List.mem_cons.1 hx with rfl | hx
   ·exact h1 us h
   ·exact h2 x hx us h
theorem sD (hL:L.OK) {vs:List V} {us:List Value} (h:bV L c vs us):us.length=(vs.map fun v=> L.az v.ty).sum:=
 jM hL (fun v _=> q22z hL v) us h
theorem q8z (hL:L.OK) {vs:List V} {us:List Value} {g:Option Nat} (h:bV L c vs us) (hg:∀e∈vs,e.ty=g):us.length=vs.length * L.az g:=by
 rw[sD hL h]
 exact p7 _ _ _ (fun x hx=> by rw[hg x hx])
theorem dX {a b:List V} {us:List Value}:bV L c (a++b) us↔∃u1 u2,us=u1++u2∧bV L c a u1∧bV L c b u2:=by
 induction a generalizing us with
 | nil=> exact ⟨fun h=>⟨[],us,rfl,by simp[bV],h⟩,fun ⟨u1,u2,h1,h2,h3⟩=> by simp only[bV] at h2;subst h2;subst h1;exact h3⟩
 | cons v vs ih=>
   simp only[List.cons_append,bV]
   constructor
   ·rintro ⟨u1,u2,rfl,h1,h2⟩
    obtain ⟨x,y,rfl,h3,h4⟩:=ih.1 h2
    exact ⟨u1++x,y,by simp,⟨u1,x,rfl,h1,h3⟩,h4⟩
   ·rintro ⟨_,u2,rfl,⟨u1,x,rfl,h1,h3⟩,h4⟩
    exact ⟨u1,x++u2,by simp,h1,ih.2 ⟨x,u2,rfl,h3,h4⟩⟩
theorem nc (hL:L.OK) {vs:List V} {us:List Value} (h:bV L c vs us) {i:Nat} {v:V} (hi:vs[i]? =some v):
 RC L c v ((us.drop ((vs.take i).map fun v=> L.az v.ty).sum).take (L.az v.ty)):=by
 induction vs generalizing us i with
 | nil=> simp at hi
 | cons x xs ih=>
   simp only[bV] at h
   obtain ⟨u1,u2,rfl,h1,h2⟩:=h
   have hlen:=q22z hL x u1 h1
   cases i with
   | zero=>
     simp at hi;subst hi
     simpa[←hlen] using h1
   | succ i=>
     simp at hi
     have:=ih h2 hi
     simp only[List.take_succ_cons,List.map_cons,List.sum_cons,←hlen]
     rw[←List.drop_drop,List.drop_left]
     exact this
theorem qG {α:Type} (f:α→Nat):∀(l:List α) (i:Nat) (v:α),l[i]? =some v→((l.take i).map f).sum+f v≤(l.map f).sum
 | [],i,v,h=> by simp at h
 | x::xs,0,v,h=> by simp at h;subst h;simp
 | x::xs,i+1,v,h=> by
   have:=qG f xs i v (by simpa using h)
   simp only[List.take_succ_cons,List.map_cons,List.sum_cons];omega
theorem iU (hL:L.OK) {vs:List V} {us:List Value} (h:bV L c vs us) {i:Nat} {v:V} (hi:vs[i]? =some v):
 ((vs.take i).map fun v=> L.az v.ty).sum+L.az v.ty≤us.length:=by
 rw[sD hL h]
 exact qG (fun v=> L.az v.ty) vs i v hi
theorem dL {α:Type} (l:List α) (f:α→Nat) (k i:Nat) (h:∀x∈l,f x=k) (hi:i≤l.length):((l.take i).map f).sum=i * k:=by
 rw[p7 _ f k (fun x hx=> h x (List.mem_of_mem_take hx))]
 simp[Nat.min_eq_left hi]
theorem cQ (hL:L.OK) {vs:List V} {us:List Value} {g:Option Nat} (h:bV L c vs us) (hg:∀e∈vs,e.ty=g) {i:Nat} {v:V} (hi:vs[i]? =some v):
 RC L c v ((us.drop (i * L.az g)).take (L.az g)):=by
 have hv:v.ty=g:=hg v (List.mem_of_getElem? hi)
 have bW:i < vs.length:=(List.getElem?_eq_some_iff.1 hi).1
 have:=nc hL h hi
 rw[dL vs _ (L.az g) i (fun x hx=> by rw[hg x hx]) (by omega),hv] at this
 exact this
theorem da (hL:L.OK) {vs:List V} {us:List Value} {g:Option Nat} (h:bV L c vs us) (hg:∀e∈vs,e.ty=g) {i:Nat} {v:V} (hi:vs[i]? =some v):
 i * L.az g+L.az g≤us.length:=by
 rw[q8z hL h hg]
 have bW:i < vs.length:=(List.getElem?_eq_some_iff.1 hi).1
 have:(i+1)* L.az g≤vs.length * L.az g:=Nat.mul_le_mul_right _ (by omega)
 rw[Nat.add_mul] at this;omega
theorem eM (hL:L.OK) {vs:List V} {us:List Value} {g:Option Nat} (h:bV L c vs us) (hg:∀e∈vs,e.ty=g) (i:Nat) (hi:i≤vs.length):
 bV L c (vs.take i) (us.take (i * L.az g))∧bV L c (vs.drop i) (us.drop (i * L.az g)):=by
 have h':=h
 rw[←List.take_append_drop i vs] at h'
 obtain ⟨u1,u2,rfl,h1,h2⟩:=dX.1 h'
 have hl:=q8z hL h1 (fun e he=> hg e (List.mem_of_mem_take he))
 rw[List.length_take,Nat.min_eq_left hi] at hl
 rw[←hl,List.take_left,List.drop_left]
 exact ⟨h1,h2⟩
theorem vS (hL:L.OK) {vs:List V} {us:List Value} {g:Option Nat} (h:bV L c vs us) (hg:∀e∈vs,e.ty=g) (i n:Nat) (hi:i+n≤vs.length):
 bV L c ((vs.drop i).take n) ((us.drop (i * L.az g)).take (n * L.az g)):=by
 have h1:=(eM hL h hg i (by omega)).2
 exact (eM hL h1 (fun e he=> hg e (List.mem_of_mem_drop he)) n (by simp;omega)).1
structure Ctx.le (c c':Ctx):Prop where
 z:∀b o,c.z b=some o→c'.z b=some o
 n:c.n≤c'.n
 loc:∀id l',id < c.n→c'.loc id=some l'→∃l,c.loc id=some l∧l.tag=l'.tag∧l.aw≤l'.aw∧(l.aw=l'.aw→l'.bq=l.bq∧l'.cap=l.cap)
structure Ctx.DK (c c':Ctx):Prop where
 z:∀b cs ty fz,c.z b=some (.cells cs ty fz)→c'.z b=some (.cells cs ty fz)
 n:c.n≤c'.n
 loc:∀id l',id < c.n→c'.loc id=some l'→∃l,c.loc id=some l∧l.tag=l'.tag∧l.aw≤l'.aw∧(l.aw=l'.aw→l'.bq=l.bq∧l'.cap=l.cap)
theorem Ctx.le.DK (h:c.le c'):c.DK c':=⟨fun b cs ty fz hb=> h.z b _ hb,h.n,h.loc⟩
theorem Ctx.le_refl (c:Ctx):c.le c:=⟨fun _ _ h=> h,Nat.le_refl _,fun _ l _ h=>⟨l,h,rfl,Nat.le_refl _,fun _=>⟨rfl,rfl⟩⟩⟩
theorem Ctx.le.trans {a b d:Ctx} (h:a.le b) (h':b.le d):a.le d where
 z b o hb:=h'.z _ _ (h.z _ _ hb)
 n:=Nat.le_trans h.n h'.n
 loc id l'' hid hl:=by
   obtain ⟨l',h1,h2,h3,h4⟩:=h'.loc id l'' (Nat.lt_of_lt_of_le hid h.n) hl
   obtain ⟨l,k1,k2,k3,k4⟩:=h.loc id l' hid h1
   refine ⟨l,k1,k2.trans h2,Nat.le_trans k3 h3,fun e=> ?_⟩
   obtain ⟨x,y⟩:=h4 (by omega)
   obtain ⟨x',y'⟩:=k4 (by omega)
   exact ⟨x.trans x',y.trans y'⟩
theorem Ii (hle:c.DK c'):∀v:V,(∀us,RC L c v us→RC L c' v us):=by
 intro v
 induction v using V.rec (motive_2:=fun vs=>(∀us,bV L c vs us→bV L c' vs us)∧(∀us,RW L c vs us→RW L c' vs us)) with
 | s x=> intro us h;simpa only[RC] using h
 | ptr id path aw=>
   intro us h;simp only[RC] at h ⊢
   obtain ⟨a,h,hid,hl⟩:=h
   refine ⟨a,h,Nat.lt_of_lt_of_le hid hle.n,fun l' dv=> ?_⟩
   obtain ⟨l,h1,h2,h3,h4⟩:=hle.loc id l' hid dv
   obtain ⟨k1,k2⟩:=hl l h1
   refine ⟨Nat.le_trans k1 h3,fun e=> ?_⟩
   have e1:l.aw=aw:=by omega
   obtain ⟨o,ho,ha⟩:=k2 e1
   obtain ⟨x,_⟩:=h4 (by omega)
   exact ⟨o,by rw[←h2];exact ho,by rw[x];exact ha⟩
 | ref id path g off len aw=>
   intro us h;simp only[RC] at h ⊢
   obtain ⟨a,k,h,hid,lR,hl⟩:=h
   refine ⟨a,k,h,Nat.lt_of_lt_of_le hid hle.n,lR,fun l' dv=> ?_⟩
   obtain ⟨l,h1,h2,h3,h4⟩:=hle.loc id l' hid dv
   obtain ⟨k1,k2⟩:=hl l h1
   refine ⟨Nat.le_trans k1 h3,fun e=> ?_⟩
   have e1:l.aw=aw:=by omega
   obtain ⟨o,m,hr,ha,hm⟩:=k2 e1
   obtain ⟨x,y⟩:=h4 (by omega)
   refine ⟨o,m,by rw[←h2];exact hr,by rw[x];exact ha,?_⟩
   rw[y];exact hm
 | al full g es ih=>
   intro us h;simp only[RC] at h ⊢
   obtain ⟨a,k,h,h1,h2,h3,h4⟩:=h
   refine ⟨a,k,h,h1,h2,h3,?_⟩
   rcases h4 with h4 | ⟨b,off,cs,ty,fz,ha,hz,hr⟩
   ·exact .inl h4
   ·exact .inr ⟨b,off,cs,ty,fz,ha,hle.z _ _ _ _ hz,ih.1 _ hr⟩
 | dQ v ih=>
   intro us h;simp only[RC] at h ⊢
   obtain ⟨b,off,cs,ty,fz,h,hz,hr⟩:=h
   exact ⟨b,off,cs,ty,fz,h,hle.z _ _ _ _ hz,ih _ hr⟩
 | st t fs ih=> intro us h;simp only[RC] at h ⊢;exact ⟨ih.1 _ h.1,h.2⟩
 | arr t es ih=> intro us h;simp only[RC] at h ⊢;exact ⟨ih.1 _ h.1,h.2⟩
 | bI vs ih=> intro us h;simp only[RC] at h ⊢;obtain ⟨ws,h1,h2⟩:=h;exact ⟨ws,h1,ih.2 _ h2⟩
 | iface t v ih=> intro us h;simp only[RC] at h ⊢;obtain ⟨u,us',h1,h2,h3⟩:=h;exact ⟨u,us',h1,ih _ h2,h3⟩
 | fn f cap ih=> intro us h;simp only[RC] at h ⊢;obtain ⟨ws,h1,h2⟩:=h;exact ⟨ws,h1,ih.2 _ h2⟩
 | mp id=>
   intro us h;simp only[RC] at h ⊢
   obtain ⟨b,h,hid,hl⟩:=h
   refine ⟨b,h,Nat.lt_of_lt_of_le hid hle.n,fun l' dv h0=> ?_⟩
   obtain ⟨l,h1,h2,h3,h4⟩:=hle.loc id l' hid dv
   rw[hl l h1 (by omega),(h4 (by omega)).1]
 | top=> intro us h;simpa only[RC] using h
 | nil=> exact ⟨fun us h=> by simpa only[bV] using h,fun us h=> by simpa only[RW] using h⟩
 | cons v vs h1 h2=>
   refine ⟨fun us h=> ?_,fun us h=> ?_⟩
   ·simp only[bV] at h ⊢
    obtain ⟨u1,u2,rfl,k1,k2⟩:=h
    exact ⟨u1,u2,rfl,h1 _ k1,h2.1 _ k2⟩
   ·simp only[RW] at h ⊢
    obtain ⟨u,us',rfl,⟨u1,k1,k2⟩,k3⟩:=h
    exact ⟨u,us',rfl,⟨u1,h1 _ k1,k2⟩,h2.2 _ k3⟩
theorem RC.eN (hle:c.DK c') {v:V} {us:List Value} (h:RC L c v us):RC L c' v us:=Ii hle v us h
theorem RC.mono (hle:c.le c') {v:V} {us:List Value} (h:RC L c v us):RC L c' v us:=h.eN hle.DK
theorem RV.eN (hle:c.DK c') {v:V} {u:Value} (h:RV L c v u):RV L c' v u:=let ⟨us,h1,h2⟩:=h;⟨us,h1.eN hle,h2⟩
theorem RV.mono (hle:c.le c') {v:V} {u:Value} (h:RV L c v u):RV L c' v u:=let ⟨us,h1,h2⟩:=h;⟨us,h1.mono hle,h2⟩
theorem bV.eN (hle:c.DK c') {vs:List V}:∀ {us:List Value},bV L c vs us→bV L c' vs us:=by
 induction vs with
 | nil=> intro us h;simpa only[bV] using h
 | cons v vs ih=>
   intro us h;simp only[bV] at h ⊢
   obtain ⟨u1,u2,rfl,k1,k2⟩:=h
   exact ⟨u1,u2,rfl,k1.eN hle,ih k2⟩
theorem bV.mono (hle:c.le c') {vs:List V}:∀ {us:List Value},bV L c vs us→bV L c' vs us:=fun h=> bV.eN hle.DK h
theorem ea {v:V} {u:Value} (hv:v.ty=none):RV L c v u↔RC L c v [u]:=by
 cases v <;> first
   | (simp[V.ty] at hv;done)
   | exact ⟨fun ⟨us,h1,h2⟩=> by simp only[wr] at h2;rw[←h2];exact h1,fun h=>⟨[u],h,rfl⟩⟩
theorem eV {v:V} {u:Value} {t:Nat} (hv:v.ty=some t):RV L c v u↔∃us,u= .agg us.toArray∧RC L c v us:=by
 cases v <;> first
   | (simp[V.ty] at hv;done)
   | exact ⟨fun ⟨us,h1,h2⟩=>⟨us,h2,h1⟩,fun ⟨us,h1,h2⟩=>⟨us,h2,h1⟩⟩
end Go.Vm
namespace Go.Vm
inductive aV where
 | cells (tag:Option Nat) (es:List V)
 | fN (s:ByteArray) (pos:Nat)
 | map (es:List (V×V×Nat)) (clock:Nat)
 | lit (tag:Option Nat) (es:List V)
 | dead
 deriving Inhabited
abbrev Hp :=List aV
abbrev Fr :=List V
def aV.tag :aV→Option Nat
 | .cells g _=> g
 | _=> none
def aV.aw :aV→Nat
 | .cells _ es=> es.length
 | _=> 0
inductive X where
 | t (n:Nat)
 | c (v:V)
 deriving Inhabited
def X.ev (fr:Fr):X→V
 | .t n=> fr.getD n (.bI [])
 | .c v=> v
def V.ground :V→Bool
 | .s _=> true
 | .ptr _ _ _=> false
 | .ref _ _ _ _ _ _=> false
 | .al _ _ es=> all es
 | .dQ v=> v.ground
 | .st _ fs=> all fs
 | .arr _ es=> all es
 | .bI vs=> all vs
 | .iface _ v=> v.ground
 | .fn _ vs=> all vs
 | .mp _=> false
 | .top=> false
where all:List V→Bool
  | []=> true
  | v::vs=> v.ground && all vs
def nodeAt :List Nat→V→Option V
 | [],v=> some v
 | i::p,.st _ fs=> match fs[i]? with | some v=> nodeAt p v | none=> none
 | i::p,.arr _ es=> match es[i]? with | some v=> nodeAt p v | none=> none
 | _::_,_=> none
def putAt (y:V):List Nat→V→Option V
 | [],_=> some y
 | i::p,.st t fs=> match fs[i]? with | some v=>(putAt y p v).map fun v'=> .st t (fs.set i v') | none=> none
 | i::p,.arr t es=> match es[i]? with | some v=>(putAt y p v).map fun v'=> .arr t (es.set i v') | none=> none
 | _::_,_=> none
def rowOf (h:Hp) (id aw:Nat):Option (Option Nat×List V):=
 match h[id]? with
 | some (.cells g es)=> if es.length=aw then some (g,es) else none
 | _=> none
def node (h:Hp) (id:Nat) (path:List Nat) (aw:Nat):Option V:=
 match rowOf h id aw,path with
 | some (_,es),i::p=> match es[i]? with | some v=> nodeAt p v | none=> none
 | _,_=> none
def rowAt (h:Hp) (id:Nat) (path:List Nat) (aw:Nat):Option (List V):=
 match path with
 | []=>(rowOf h id aw).map (·.2)
 | _=> match node h id path aw with | some (.arr _ es)=> some es | _=> none
def store (h:Hp) (id:Nat) (path:List Nat) (aw:Nat) (y:V):Option Hp:=
 match rowOf h id aw,path with
 | some (g,es),i::p=> match es[i]? with
   | some v=>(putAt y p v).map fun v'=> h.set id (.cells g (es.set i v'))
   | none=> none
 | _,_=> none
def elems (h:Hp):V→Option (Option Nat×List V)
 | .al _ g es=> some (g,es)
 | .ref id path g off len aw=>(rowAt h id path aw).map fun es=>(g,(es.drop off).take len)
 | _=> none
def jN (op:BinOp) (k:IntKind) (a b:Int):Option Value:=
 match op with
 | .add=> some (.int k (k.wrap (a+b)))
 | .sub=> some (.int k (k.wrap (a - b)))
 | .mul=> some (.int k (k.wrap (a * b)))
 | .quo=> if b=0 then none else some (.int k (k.wrap (a.tdiv b)))
 | .rem=> if b=0 then none else some (.int k (a.tmod b))
 | .and=> some (.int k (k.wrap (BitVec.ofInt k.bits a &&& BitVec.ofInt k.bits b).toNat))
 | .or=> some (.int k (k.wrap (BitVec.ofInt k.bits a ||| BitVec.ofInt k.bits b).toNat))
 | .xor=> some (.int k (k.wrap (BitVec.ofInt k.bits a ^^^ BitVec.ofInt k.bits b).toNat))
 | .andNot=> some (.int k (k.wrap (BitVec.ofInt k.bits a &&& ~~~(BitVec.ofInt k.bits b)).toNat))
 | .eql=> some (.bool (a==b))
 | .neq=> some (.bool (a !=b))
 | .lss=> some (.bool (decide (a < b)))
 | .leq=> some (.bool (decide (a≤b)))
 | .gtr=> some (.bool (decide (b < a)))
 | .geq=> some (.bool (decide (b≤a)))
 | _=> none
def mF (op:BinOp) (k:IntKind) (a b:Int):Option Value:=
 if b < 0 then none else
 match op with
 | .shl=> some (.int k (k.wrap (a * 2 ^(min b.toNat k.bits))))
 | .shr=> some (.int k (a.fdiv (2 ^(min b.toNat k.bits))))
 | _=> none
def p8 (op:BinOp) (x y:ByteArray):Option Value:=
 match op with
 | .add=> if x.size+y.size≤9223372036854775807 then some (.string (x++y)) else none
 | .eql=> some (.bool (x.toList==y.toList))
 | .neq=> some (.bool !(x.toList==y.toList))
 | .lss=> some (.bool (Op.bytesLess x.toList y.toList))
 | .leq=> some (.bool (Op.bytesLess x.toList y.toList || x.toList==y.toList))
 | .gtr=> some (.bool !(Op.bytesLess x.toList y.toList || x.toList==y.toList))
 | .geq=> some (.bool !(Op.bytesLess x.toList y.toList))
 | _=> none
def ints (k:IntKind):List V→Option (List Int)
 | []=> some []
 | .s (.int k' n)::vs=> if k'=k then (ints k vs).map (n:: ·) else none
 | _::_=> none
def DL (op:BinOp) (b:Bool):Option Value:=
 match op with
 | .eql=> some (.bool b)
 | .neq=> some (.bool !b)
 | _=> none
inductive Cl where
 | num | tru | ptr
 deriving Inhabited
def vT (cl:Cl) (op:BinOp) (x y:V):Option Value:=
 match cl with
 | .num=> match x,y with
   | .s (.int k a),.s (.int k' b)=> match op with
     | .shl | .shr=> mF op k a b
     | _=> if k=k' then jN op k a b else none
   | .s (.string a),.s (.string b)=> p8 op a b
   | _,_=> none
 | .tru=> match x,y with
   | .s (.bool a),.s (.bool b)=> DL op (a==b)
   | _,_=> none
 | .ptr=> match x,y with
   | .s (.pointer none),.s (.pointer none)=> DL op true
   | .ptr _ _ _,.s (.pointer none)=> DL op false
   | .s (.pointer none),.ptr _ _ _=> DL op false
   | _,_=> none
def unV (op:UnOp):V→Option Value
 | .s (.int k n)=> match op with
   | .neg=> some (.int k (k.wrap (0 - n)))
   | .xor=> jN .xor k (if k.signed then -1 else k.max) n
   | _=> none
 | .s (.bool b)=> match op with | .not=> some (.bool !b) | _=> none
 | _=> none
def bytesOf :List V→Option (List UInt8)
 | []=> some []
 | .s (.int .u8 n)::vs=>(bytesOf vs).map (UInt8.ofNat n.toNat:: ·)
 | _::_=> none
def aa (b:UInt8):V:= .s (.int .u8 b.toNat)
def bD :List V→List (Nat×V)→Option (List V)
 | es,[]=> some es
 | es,(i,y)::ps=> match es[i]? with
   | some o=> if o.ty=y.ty∧y.ax=true then bD (es.set i y) ps else none
   | none=> none
inductive LK where
 | i (k:IntKind)
 | b
 | s
 deriving Inhabited,DecidableEq
inductive O where
 | mv
 | pick
 | bin (cl:Cl) (op:BinOp)
 | zd (t:Nat) (k:IntKind) (neg:Bool)
 | eqs (t:Nat) (ks:List LK) (neg:Bool)
 | un (op:UnOp)
 | aN
 | fa (t i:Nat)
 | CK (t i:Nat)
 | jj (t:Nat)
 | di (g:Option Nat)
 | idx (t:Nat)
 | DN
 | ld (g:Option Nat)
 | bd (g:Option Nat)
 | box (g:Option Nat)
 | eJ (g:Option Nat) (zero:V)
 | dF (t:Nat) (zero:List V) (places:List Nat)
 | jf (t:Nat) (zero:List V) (places:List Nat)
 | ja (g:Option Nat) (zero:List V) (places:List Nat)
 | qX
 | mks (g:Option Nat) (zero:V)
 | jg (g:Option Nat) (lo hi mx:Bool)
 | qp (t:Nat) (g:Option Nat) (lo hi:Bool)
 | sls (lo hi:Bool)
 | len
 | DO
 | app (g:Option Nat) (bytes:Nat)
 | cpy (g:Option Nat)
 | clr (g:Option Nat) (zero:V)
 | ig (k:IntKind)
 | Fv
 | r2s (one:Bool)
 | s2b (lit:Bool)
 | mki (t:Nat)
 | tas (t:Nat) (ok:Bool) (zero:V)
 | ext (i:Nat)
 | min
 | max
 | rng
 | nxt
 | call (f:Nat)
 | lX
 | mkf (f:Nat)
 | nop
 | fzp (g:Option Nat)
 | ie (f:Nat)
 | Fx (g:Option Nat) (zero:List V) (places:List Nat)
 | apx (g:Option Nat) (bytes:Nat)
 | bsx (g:Option Nat) (zero:List V) (places:List Nat)
 | mkm
 | lku (kc:Option (Nat×IntKind)) (ok:Bool) (zero:V)
 | mup (kc:Option (Nat×IntKind)) (g:Option Nat)
 | mpe (kc:Option (Nat×IntKind)) (zero:V)
 | ens (g:Option Nat)
 | mln
 | s2a (t:Nat) (g:Option Nat) (n:Nat)
 | apz (g:Option Nat) (bytes:Nat) (zero:V)
 | cap
 | bad
 deriving Inhabited
def O.bQ :O→Bool
 | .bd _ | .box _ | .eJ _ _ | .mks _ _ | .app _ _ | .cpy _ | .clr _ _ | .rng | .nxt | .call _ | .lX=> true
 | .ja _ zero _=> !zero.isEmpty
 | .qX=> true
 | .apx _ _=> true
 | .bsx _ _ _=> true
 | .mkm | .mup _ _ | .mpe _ _ | .ens _ | .s2a _ _ _ | .apz _ _ _=> true
 | .s2b lit=> !lit
 | _=> false
structure G where
 dst:Option Nat
 op:O
 xs:List X
 guard:Option (Nat×Bool)
 deriving Inhabited
def js (v:Value) (h:Hp):Option (V×Hp):=some (.s v,h)
def bO (base id:Nat) (v:V):Bool:=decide (base≤id) || v.ground
def aL (lo hi:Bool) (xs:List V):Option (Option V×Option V):=
 match lo,hi,xs with
 | true,true,[a,b]=> some (some a,some b)
 | true,false,[a]=> some (some a,none)
 | false,true,[b]=> some (none,some b)
 | false,false,[]=> some (none,none)
 | _,_,_=> none
def cL :Option V→Nat→Option Nat
 | none,d=> some d
 | some (.s (.int _ n)),_=> if 0≤n then some n.toNat else none
 | some _,_=> none
def dx (h:Hp) (g:Option Nat) (x:V) (l hi:Nat):Option V:=
 if l≤hi then
  match x with
  | .al full g' es=> if g'=g∧hi≤es.length then some (.al (full && hi==es.length) g ((es.drop l).take (hi - l))) else none
  | .ref id path g' off len aw=> match rowAt h id path aw with
    | some es=> if g'=g∧(hi≤len∨off+hi≤es.length) then (if l=0∨l < hi then some (.ref id path g (off+l) (hi - l) aw) else some (.al false g [])) else none
    | none=> none
  | _=> none
 else none
def rA (h:Hp) (g:Option Nat) (x:V) (l hi mx:Nat):Option V:=
 if l≤hi∧hi≤mx then
  match x with
  | .al full g' es=> if g'=g∧mx≤es.length then some (.al (mx==hi) g ((es.drop l).take (hi - l))) else none
  | .ref id path g' off len aw=> match rowAt h id path aw with
    | some es=> if mx≤len∨off+mx≤es.length then (if l=mx then some (.al true g []) else some .top) else none
    | none=> none
  | _=> none
 else none
def fq :V→Option Nat
 | .al _ _ es=> some es.length
 | .ref _ _ _ _ len _=> some len
 | _=> none
def cT (base:Nat) (g:Option Nat) (bytes:Nat) (h:Hp) (x:V) (gy:Option Nat) (ys:List V):Option (V×Hp):=
 if ys=[] then (fq x).map fun _=>(x,h) else
 if gy=g then
  match x with
  | .al true g' es=>
    if g'=g∧(es.length+ys.length)* bytes≤140737488355328 then some (.ref h.length [] g 0 (es.length+ys.length) (es.length+ys.length),h++[.cells g (es++ys)])
    else none
  | .ref id [] g' off len aw=> match rowOf h id aw with
    | some (g'',es)=>
      if g'=g∧g''=g∧ys.all (bO base id) then
       if off+len+ys.length≤aw then
        some (.ref id [] g off (len+ys.length) aw,h.set id (.cells g (es.take (off+len)++ys++es.drop (off+len+ys.length))))
       else if off=0∧len=aw∧(len+ys.length)* bytes≤140737488355328 then
         some (.ref id [] g 0 (len+ys.length) (aw+ys.length),h.set id (.cells g (es++ys)))
       else none
      else none
    | none=> none
  | _=> none
 else none
def dM (s:ByteArray):List V:=s.data.toList.map aa
def source (h:Hp):V→Option (Option Nat×List V)
 | .s (.string s)=> some (none,dM s)
 | x=> elems h x
def copyV (base:Nat) (g:Option Nat) (h:Hp) (x:V) (gy:Option Nat) (ys:List V):Option (V×Hp):=
 match x with
 | .ref id [] g' off len aw=> match rowOf h id aw with
   | some (g'',es)=>
     let n:=min ys.length len
     if gy=g∧g'=g∧g''=g∧off+len≤aw∧ys.all (bO base id) then
      some (.s (.int .i64 n),h.set id (.cells g (es.take off++ys.take n++es.drop (off+n))))
     else none
   | none=> none
 | _=> none
def xR (base:Nat) (g:Option Nat) (h:Hp) (x:V) (gy:Option Nat) (ys:List V):Option (V×Hp):=
 match x with
 | .ref id (i::p) g' off len aw=> match node h id (i::p) aw with
   | some (.arr t es)=>
     if gy=g∧g'=g∧off+len≤es.length∧ys.all (bO base id) then
      (store h id (i::p) aw (.arr t (es.take off++ys.take (min ys.length len)++es.drop (off+min ys.length len)))).map fun h'=>(.s (.int .i64 (min ys.length len:Nat)),h')
     else none
   | _=> none
 | x=> copyV base g h x gy ys
def sE (h:Hp) (c a b:V):Option (V×Hp):=
 match c with
 | .s (.bool c)=> some (if c then a else b,h)
 | _=> none
def lK (h:Hp) (cl:Cl) (op:BinOp) (x y:V):Option (V×Hp):=(vT cl op x y).bind (js · h)
def sF (h:Hp) (t:Nat) (k:IntKind) (neg:Bool) (x y:V):Option (V×Hp):=
 match x,y with
 | .arr t1 es,.arr t2 fs=>
   if t1=t∧t2=t then match ints k es,ints k fs with | some a,some b=> js (.bool (if neg then !(a==b) else a==b)) h | _,_=> none else none
 | _,_=> none
def V.flat :V→Option (List Value)
 | .s x=> some [x]
 | .st _ fs=> all fs
 | .arr _ es=> all es
 | _=> none
where all:List V→Option (List Value)
  | []=> some []
  | v::vs=> match v.flat,all vs with | some a,some b=> some (a++b) | _,_=> none
def Ij :LK→Value→Bool
 | .i k,.int q n=> decide (q=k∧k.min≤n∧n≤k.max)
 | .b,.bool _=> true
 | .s,.string s=> decide (s.size≤140737488351232)
 | _,_=> false
def sG :List LK→List Value→Bool
 | [],[]=> true
 | k::ks,v::vs=> Ij k v && sG ks vs
 | _,_=> false
def sH :Value→Value→Bool
 | .int _ a,.int _ b=> a==b
 | .bool a,.bool b=> a==b
 | .string a,.string b=> a.data.toList==b.data.toList
 | _,_=> false
def fO :List Value→List Value→Bool
 | [],[]=> true
 | a::as,b::bs=> sH a b && fO as bs
 | _,_=> false
def uJ (h:Hp) (t:Nat) (ks:List LK) (neg:Bool) (x y:V):Option (V×Hp):=
 match x,y with
 | .st t1 fs,.st t2 gs=>
   if t1=t∧t2=t then match V.flat.all fs,V.flat.all gs with
    | some us,some ws=> if sG ks us=true∧sG ks ws=true then js (.bool (if neg then !fO us ws else fO us ws)) h else none
    | _,_=> none
   else none
 | _,_=> none
def xS (h:Hp) (x:V):Option (V×Hp):=
 match x with
 | .ptr _ _ _=> some (x,h)
 | .dQ _=> some (x,h)
 | .fn _ _=> some (x,h)
 | _=> none
def DP (h:Hp) (t i:Nat) (x:V):Option (V×Hp):=
 match x with
 | .ptr id path aw=> match node h id path aw with
   | some (.st t' fs)=> if t'=t∧i < fs.length then some (.ptr id (path++[i]) aw,h) else none
   | _=> none
 | .dQ (.st t' fs)=> if t'=t then (fs[i]?).map fun v=>(.dQ v,h) else none
 | _=> none
def sI (h:Hp) (t i:Nat) (x:V):Option (V×Hp):=
 match x with
 | .st t' fs=> if t'=t then (fs[i]?).map fun v=>(v,h) else none
 | _=> none
def numOf :V→Option Int
 | .s (.int _ n)=> some n
 | _=> none
def uK (h:Hp) (t:Nat) (x y:V):Option (V×Hp):=
 match numOf y with
 | some i=>
   match x with
   | .ptr id path aw=> match node h id path aw with
     | some (.arr t' es)=> if t'=t∧0≤i∧i < es.length then some (.ptr id (path++[i.toNat]) aw,h) else none
     | _=> none
   | .dQ (.arr t' es)=> if t'=t∧0≤i∧i < es.length then (es[i.toNat]?).map fun v=>(.dQ v,h) else none
   | _=> none
 | none=> none
def uL (h:Hp) (g:Option Nat) (x y:V):Option (V×Hp):=
 match numOf y with
 | some i=>
   match x with
   | .ref id path g' off len aw=> match rowAt h id path aw with
     | some es=> if g'=g∧0≤i∧i < len∧off+i.toNat < es.length then some (.ptr id (path++[off+i.toNat]) aw,h) else none
     | none=> none
   | .al _ g' es=> if g'=g∧0≤i then (es[i.toNat]?).map fun v=>(.dQ v,h) else none
   | _=> none
 | none=> none
def qz (h:Hp) (t:Nat) (x y:V):Option (V×Hp):=
 match x,numOf y with
 | .arr t' es,some i=> if t'=t∧0≤i then (es[i.toNat]?).map fun v=>(v,h) else none
 | _,_=> none
def oz (h:Hp) (x y:V):Option (V×Hp):=
 match x,numOf y with
 | .s (.string s),some i=> if 0≤i then match s[i.toNat]? with | some b=> some (aa b,h) | none=> none else none
 | _,_=> none
def re (h:Hp) (g:Option Nat) (x:V):Option (V×Hp):=
 match x with
 | .ptr id path aw=> match node h id path aw with
   | some v=> if v.ty=g then some (v,h) else none
   | none=> none
 | .dQ v=> if v.ty=g then some (v,h) else none
 | _=> none
def xT (base:Nat) (h:Hp) (g:Option Nat) (x y:V):Option (V×Hp):=
 match x with
 | .ptr id path aw=> match node h id path aw with
   | some v=> if v.ty=g∧y.ty=g∧y.ax=true∧bO base id y=true then (store h id path aw y).map fun h'=>(.bI [],h') else none
   | none=> none
 | _=> none
def sJ (h:Hp) (g:Option Nat) (x:V):Option (V×Hp):=
 if x.ty=g∧x.ax=true then some (.ptr h.length [0] 1,h++[.cells g [x]]) else none
def p9 (h:Hp) (t:Nat) (zero:List V) (places:List Nat) (xs:List V):Option (V×Hp):=
 if places.length=xs.length then (bD zero (places.zip xs)).map fun fs=>(.st t fs,h) else none
def qa (h:Hp) (t:Nat) (zero:List V) (places:List Nat) (xs:List V):Option (V×Hp):=
 if places.length=xs.length then (bD zero (places.zip xs)).map fun es=>(.arr t es,h) else none
def nL (h:Hp) (g:Option Nat) (zero:List V) (places:List Nat) (xs:List V):Option (V×Hp):=
 if places.length=xs.length then match bD zero (places.zip xs) with
  | some es=> if es.isEmpty then some (.al true g [],h) else some (.ref h.length [] g 0 es.length es.length,h++[.cells g es])
  | none=> none
 else none
def Ik (h:Hp) (id:Nat) (g':Option Nat) (len aw:Nat):Option (V×Hp):=
 match h[id]? with
 | some (.lit g es)=> if len=aw∧es.length=aw∧g'=g then some (.al true g es,h.set id .dead) else none
 | _=> none
def uM (h:Hp) (x:V):Option (V×Hp):=
 match x with
 | .ref id [] g' 0 len aw=> match rowOf h id aw with
   | some (g,es)=> if len=aw∧g'=g then some (.al false g es,h.set id .dead) else none
   | none=> Ik h id g' len aw
 | _=> none
def qx (r:V×Hp):Option (V×Hp):=
 match r.1 with
 | .al _ g es=> some (.al false g es,r.2)
 | .ref id [] g' 0 len aw=> match rowOf r.2 id aw with
   | some (g,es)=> if len=aw∧g'=g then some (.al false g es,r.2.set id .dead) else none
   | none=> none
 | _=> none
def uN (h:Hp) (x:V):Option (V×Hp):=
 match x with
 | .al true _ es=> js (.int .i64 es.length) h
 | _=> none
def uo (h:Hp) (t:Nat) (g:Option Nat) (n:Nat) (x:V):Option (V×Hp):=
 (qx (x,h)).bind fun r=> match r.1 with
   | .al _ g' es=> if g'=g∧0 < n∧n≤es.length then some (.dQ (.arr t (es.take n)),r.2) else none
   | _=> none
def sK (h:Hp) (g:Option Nat) (zero:List V) (places:List Nat) (xs:List V):Option (V×Hp):=
 if places.length=xs.length then match bD zero (places.zip xs) with
  | some es=> if es.isEmpty then none else some (.ref h.length [] g 0 es.length es.length,h++[.lit g es])
  | none=> none
 else none
def uO (h:Hp) (g:Option Nat) (zero x y:V):Option (V×Hp):=
 match numOf x,numOf y with
 | some n,some m=>
   if n=m∧0≤n∧n≤16777216 then
    (if n=0 then some (.al true g [],h) else some (.ref h.length [] g 0 n.toNat n.toNat,h++[.cells g (List.replicate n.toNat zero)]))
   else none
 | _,_=> none
def fZ (h:Hp) (g:Option Nat) (lo hi mx:Bool) (x:V) (bs:List V):Option (V×Hp):=
 match fq x with
 | some len=>
   match lo,hi,mx,bs with
   | lo,hi,false,bs=> match aL lo hi bs with
     | some (a,b)=> match cL a 0,cL b len with | some l,some r=>(dx h g x l r).map fun v=>(v,h) | _,_=> none
     | none=> none
   | false,true,true,[b,m]=> match cL (some b) 0,cL (some m) 0 with | some r,some m=>(rA h g x 0 r m).map fun v=>(v,h) | _,_=> none
   | true,true,true,[a,b,m]=> match cL (some a) 0,cL (some b) 0,cL (some m) 0 with | some l,some r,some m=>(rA h g x l r m).map fun v=>(v,h) | _,_,_=> none
   | _,_,_,_=> none
 | none=> none
def qv (h:Hp) (t:Nat) (g:Option Nat) (lo hi:Bool) (x:V) (bs:List V):Option (V×Hp):=
 match aL lo hi bs with
 | some (a,b)=> match x with
   | .ptr id path aw=> match node h id path aw with
     | some (.arr t' es)=> if t'=t then match cL a 0,cL b es.length with | some l,some r=> if l≤r∧r≤es.length then (if l=0∨l < es.length then some (.ref id path g l (r - l) aw,h) else some (.al true g [],h)) else none | _,_=> none else none
     | _=> none
   | .dQ (.arr t' es)=> if t'=t then match cL a 0,cL b es.length with | some l,some r=> if l≤r∧r≤es.length then some (.al (r==es.length) g ((es.drop l).take (r - l)),h) else none | _,_=> none else none
   | _=> none
 | none=> none
def uP (h:Hp) (lo hi:Bool) (x:V) (bs:List V):Option (V×Hp):=
 match x,aL lo hi bs with
 | .s (.string s),some (a,b)=> match cL a 0,cL b s.size with | some l,some r=> if l≤r∧r≤s.size then js (.string (s.extract l r)) h else none | _,_=> none
 | _,_=> none
def sL (h:Hp) (x:V):Option (V×Hp):=(fq x).bind fun n=> js (.int .i64 n) h
def qb (h:Hp) (x:V):Option (V×Hp):=
 match x with
 | .s (.string s)=> js (.int .i64 s.size) h
 | _=> none
def nF (base:Nat) (h:Hp) (g:Option Nat) (bytes:Nat) (x y:V):Option (V×Hp):=(source h y).bind fun r=> cT base g bytes h x r.1 r.2
def ub (base:Nat) (h:Hp) (g:Option Nat) (bytes:Nat) (zero x y:V):Option (V×Hp):=
 match y with
 | .s (.int .i64 k)=> if 0≤k∧k.toNat * bytes≤140737488355328 then cT base g bytes h x g (List.replicate k.toNat zero) else none
 | _=> none
def Nm (base:Nat) (h:Hp) (g:Option Nat) (bytes:Nat) (x y:V):Option (V×Hp):=(nF base h g bytes x y).bind qx
def Il (base:Nat) (h:Hp) (g:Option Nat) (x y:V):Option (V×Hp):=(source h y).bind fun r=> xR base g h x r.1 r.2
def xU (base:Nat) (h:Hp) (g:Option Nat) (zero x:V):Option (V×Hp):=
 match fq x with
 | some 0=> some (.bI [],h)
 | some n=>(copyV base g h x g (List.replicate n zero)).map fun r=>(.bI [],r.2)
 | none=> none
def uQ (h:Hp) (k:IntKind) (x:V):Option (V×Hp):=(numOf x).bind fun n=> js (.int k (k.wrap n)) h
def nd :List V→Option (List Int)
 | []=> some []
 | .s (.int .i32 n)::vs=>(nd vs).map (n:: ·)
 | _::_=> none
def sM (h:Hp) (one:Bool) (x:V):Option (V×Hp):=
 if one then match x with
  | .s (.int .i32 n)=> js (.string (Utf8.encode n)) h
  | _=> none
 else (elems h x).bind fun r=>(nd r.2).bind fun l=> js (.string (runesBytes l)) h
def uR (h:Hp) (x:V):Option (V×Hp):=(elems h x).bind fun r=>(bytesOf r.2).bind fun l=> js (.string ⟨l.toArray⟩) h
def qH (h:Hp) (lit:Bool) (x:V):Option (V×Hp):=
 match x with
 | .s (.string s)=> if lit then some (.al false none (dM s),h) else if s.size=0 then none else some (.ref h.length [] none 0 s.size s.size,h++[.cells none (dM s)])
 | _=> none
def uS (h:Hp) (t:Nat) (ok:Bool) (zero x:V):Option (V×Hp):=
 match x with
 | .iface t' y=> if t'=t then some (if ok then .bI [y,.s (.bool true)] else y,h) else if ok then some (.bI [zero,.s (.bool false)],h) else none
 | _=> none
def uT (h:Hp) (i:Nat) (x:V):Option (V×Hp):=
 match x with
 | .bI vs=>(vs[i]?).map fun v=>(v,h)
 | _=> none
def sN (h:Hp) (mx:Bool) (x y:V):Option (V×Hp):=
 match x,y with
 | .s (.int k a),.s (.int _ b)=> js (.int k (if mx then (if b > a then b else a) else (if b < a then b else a))) h
 | _,_=> none
def xV (h:Hp) (x:V):Option (V×Hp):=
 match x with
 | .s (.string s)=> some (.ptr h.length [] 0,h++[.fN s 0])
 | _=> none
def xW (h:Hp) (x:V):Option (V×Hp):=
 match x with
 | .ptr id [] 0=> match h[id]? with
   | some (.fN s pos)=>
     if pos < s.size then some (.bI [.s (.bool true),.s (.int .i64 pos),.s (.int .i32 (Utf8.decode s pos).1)],h.set id (.fN s (pos+(Utf8.decode s pos).2)))
     else some (.bI [.s (.bool false)],h)
   | _=> none
 | _=> none
def qI (h:Hp) (g:Option Nat) (x:V):Option (V×Hp):=
 if x.ty=g∧x.ax=true then some (.dQ x,h) else none
open Classical in
noncomputable def sO (r:Option (V×Hp)) (h:Hp):Option (V×Hp):=
 match r with
 | some (v,h')=> if h'=h then some (v,h) else none
 | none=> none
def sP (h:Hp) (g:Option Nat) (zero:List V) (places:List Nat) (xs:List V):Option (V×Hp):=
 if places.length=xs.length then (bD zero (places.zip xs)).map fun es=>(.al true g es,h) else none
def mG (kc:Option (Nat×IntKind)) (x y:V):Option Bool:=
 match kc,x,y with
 | none,.s (.int k a),.s (.int k' b)=> if k=k' then some (a==b) else none
 | some (t,k),.arr t1 es,.arr t2 fs=> if t1=t∧t2=t then match ints k es,ints k fs with | some a,some b=> some (a==b) | _,_=> none else none
 | _,_,_=> none
def gU (kc:Option (Nat×IntKind)) (x:V):List (V×V×Nat)→Nat→Option (Option (Nat×V×Nat))
 | [],_=> some none
 | e::es,i=> match mG kc x e.1 with
   | some true=> some (some (i,e.2))
   | some false=> gU kc x es (i+1)
   | none=> none
def pg (kc:Option (Nat×IntKind)) (x:V) (es:List (V×V×Nat)):Option (Option (Nat×V×Nat)):=if mG kc x x=some true then gU kc x es 0 else none
def VT (ok:Bool) (zero:V):Option (Nat×V×Nat)→V
 | some (_,v,_)=> if ok then .bI [v,.s (.bool true)] else v
 | none=> if ok then .bI [zero,.s (.bool false)] else zero
def xX (h:Hp) (kc:Option (Nat×IntKind)) (ok:Bool) (zero x k:V):Option (V×Hp):=
 match x with
 | .mp id=> match h[id]? with
   | some (.map es _)=>(pg kc k es).map fun r=>(VT ok zero r,h)
   | _=> none
 | _=> none
def xY (base:Nat) (h:Hp) (kc:Option (Nat×IntKind)) (g:Option Nat) (x k v:V):Option (V×Hp):=
 match x with
 | .mp id=> if (bO base id v && k.ground && v.ax && decide (v.ty=g))=true then match h[id]? with
   | some (.map es cl)=>(pg kc k es).map fun r=> match r with
     | some (i,_,b)=>(.bI [],h.set id (.map (es.set i (k,v,b)) cl))
     | none=>(.bI [],h.set id (.map (es++[(k,v,cl)]) (cl+1)))
   | _=> none
   else none
 | _=> none
def xZ (base:Nat) (h:Hp) (kc:Option (Nat×IntKind)) (zero x k:V):Option (V×Hp):=
 match x with
 | .mp id=> if (bO base id zero && k.ground)=true then match h[id]? with
   | some (.map es cl)=>(pg kc k es).map fun r=> match r with
     | some (i,v,b)=>(.bI [v,.s (.int .i64 b)],h.set id (.map (es.set i (k,v,b)) cl))
     | none=>(.bI [zero,.s (.int .i64 cl)],h.set id (.map (es++[(k,zero,cl)]) (cl+1)))
   | _=> none
   else none
 | _=> none
def x9 (n:Int) (v:V):List (V×V×Nat)→Option (List (V×V×Nat))
 | []=> none
 | e::es=> if (e.2.2:Int)=n then some ((e.1,v,e.2.2)::es) else (x9 n v es).map (e:: ·)
def ya (base:Nat) (h:Hp) (g:Option Nat) (x k v:V):Option (V×Hp):=
 match x,k with
 | .mp id,.s (.int _ n)=> if (bO base id v && v.ax && decide (v.ty=g))=true then match h[id]? with
   | some (.map es cl)=>(x9 n v es).map fun es'=>(.bI [],h.set id (.map es' cl))
   | _=> none
   else none
 | _,_=> none
def yb (h:Hp) (x:V):Option (V×Hp):=
 match x with
 | .mp id=> match h[id]? with
   | some (.map es _)=> some (.s (.int .i64 es.length),h)
   | _=> none
 | _=> none
noncomputable def aB (cf:Nat→List V→Hp→Option (V×Hp)) (base:Nat) (h:Hp):O→List V→Option (V×Hp)
 | .mv,[x]=> some (x,h)
 | .pick,[c,a,b]=> sE h c a b
 | .bin cl op,[x,y]=> lK h cl op x y
 | .zd t k neg,[x,y]=> sF h t k neg x y
 | .eqs t ks neg,[x,y]=> uJ h t ks neg x y
 | .un op,[x]=>(unV op x).bind (js · h)
 | .aN,[x]=> xS h x
 | .fa t i,[x]=> DP h t i x
 | .CK t i,[x]=> sI h t i x
 | .jj t,[x,y]=> uK h t x y
 | .di g,[x,y]=> uL h g x y
 | .idx t,[x,y]=> qz h t x y
 | .DN,[x,y]=> oz h x y
 | .ld g,[x]=> re h g x
 | .bd g,[x,y]=> xT base h g x y
 | .box g,[x]=> sJ h g x
 | .eJ g zero,[]=> sJ h g zero
 | .dF t zero places,xs=> p9 h t zero places xs
 | .jf t zero places,xs=> qa h t zero places xs
 | .ja g zero places,xs=> nL h g zero places xs
 | .qX,[x]=> uM h x
 | .mks g zero,[x,y]=> uO h g zero x y
 | .jg g lo hi mx,x::bs=> fZ h g lo hi mx x bs
 | .qp t g lo hi,x::bs=> qv h t g lo hi x bs
 | .sls lo hi,x::bs=> uP h lo hi x bs
 | .len,[x]=> sL h x
 | .DO,[x]=> qb h x
 | .app g bytes,[x,y]=> nF base h g bytes x y
 | .cpy g,[x,y]=> Il base h g x y
 | .clr g zero,[x]=> xU base h g zero x
 | .ig k,[x]=> uQ h k x
 | .Fv,[x]=> uR h x
 | .r2s one,[x]=> sM h one x
 | .s2b lit,[x]=> qH h lit x
 | .mki t,[x]=> some (.iface t x,h)
 | .tas t ok zero,[x]=> uS h t ok zero x
 | .ext i,[x]=> uT h i x
 | .min,[x,y]=> sN h false x y
 | .max,[x,y]=> sN h true x y
 | .rng,[x]=> xV h x
 | .nxt,[x]=> xW h x
 | .call f,xs=> cf f xs h
 | .lX,.fn f cap::xs=> cf f (xs++cap) h
 | .mkf f,xs=> some (.fn f xs,h)
 | .nop,[]=> some (.bI [],h)
 | .fzp g,[x]=> qI h g x
 | .ie f,xs=> sO (cf f xs h) h
 | .Fx g zero places,xs=> sP h g zero places xs
 | .apx g bytes,[x,y]=> Nm base h g bytes x y
 | .bsx g zero places,xs=> sK h g zero places xs
 | .mkm,[]=> some (.mp h.length,h++[.map [] 0])
 | .lku kc ok zero,[x,k]=> xX h kc ok zero x k
 | .mup kc g,[x,k,v]=> xY base h kc g x k v
 | .mpe kc zero,[x,k]=> xZ base h kc zero x k
 | .ens g,[x,k,v]=> ya base h g x k v
 | .mln,[x]=> yb h x
 | .s2a t g n,[x]=> uo h t g n x
 | .apz g bytes z,[x,y]=> ub base h g bytes z x y
 | .cap,[x]=> uN h x
 | _,_=> none
def want (fr:Fr) (g:G):Option Bool:=
 match g.guard with
 | none=> some true
 | some (t,b)=> match fr.getD t .top with
   | .s (.bool b')=> some (b'==b)
   | .bI []=> some false
   | _=> none
noncomputable def stepG (cf:Nat→List V→Hp→Option (V×Hp)) (base:Nat) (fr:Fr) (h:Hp) (g:G):Option (V×Hp):=
 match want fr g with
 | some true=> aB cf base h g.op (g.xs.map (X.ev fr))
 | some false=> some (.bI [],h)
 | none=> none
def gu (fr:Fr) (d:Option Nat) (v:V):Fr:=
 match d with
 | some t=> fr.set t v
 | none=> fr
noncomputable def jW (cf:Nat→List V→Hp→Option (V×Hp)) (base:Nat):List G→Fr→Hp→Option (Fr×Hp)
 | [],fr,h=> some (fr,h)
 | g::gs,fr,h=> match stepG cf base fr h g with
   | some (v,h')=> jW cf base gs (gu fr g.dst v) h'
   | none=> none
structure GD where
 g:G
 lo:Nat
 hi:Nat
 deriving Inhabited
def oA (cf:Nat→List V→Hp→Option (V×Hp)) (base:Nat) (fr:Fr) (g:G) (v:V):List Hp→Prop
 | []=> True
 | h::hs=> stepG cf base fr h g=some (v,h)∧oA cf base fr g v hs
structure Seen where
 d:GD
 fr:Fr
 v:V
def ng (cf:Nat→List V→Hp→Option (V×Hp)) (base:Nat) (hs:List Hp):List Seen→Prop
 | []=> True
 | x::xs=> oA cf base x.fr x.d.g x.v ((hs.drop x.d.lo).take (x.d.hi+1 - x.d.lo))∧ng cf base hs xs
noncomputable def mH (cf:Nat→List V→Hp→Option (V×Hp)) (base:Nat):List GD→Fr→Hp→List Hp→List Seen→Option (Fr×Hp×List Hp×List Seen)
 | [],fr,h,hs,xs=> some (fr,h,hs++[h],xs)
 | d::ds,fr,h,hs,xs=> match stepG cf base fr h d.g with
   | some (v,h')=> if d.g.op.bQ then mH cf base ds (gu fr d.g.dst v) h' (hs++[h]) xs else mH cf base ds (gu fr d.g.dst v) h hs (xs++[⟨d,fr,v⟩])
   | none=> none
def inB (n:Nat) (ds:List GD):Prop:=∀d∈ds,∀t,d.g.dst=some t→t < n
open Classical in
noncomputable def bL (cf:Nat→List V→Hp→Option (V×Hp)) (base:Nat) (ds:List GD) (fr:Fr) (h:Hp):Option (Fr×Hp):=
 match mH cf base ds fr h [] [] with
 | some (fr',h',hs,xs)=> if inB fr.length ds∧ng cf base hs xs then some (fr',h') else none
 | none=> none
inductive C where
 | skip
 | af (gs:List G)
 | bL (ds:List GD)
 | seq (a b:C)
 | cond (c:X) (a b:C)
 | block (id:Nat) (a:C)
 | loop (a:C)
 | exit (id:Nat)
 | ret
 deriving Inhabited
inductive Ex where
 | normal
 | exit (id:Nat)
 | ret
 deriving Inhabited,DecidableEq
abbrev Out :=Option (Ex×Fr×Hp)
def iter (f:Fr→Hp→Out):Nat→Fr→Hp→Out
 | 0,_,_=> none
 | n+1,fr,h=> match f fr h with
   | some (.normal,fr',h')=> iter f n fr' h'
   | r=> r
theorem yc {f:Fr→Hp→Out}:∀ {n m:Nat} {fr:Fr} {h:Hp} {r r':Ex×Fr×Hp},iter f n fr h=some r→iter f m fr h=some r'→r=r'
 | 0,_,_,_,_,_,h1,_=> by simp[iter] at h1
 | _+1,0,_,_,_,_,_,h2=> by simp[iter] at h2
 | n+1,m+1,fr,h,r,r',h1,h2=> by
   simp only[iter] at h1 h2
   split at h1
   ·rename_i fr1 h1' he
    rw[he] at h2
    exact yc h1 h2
   ·rename_i cD
    cases hf:f fr h with
    | none=> rw[hf] at h1;cases h1
    | some q=>
      rw[hf] at h1 h2
      obtain ⟨e,a,b⟩:=q
      cases e with
      | normal=> exact absurd hf (cD a b)
      | exit id=> simp only[Option.some.injEq] at h1 h2;rw[←h1,←h2]
      | ret=> simp only[Option.some.injEq] at h1 h2;rw[←h1,←h2]
open Classical in
noncomputable def Im (f:Fr→Hp→Out) (fr:Fr) (h:Hp):Out:=
 if hx:∃r n,iter f n fr h=some r then some hx.choose else none
theorem gv {f:Fr→Hp→Out} {fr:Fr} {h:Hp} {r:Ex×Fr×Hp}:Im f fr h=some r↔∃n,iter f n fr h=some r:=by
 unfold Im
 constructor
 ·intro hr
  split at hr
  ·rename_i hx
   simp only[Option.some.injEq] at hr
   rw[←hr]
   exact hx.choose_spec
  ·cases hr
 ·rintro ⟨n,hn⟩
  have hx:∃r n,iter f n fr h=some r:=⟨r,n,hn⟩
  rw[dif_pos hx]
  obtain ⟨m,hm⟩:=hx.choose_spec
  rw[yc hm hn]
noncomputable def exec (cf:Nat→List V→Hp→Option (V×Hp)) (base:Nat):C→Fr→Hp→Out
 | .skip,fr,h=> some (.normal,fr,h)
 | .af gs,fr,h=>(jW cf base gs fr h).map fun r=>(.normal,r.1,r.2)
 | .bL ds,fr,h=>(Vm.bL cf base ds fr h).map fun r=>(.normal,r.1,r.2)
 | .seq a b,fr,h=> match exec cf base a fr h with
   | some (.normal,fr',h')=> exec cf base b fr' h'
   | r=> r
 | .cond c a b,fr,h=> match c.ev fr with
   | .s (.bool true)=> exec cf base a fr h
   | .s (.bool false)=> exec cf base b fr h
   | _=> none
 | .block id a,fr,h=> match exec cf base a fr h with
   | some (.exit id',fr',h')=> if id'=id then some (.normal,fr',h') else some (.exit id',fr',h')
   | r=> r
 | .loop a,fr,h=> Im (exec cf base a) fr h
 | .exit id,fr,h=> some (.exit id,fr,h)
 | .ret,fr,h=> some (.ret,fr,h)
inductive Rs where
 | t (n:Nat)
 | cell (n:Nat) (g:Option Nat)
 deriving Inhabited
structure Fn where
 nt:Nat
 body:C
 res:List Rs
 pure:Bool
 deriving Inhabited
def Lm (fr:Fr) (h:Hp):Rs→Option V
 | .t n=> some (fr.getD n (.bI []))
 | .cell n g=>(re h g (fr.getD n (.bI []))).map (·.1)
def jV (fr:Fr) (h:Hp):List Rs→Option (List V)
 | []=> some []
 | r::rs=> match Lm fr h r,jV fr h rs with | some v,some vs=> some (v::vs) | _,_=> none
def oB :List V→V
 | [v]=> v
 | vs=> .bI vs
def V.low (n:Nat):V→Bool
 | .s _=> true
 | .ptr id _ _=> decide (id < n)
 | .ref id _ _ _ _ _=> decide (id < n)
 | .al _ _ es=> all es
 | .dQ v=> v.low n
 | .st _ fs=> all fs
 | .arr _ es=> all es
 | .bI vs=> all vs
 | .iface _ v=> v.low n
 | .fn _ vs=> all vs
 | .mp id=> decide (id < n)
 | .top=> true
where all:List V→Bool
  | []=> true
  | v::vs=> v.low n && all vs
def bA (base:Nat) (h:Hp):V→Option V
 | .ref id path g off len aw=>
   if id < base then some (.ref id path g off len aw) else
   match path with
   | []=> match rowOf h id aw with
     | some (g',es)=> if g'=g∧off+len≤aw∧V.low.all base ((es.drop off).take len)=true then some (.al false g ((es.drop off).take len)) else none
     | none=> none
   | _=> none
 | .al _ g es=>(all es).map fun es'=> .al false g es'
 | .st t fs=>(all fs).map fun fs'=> .st t fs'
 | .arr t es=>(all es).map fun es'=> .arr t es'
 | .bI vs=>(all vs).map fun vs'=> .bI vs'
 | .iface t v=>(bA base h v).map fun v'=> .iface t v'
 | v=> if v.low base then some v else none
where all:List V→Option (List V)
  | []=> some []
  | v::vs=> match bA base h v,all vs with | some v',some vs'=> some (v'::vs') | _,_=> none
def lL (F:Fn) (args:List V):Fr:=args++List.replicate (F.nt - args.length) (.bI [])
noncomputable def ke (cf:Nat→Nat→List V→Hp→Option (V×Hp)) (base:Nat) (F:Fn) (args:List V) (h:Hp):Option (V×Hp):=
 if F.pure then
  match exec (cf h.length) h.length F.body (lL F args) h with
  | some (.exit _,_,_)=> none
  | some (_,fr,h')=> match jV fr h' F.res with
    | some vs=> match bA h.length h' (oB vs) with
      | some v=> some (v,h'.take h.length)
      | none=> none
    | none=> none
  | none=> none
 else
   match exec (cf base) base F.body (lL F args) h with
   | some (.exit _,_,_)=> none
   | some (_,fr,h')=> match jV fr h' F.res with
     | some vs=> some (oB vs,h')
     | none=> none
   | none=> none
noncomputable def den (fns:Nat→Option Fn) (pr:Nat→List V→Hp→Option (V×Hp)):Nat→Nat→Nat→List V→Hp→Option (V×Hp)
 | 0,_,_,_,_=> none
 | d+1,base,f,args,h=> match fns f with
   | some F=> ke (den fns pr d) base F args h
   | none=> pr f args h
end Go.Vm
namespace Go.Vm
structure St (w w':World):Prop where
 os:w'.os=w.os
 tape:w'.tape=w.tape
 output:w'.output=w.output
 size:w.heap.size≤w'.heap.size
theorem St.refl (w:World):St w w:=⟨rfl,rfl,rfl,Nat.le_refl _⟩
theorem St.trans {a b c:World} (h:St a b) (k:St b c):St a c:=⟨k.os.trans h.os,k.tape.trans h.tape,k.output.trans h.output,Nat.le_trans h.size k.size⟩
def Ih (g:Option Nat) (n:Nat) (fz:Nat×Nat):Prop:=(∀j,j < n→¬(fz.1≤j∧j < fz.2))∧(g.isSome=true→fz=(0,0))
def kW (L:cq) (c:Ctx):List (V×V×Nat)→List MapEntry→Prop
 | [],[]=> True
 | e::es,m::ms=>(RV L c e.1 m.key∧RV L c e.2.1 m.val∧e.2.2=m.born)∧kW L c es ms
 | _,_=> False
def ph (L:cq) (c:Ctx) (w:World) (l:Loc):aV→Prop
 | .cells g es=> l.tag=g∧l.aw=es.length∧es.length≤l.cap∧(∀e∈es,e.ty=g∧e.ax=true)∧
     ∃us ty fz,w.heap[l.bq]? =some (.cells us ty fz)∧us.size=l.cap * L.az g∧Ih g us.size fz∧bV L c es (us.toList.take (es.length * L.az g))
 | .lit g es=> l.tag=g∧l.aw=es.length∧es.length=l.cap∧(∀e∈es,e.ty=g∧e.ax=true)∧
     ∃us ty fz,w.heap[l.bq]? =some (.cells us ty fz)∧us.size=l.cap * L.az g∧Ih g us.size fz∧bV L c es (us.toList.take (es.length * L.az g))
 | .map es cl=> l.tag=none∧l.aw=0∧∃ms:Array MapEntry,w.heap[l.bq]? =some (.map ms cl)∧kW L c es ms.toList
 | .fN s pos=> l.tag=none∧l.aw=0∧w.heap[l.bq]? =some (.stringIter s pos)
 | .dead=> False
def real :Obj→Obj
 | .pending cs ty=> match cs.back? with
   | some (.bool false)=> .cells cs.pop ty (0,0)
   | _=> .pending cs.pop ty
 | o=> o
abbrev yd (cs:Array Value) (ty:TypeId):Obj:= .pending (cs.push (.bool false)) ty
def kept :Obj→Obj
 | .pending cs ty=> .pending (cs.push (.bool true)) ty
 | o=> o
theorem uU (cs:Array Value) (ty:TypeId):real (yd cs ty)= .cells cs ty (0,0):=by simp[real]
theorem uV (o:Obj):real (kept o)=o:=by cases o <;> simp[kept,real]
structure bc (L:cq) (c:Ctx) (h:Hp) (w:World):Prop where
 z:∀b o,c.z b=some o→w.heap[b]? =some (real o)
 n:c.n=h.length
 loc:∀id l,c.loc id=some l→∃k,h[id]? =some k∧c.z l.bq=none∧ph L c w l k
 live:∀id k,h[id]? =some k→(∃l,c.loc id=some l)∨k= .dead
 inj:∀i j li lj,c.loc i=some li→c.loc j=some lj→li.bq=lj.bq→i=j
variable {L : cq} {c c' : Ctx} {h : Hp} {w : World}
theorem kW.eN (hle:c.DK c'):∀ {es:List (V×V×Nat)} {ms:List MapEntry},kW L c es ms→kW L c' es ms
 | [],[],_=> trivial
 | e::es,m::ms,h=>⟨⟨h.1.1.eN hle,h.1.2.1.eN hle,h.1.2.2⟩,kW.eN hle h.2⟩
 | [],_::_,h=> h.elim
 | _::_,[],h=> h.elim
theorem ph.eN (hle:c.DK c') {w':World} {l:Loc} {k:aV} (hw:w'.heap[l.bq]? =w.heap[l.bq]?) (hb:ph L c w l k):ph L c' w' l k:=by
 cases k with
 | cells g es=>
   obtain ⟨h1,h2,h3,h4,us,ty,fz,h5,h6,h7,h8⟩:=hb
   exact ⟨h1,h2,h3,h4,us,ty,fz,by rw[hw];exact h5,h6,h7,h8.eN hle⟩
 | lit g es=>
   obtain ⟨h1,h2,h3,h4,us,ty,fz,h5,h6,h7,h8⟩:=hb
   exact ⟨h1,h2,h3,h4,us,ty,fz,by rw[hw];exact h5,h6,h7,h8.eN hle⟩
 | map es cl=> obtain ⟨h1,h2,ms,h3,h4⟩:=hb;exact ⟨h1,h2,ms,by rw[hw];exact h3,h4.eN hle⟩
 | fN s pos=> exact ⟨hb.1,hb.2.1,by rw[hw];exact hb.2.2⟩
 | dead=> exact hb
theorem ph.mono (hle:c.le c') {w':World} {l:Loc} {k:aV} (hw:w'.heap[l.bq]? =w.heap[l.bq]?) (hb:ph L c w l k):ph L c' w' l k:=hb.eN hle.DK hw
theorem ph.real {l:Loc} {k:aV} (hb:ph L c w l k) {o:Obj} (ho:w.heap[l.bq]? =some o):real o=o:=by
 cases k with
 | cells g es=> obtain ⟨_,_,_,_,us,ty,fz,h5,_⟩:=hb;rw[h5] at ho;cases ho;rfl
 | lit g es=> obtain ⟨_,_,_,_,us,ty,fz,h5,_⟩:=hb;rw[h5] at ho;cases ho;rfl
 | map es cl=> obtain ⟨_,_,ms,h3,_⟩:=hb;rw[h3] at ho;cases ho;rfl
 | fN s pos=> rw[hb.2.2] at ho;cases ho;rfl
 | dead=> exact hb.elim
theorem ph.lt {l:Loc} {k:aV} (hb:ph L c w l k):l.bq < w.heap.size:=by
 cases k with
 | cells g es=> obtain ⟨_,_,_,_,us,ty,fz,h5,_⟩:=hb;exact (Array.getElem?_eq_some_iff.1 h5).1
 | lit g es=> obtain ⟨_,_,_,_,us,ty,fz,h5,_⟩:=hb;exact (Array.getElem?_eq_some_iff.1 h5).1
 | map es cl=> obtain ⟨_,_,ms,h3,_⟩:=hb;exact (Array.getElem?_eq_some_iff.1 h3).1
 | fN s pos=> exact (Array.getElem?_eq_some_iff.1 hb.2.2).1
 | dead=> exact hb.elim
theorem bc.drew (hs:bc L c h w):bc L c h w.drew:=⟨hs.z,hs.n,fun id l hl=> let ⟨k,h1,h2,h3⟩:=hs.loc id l hl;⟨k,h1,h2,h3.mono (Ctx.le_refl c) rfl⟩,hs.live,hs.inj⟩
theorem St.drew (w:World):St w w.drew:=⟨rfl,rfl,rfl,Nat.le_refl _⟩
theorem gT {w:World} {o:Obj} {b:Nat} (hb:b < w.heap.size):(w.alloc o).heap[b]? =w.heap[b]? :=RowKit.Below.heap_alloc w o b hb
theorem iS {w:World} {o:Obj}:(w.alloc o).heap[w.heap.size]? =some o:=heap_alloc_new w o
theorem St.alloc (w:World) (o:Obj):St w (w.alloc o):=⟨rfl,rfl,rfl,by simp⟩
theorem ek {w:World} {b:Nat} {o:Obj} (hb:w.heap[b]? =some o):b < w.heap.size:=(Array.getElem?_eq_some_iff.1 hb).1
theorem bc.Ca (hs:bc L c h w) (o:Obj):bc L c h (w.alloc o) where
 z b x hb:=by rw[gT (ek (hs.z b x hb))];exact hs.z b x hb
 n:=hs.n
 loc id l hl:=by
   obtain ⟨k,h1,h2,h3⟩:=hs.loc id l hl
   exact ⟨k,h1,h2,h3.mono (Ctx.le_refl c) (gT h3.lt)⟩
 live:=hs.live
 inj:=hs.inj
def Ctx.push (c:Ctx) (l:Loc):Ctx:= {c with loc:=fun i=> if i=c.n then some l else c.loc i,n:=c.n+1}
theorem Ctx.gJ (c:Ctx) (l:Loc):c.le (c.push l) where
 z _ _ hb:=hb
 n:=by simp[Ctx.push]
 loc id l' hid hl:=by
   simp only[Ctx.push,if_neg (Nat.ne_of_lt hid)] at hl
   exact ⟨l',hl,rfl,Nat.le_refl _,fun _=>⟨rfl,rfl⟩⟩
theorem bc.Nn (hs:bc L c h w) {id:Nat} {l:Loc} (hl:c.loc id=some l):id < c.n:=by
 obtain ⟨k,h1,_⟩:=hs.loc id l hl
 rw[hs.n];exact (List.getElem?_eq_some_iff.1 h1).1
theorem bc.push (hs:bc L c h w) (o:Obj) (k:aV) (l:Loc) (hl:l.bq=w.heap.size) (hk:ph L (c.push l) (w.alloc o) l k):
 bc L (c.push l) (h++[k]) (w.alloc o) where
 z b x hb:=by rw[gT (ek (hs.z b x hb))];exact hs.z b x hb
 n:=by simp[Ctx.push,hs.n]
 loc id l' dv:=by
   simp only[Ctx.push] at dv
   by_cases hid:id=c.n
   ·simp only[hid,if_true,Option.some.injEq] at dv
    subst dv
    refine ⟨k,by rw[hid,hs.n];simp,?_,hk⟩
    cases hz:c.z l.bq with
    | none=> exact hz
    | some x=> have:=ek (hs.z _ _ hz);omega
   ·simp only[hid,if_false] at dv
    obtain ⟨k',h1,h2,h3⟩:=hs.loc id l' dv
    exact ⟨k',by rw[List.getElem?_append_left (List.getElem?_eq_some_iff.1 h1).1];exact h1,h2,h3.mono (c.gJ l) (gT h3.lt)⟩
 live id k' lC:=by
   by_cases hid:id=c.n
   ·exact .inl ⟨l,by simp[Ctx.push,hid]⟩
   ·have bW:id < h.length:=by
      have:=(List.getElem?_eq_some_iff.1 lC).1
      simp at this
      have:=hs.n
      omega
    rw[List.getElem?_append_left bW] at lC
    rcases hs.live id k' lC with ⟨l',dv⟩ | rfl
    ·exact .inl ⟨l',by simp[Ctx.push,hid,dv]⟩
    ·exact .inr rfl
 inj i j li lj hi hj he:=by
   simp only[Ctx.push] at hi hj
   by_cases h1:i=c.n <;> by_cases h2:j=c.n
   ·omega
   ·simp only[h1,if_true,h2,if_false,Option.some.injEq] at hi hj
    obtain ⟨k',_,_,h3⟩:=hs.loc j lj hj
    have:=h3.lt;subst hi;omega
   ·simp only[h1,if_false,h2,if_true,Option.some.injEq] at hi hj
    obtain ⟨k',_,_,h3⟩:=hs.loc i li hi
    have:=h3.lt;subst hj;omega
   ·simp only[h1,if_false,h2] at hi hj
    exact hs.inj i j li lj hi hj he
def Ctx.dD (c:Ctx) (b:Nat) (o:Obj):Ctx:= {c with z:=fun i=> if i=b then some o else c.z i}
theorem Ctx.kf (c:Ctx) (b:Nat) (o:Obj) (hb:c.z b=none):c.le (c.dD b o) where
 z i x hi:=by
   simp only[Ctx.dD]
   by_cases e:i=b
   ·rw[e,hb] at hi;cases hi
   ·rw[if_neg e];exact hi
 n:=Nat.le_refl _
 loc id l' hid hl:=⟨l',hl,rfl,Nat.le_refl _,fun _=>⟨rfl,rfl⟩⟩
theorem Ctx.qc (c:Ctx) (b:Nat) (o:Obj) (hb:∀cs ty fz,c.z b≠some (.cells cs ty fz)):c.DK (c.dD b o) where
 z i cs ty fz hi:=by
   simp only[Ctx.dD]
   by_cases e:i=b
   ·rw[e] at hi;exact absurd hi (hb _ _ _)
   ·rw[if_neg e];exact hi
 n:=Nat.le_refl _
 loc id l' hid hl:=⟨l',hl,rfl,Nat.le_refl _,fun _=>⟨rfl,rfl⟩⟩
theorem bc.qF (hs:bc L c h w):c.z w.heap.size=none:=by
 cases hz:c.z w.heap.size with
 | none=> rfl
 | some x=> have:=ek (hs.z _ _ hz);omega
theorem bc.Io (hs:bc L c h w) (o o':Obj) (hr:real o=o'):bc L (c.dD w.heap.size o) h (w.alloc o') where
 z b x hb:=by
   simp only[Ctx.dD] at hb
   by_cases e:b=w.heap.size
   ·simp only[e,if_true,Option.some.injEq] at hb;subst hb;rw[e,iS,hr]
   ·rw[if_neg e] at hb;rw[gT (ek (hs.z b x hb))];exact hs.z b x hb
 n:=hs.n
 loc id l hl:=by
   obtain ⟨k,h1,h2,h3⟩:=hs.loc id l hl
   refine ⟨k,h1,?_,h3.mono (c.kf _ _ hs.qF) (gT h3.lt)⟩
   have:=h3.lt
   simp only[Ctx.dD]
   rw[if_neg (by omega)];exact h2
 live:=hs.live
 inj:=hs.inj
theorem bc.dD (hs:bc L c h w) (o:Obj) (hr:real o=o:=by rfl):bc L (c.dD w.heap.size o) h (w.alloc o):=hs.Io o o hr
theorem bc.fill (hs:bc L c h w) {b:Nat} {cs cs':Array Value} {ty ty':TypeId} (hb:c.z b=some (.pending cs ty)) {w':World} (hold:∀x,x≠b→w'.heap[x]? =w.heap[x]?) (kR:w'.heap[b]? =some (.cells cs' ty' (0,0))):
 bc L (c.dD b (.cells cs' ty' (0,0))) h w' where
 z x o ho:=by
   simp only[Ctx.dD] at ho
   by_cases e:x=b
   ·simp only[e,if_true,Option.some.injEq] at ho;subst ho;rw[e,kR];rfl
   ·rw[if_neg e] at ho;rw[hold x e];exact hs.z x o ho
 n:=hs.n
 loc id l hl:=by
   obtain ⟨k,h1,h2,h3⟩:=hs.loc id l hl
   have cD:l.bq≠b:=fun e=> by rw[e,hb] at h2;cases h2
   refine ⟨k,h1,?_,h3.eN (c.qc b _ (by rw[hb];intro _ _ _ h;cases h)) (hold _ cD)⟩
   simp only[Ctx.dD];rw[if_neg cD];exact h2
 live:=hs.live
 inj:=hs.inj
def Ctx.die (c:Ctx) (id:Nat) (b:Nat) (o:Obj):Ctx:= {c with z:=fun i=> if i=b then some o else c.z i,loc:=fun i=> if i=id then none else c.loc i}
theorem Ctx.oC (c:Ctx) (id b:Nat) (o:Obj) (hb:c.z b=none):c.le (c.die id b o) where
 z i x hi:=by
   simp only[Ctx.die]
   by_cases e:i=b
   ·rw[e,hb] at hi;cases hi
   ·rw[if_neg e];exact hi
 n:=Nat.le_refl _
 loc i l' hid hl:=by
   simp only[Ctx.die] at hl
   by_cases e:i=id
   ·simp[e] at hl
   ·rw[if_neg e] at hl;exact ⟨l',hl,rfl,Nat.le_refl _,fun _=>⟨rfl,rfl⟩⟩
theorem bc.die (hs:bc L c h w) {id:Nat} {l:Loc} (hl:c.loc id=some l) {w':World} (hold:∀b,b≠l.bq→w'.heap[b]? =w.heap[b]?) {o:Obj} (ho:w'.heap[l.bq]? =some o) (hr:real o=o:=by rfl):bc L (c.die id l.bq o) (h.set id .dead) w' where
 z b x hb:=by
   simp only[Ctx.die] at hb
   by_cases e:b=l.bq
   ·simp only[e,if_true,Option.some.injEq] at hb;subst hb;rw[e,ho,hr]
   ·rw[if_neg e] at hb;rw[hold b e];exact hs.z b x hb
 n:=by simp[Ctx.die,hs.n]
 loc i l' dv:=by
   simp only[Ctx.die] at dv
   by_cases e:i=id
   ·simp[e] at dv
   ·rw[if_neg e] at dv
    obtain ⟨k,h1,h2,h3⟩:=hs.loc i l' dv
    obtain ⟨_,_,hz,_⟩:=hs.loc id l hl
    have cD:l'.bq≠l.bq:=fun he=> e (hs.inj i id l' l dv hl he)
    refine ⟨k,by rw[List.getElem?_set_ne (Ne.symm e)];exact h1,?_,h3.mono (c.oC _ _ _ hz) (hold _ cD)⟩
    simp only[Ctx.die]
    rw[if_neg cD];exact h2
 live i k hk:=by
   by_cases e:i=id
   ·subst e
    right
    rw[List.getElem?_set] at hk
    simp only[if_true] at hk
    split at hk <;> simp_all
   ·rw[List.getElem?_set_ne (Ne.symm e)] at hk
    rcases hs.live i k hk with ⟨l',h1⟩ | rfl
    ·exact .inl ⟨l',by simp[Ctx.die,e,h1]⟩
    ·exact .inr rfl
 inj i j li lj hi hj he:=by
   simp only[Ctx.die] at hi hj
   by_cases e1:i=id
   ·simp[e1] at hi
   ·by_cases e2:j=id
    ·simp[e2] at hj
    ·rw[if_neg e1] at hi;rw[if_neg e2] at hj;exact hs.inj i j li lj hi hj he
def Ctx.move (c:Ctx) (id:Nat) (l':Loc):Ctx:= {c with loc:=fun i=> if i=id then some l' else c.loc i}
theorem Ctx.vQ (c:Ctx) (id:Nat) (l l':Loc) (hl:c.loc id=some l) (bZ:l.tag=l'.tag) (cC:l.aw≤l'.aw) (Cb:l.aw=l'.aw→l'.bq=l.bq∧l'.cap=l.cap):c.le (c.move id l') where
 z _ _ hb:=hb
 n:=Nat.le_refl _
 loc i l'' hid hl'':=by
   simp only[Ctx.move] at hl''
   by_cases e:i=id
   ·simp only[e,if_true,Option.some.injEq] at hl''
    subst hl'';subst e
    exact ⟨l,hl,bZ,cC,Cb⟩
   ·rw[if_neg e] at hl'';exact ⟨l'',hl'',rfl,Nat.le_refl _,fun _=>⟨rfl,rfl⟩⟩
theorem bc.move (hs:bc L c h w) {id:Nat} {l l':Loc} (hl:c.loc id=some l) {w':World} (k:aV)
 (hle:c.le (c.move id l')) (hz:c.z l'.bq=none) (vU:l'.bq=l.bq∨w.heap.size≤l'.bq)
 (hold:∀b,b < w.heap.size→b≠l.bq→w'.heap[b]? =w.heap[b]?) (VU:∀o,c.z l.bq=some o→w'.heap[l.bq]? =some (real o))
 (hk:ph L (c.move id l') w' l' k):bc L (c.move id l') (h.set id k) w' where
 z b x hb:=by
   have h1:w.heap[b]? =some (real x):=hs.z b x hb
   by_cases e:b=l.bq
   ·subst e;exact VU x hb
   ·rw[hold b (ek h1) e];exact h1
 n:=by simp[Ctx.move,hs.n]
 loc i li hli:=by
   simp only[Ctx.move] at hli
   by_cases e:i=id
   ·simp only[e,if_true,Option.some.injEq] at hli
    subst hli;subst e
    obtain ⟨k0,h1,_⟩:=hs.loc i l hl
    exact ⟨k,by rw[List.getElem?_set];simp[(List.getElem?_eq_some_iff.1 h1).1],hz,hk⟩
   ·rw[if_neg e] at hli
    obtain ⟨k',h1,h2,h3⟩:=hs.loc i li hli
    refine ⟨k',by rw[List.getElem?_set_ne (Ne.symm e)];exact h1,h2,h3.mono hle (hold _ h3.lt ?_)⟩
    exact fun he=> e (hs.inj i id li l hli hl he)
 live i k' lC:=by
   by_cases e:i=id
   ·exact .inl ⟨l',by simp[Ctx.move,e]⟩
   ·rw[List.getElem?_set_ne (Ne.symm e)] at lC
    rcases hs.live i k' lC with ⟨l'',h1⟩ | rfl
    ·exact .inl ⟨l'',by simp[Ctx.move,e,h1]⟩
    ·exact .inr rfl
 inj i j li lj hi hj he:=by
   simp only[Ctx.move] at hi hj
   by_cases e1:i=id <;> by_cases e2:j=id
   ·omega
   ·simp only[e1,if_true,e2,if_false,Option.some.injEq] at hi hj
    subst hi
    obtain ⟨k',_,_,h3⟩:=hs.loc j lj hj
    rcases vU with hb | hb
    ·exact absurd (hs.inj j id lj l hj hl (by omega)) e2
    ·have:=h3.lt;omega
   ·simp only[e1,if_false,e2,if_true,Option.some.injEq] at hi hj
    subst hj
    obtain ⟨k',_,_,h3⟩:=hs.loc i li hi
    rcases vU with hb | hb
    ·exact absurd (hs.inj i id li l hi hl (by omega)) e1
    ·have:=h3.lt;omega
   ·simp only[e1,if_false,e2] at hi hj
    exact hs.inj i j li lj hi hj he
theorem uW (hL:L.OK):∀(p:List Nat) (v x:V) (us:List Value),RC L c v us→nodeAt p v=some x→
 ∃o,L.walk v.ty p=some (o,x.ty)∧RC L c x ((us.drop o).take (L.az x.ty))∧o+L.az x.ty≤us.length:=by
 intro p
 induction p with
 | nil=>
   intro v x us hr hn
   simp only[nodeAt,Option.some.injEq] at hn
   subst hn
   have:=q22z hL v us hr
   exact ⟨0,by simp[cq.walk],by simpa[←this] using hr,by omega⟩
 | cons i p ih=>
   intro v x us hr hn
   cases v with
   | st t fs=>
     simp only[RC] at hr
     obtain ⟨hr,hf,eO⟩:=hr
     simp only[nodeAt] at hn
     split at hn
     ·rename_i y hy
      have h1:=nc hL hr hy
      have hle:=iU hL hr hy
      obtain ⟨o,h2,h3,h4⟩:=ih y x _ h1 hn
      have hlen:=q22z hL y _ h1
      refine ⟨((fs.take i).map fun v=> L.az v.ty).sum+o,?_,?_,?_⟩
      ·show L.walk (some t) (i::p)=_
       simp only[cq.walk,hf,List.getElem?_map,hy,Option.map_some,h2,←List.map_take,List.map_map]
       rfl
      ·rw[List.drop_take,List.take_take,List.drop_drop] at h3
       rw[List.length_take] at h4
       rwa [Nat.min_eq_left (by omega)] at h3
      ·simp only[List.length_take,List.length_drop] at h4 hlen
       omega
     ·cases hn
   | arr t es=>
     simp only[RC] at hr
     obtain ⟨hr,e,ha,he⟩:=hr
     simp only[nodeAt] at hn
     split at hn
     ·rename_i y hy
      have h1:=cQ hL hr (fun z hz=>(he z hz).1) hy
      have hle:=da hL hr (fun z hz=>(he z hz).1) hy
      obtain ⟨o,h2,h3,h4⟩:=ih y x _ h1 hn
      have hlen:=q22z hL y _ h1
      have FH:y.ty=e:=(he y (List.mem_of_getElem? hy)).1
      have hi:=(List.getElem?_eq_some_iff.1 hy).1
      refine ⟨i * L.az e+o,?_,?_,?_⟩
      ·show L.walk (some t) (i::p)=_
       simp only[cq.walk,hL.no _ _ ha,ha,if_pos hi,←FH,h2,Option.map_some]
      ·rw[List.drop_take,List.take_take,List.drop_drop] at h3
       rw[List.length_take] at h4
       rwa [Nat.min_eq_left (by omega)] at h3
      ·simp only[List.length_take,List.length_drop] at h4 hlen
       omega
     ·cases hn
   | _=> simp[nodeAt] at hn
def lay (us:List Value) (o:Nat) (ys:List Value):List Value:=us.take o++(ys++us.drop (o+ys.length))
theorem dW (us ys:List Value) (o:Nat) (hl:o+ys.length≤us.length):(lay us o ys).length=us.length:=by simp[lay];omega
theorem lM (a b ys:List Value) (o:Nat) (hl:o+ys.length≤a.length):lay (a++b) o ys=lay a o ys++b:=by
 simp only[lay]
 rw[List.take_append_of_le_length (by omega),List.drop_append_of_le_length (by omega)]
 simp
theorem kg (a b ys:List Value) (o:Nat):lay (a++b) (a.length+o) ys=a++lay b o ys:=by
 simp only[lay]
 rw[List.take_append,List.drop_append]
 simp[Nat.add_assoc,List.drop_of_length_le,List.take_of_length_le]
theorem mD (us ys:List Value) (o n:Nat) (h1:o+ys.length≤n) (h2:n≤us.length):(lay us o ys).take n=lay (us.take n) o ys:=by
 obtain ⟨a,b,rfl,ha⟩:∃a b,us=a++b∧a.length=n:=⟨us.take n,us.drop n,(List.take_append_drop _ _).symm,by simp;omega⟩
 rw[lM _ _ _ _ (by omega),List.take_append_of_le_length (by rw[dW _ _ _ (by omega)];omega),
  List.take_of_length_le (by rw[dW _ _ _ (by omega)];omega),List.take_append_of_le_length (by omega),List.take_of_length_le (by omega)]
theorem rB (us ys:List Value) (k n o:Nat) (hk:k+n≤us.length) (hl:o+ys.length≤n):
 lay us (k+o) ys=lay us k (lay ((us.drop k).take n) o ys):=by
 have e1:us=us.take k++((us.drop k).take n++us.drop (k+n)):=by
   conv=> lhs;rw[←List.take_append_drop k us,←List.take_append_drop n (us.drop k)]
   rw[List.drop_drop]
 have lk:(us.take k).length=k:=by simp;omega
 have ln:((us.drop k).take n).length=n:=by simp;omega
 have hlen:(lay ((us.drop k).take n) o ys).length=n:=by rw[dW _ _ _ (by omega),ln]
 have e2:lay us k (lay ((us.drop k).take n) o ys)=us.take k++(lay ((us.drop k).take n) o ys++us.drop (k+n)):=by
   simp only[lay] at hlen ⊢
   rw[hlen]
 rw[e2]
 conv=> lhs;rw[e1]
 have:=kg (us.take k) ((us.drop k).take n++us.drop (k+n)) ys o
 rw[lk] at this
 rw[this,lM _ _ _ _ (by omega)]
theorem rC (hL:L.OK) {y:V} {ys:List Value} (hy:RC L c y ys):∀(vs:List V) (us:List Value) (i:Nat) (v:V),bV L c vs us→vs[i]? =some v→y.ty=v.ty→
 bV L c (vs.set i y) (lay us (((vs.take i).map fun v=> L.az v.ty).sum) ys):=by
 intro vs
 induction vs with
 | nil=> intro us i v _ hi;simp at hi
 | cons x xs ih=>
   intro us i v hr hi du
   simp only[bV] at hr
   obtain ⟨u1,u2,rfl,h1,h2⟩:=hr
   have hlen:=q22z hL x u1 h1
   have VV:=q22z hL y ys hy
   cases i with
   | zero=>
     simp at hi;subst hi
     rw[du] at VV
     simp only[List.set_cons_zero,bV,List.take_zero,List.map_nil,List.sum_nil]
     refine ⟨ys,u2,?_,hy,h2⟩
     simp only[lay,List.take_zero,List.nil_append,Nat.zero_add]
     rw[show ys.length=u1.length by omega,List.drop_left]
   | succ i=>
     simp at hi
     simp only[List.set_cons_succ,bV,List.take_succ_cons,List.map_cons,List.sum_cons]
     refine ⟨u1,_,?_,h1,ih u2 i v h2 hi du⟩
     rw[←hlen,kg]
theorem Ip (hL:L.OK) {y:V} {ys:List Value} (hy:RC L c y ys) (hys:y.ax=true):∀(p:List Nat) (v v' dw:V) (us:List Value),RC L c v us→nodeAt p v=some dw→putAt y p v=some v'→y.ty=dw.ty→
 ∃o,L.walk v.ty p=some (o,dw.ty)∧RC L c v' (lay us o ys)∧v'.ty=v.ty∧o+ys.length≤us.length∧v'.ax=true:=by
 intro p
 induction p with
 | nil=>
   intro v v' dw us hr hn hp du
   simp only[nodeAt,Option.some.injEq] at hn
   simp only[putAt,Option.some.injEq] at hp
   subst hn;subst hp
   have h1:=q22z hL v us hr
   have h2:=q22z hL y ys hy
   rw[du] at h2
   refine ⟨0,by simp[cq.walk],?_,du,by omega,hys⟩
   simp only[lay,List.take_zero,List.nil_append,Nat.zero_add]
   rw[List.drop_of_length_le (by omega),List.append_nil];exact hy
 | cons i p ih=>
   intro v v' dw us hr hn hp du
   cases v with
   | st t fs=>
     simp only[RC] at hr
     obtain ⟨hr,hf,eO⟩:=hr
     simp only[nodeAt] at hn
     simp only[putAt] at hp
     split at hn
     ·rename_i x hx
      rw[hx] at hp
      obtain ⟨x',hx',rfl⟩:=Option.map_eq_some_iff.1 hp
      have h1:=nc hL hr hx
      have hle:=iU hL hr hx
      obtain ⟨o,h2,h3,h4,h5,h6⟩:=ih x x' dw _ h1 hn hx' du
      have hlen:=q22z hL x _ h1
      refine ⟨((fs.take i).map fun v=> L.az v.ty).sum+o,?_,?_,rfl,by omega,rfl⟩
      ·show L.walk (some t) (i::p)=_
       simp only[cq.walk,hf,List.getElem?_map,hx,Option.map_some,h2,←List.map_take,List.map_map]
       rfl
      ·rw[rB us ys _ (L.az x.ty) o (by omega) (by omega)]
       simp only[RC]
       refine ⟨rC hL h3 fs us i x hr hx h4,?_,fun z hz=> ?_⟩
       ·rw[List.map_set,h4,hf]
        congr 1
        refine List.ext_getElem? fun j=> ?_
        by_cases e:j=i
        ·subst e
         rw[List.getElem?_set,List.getElem?_map,hx]
         simp[(List.getElem?_eq_some_iff.1 hx).1]
        ·rw[List.getElem?_set_ne (Ne.symm e)]
       ·rcases List.mem_or_eq_of_mem_set hz with hz | rfl
        ·exact eO z hz
        ·exact h6
     ·cases hn
   | arr t es=>
     simp only[RC] at hr
     obtain ⟨hr,e,ha,he⟩:=hr
     simp only[nodeAt] at hn
     simp only[putAt] at hp
     split at hn
     ·rename_i x hx
      rw[hx] at hp
      obtain ⟨x',hx',rfl⟩:=Option.map_eq_some_iff.1 hp
      have Au:x.ty=e:=(he x (List.mem_of_getElem? hx)).1
      have h1:=nc hL hr hx
      have hle:=iU hL hr hx
      have hi:=(List.getElem?_eq_some_iff.1 hx).1
      have vV:((es.take i).map fun v=> L.az v.ty).sum=i * L.az e:=dL es _ _ i (fun z hz=> by rw[(he z hz).1]) (by omega)
      obtain ⟨o,h2,h3,h4,h5,h6⟩:=ih x x' dw _ h1 hn hx' du
      have hlen:=q22z hL x _ h1
      refine ⟨i * L.az e+o,?_,?_,rfl,by omega,rfl⟩
      ·show L.walk (some t) (i::p)=_
       simp only[cq.walk,hL.no _ _ ha,ha,if_pos hi,←Au,h2,Option.map_some]
      ·rw[←vV,rB us ys _ (L.az x.ty) o (by omega) (by omega)]
       simp only[RC]
       refine ⟨rC hL h3 es us i x hr hx h4,e,by simpa using ha,fun z hz=> ?_⟩
       rcases List.mem_or_eq_of_mem_set hz with hz | rfl
       ·exact he z hz
       ·exact ⟨by rw[h4,Au],h6⟩
     ·cases hn
   | _=> simp[nodeAt] at hn
def mI (us:List Value):Prop:=∀u∈us,u.oneCell'=true
theorem qd (w:World) (b i:Nat) (us:Array Value) (ty:TypeId) (fz:Nat×Nat) (v:Value) (hg:w.heap[b]? =some (.cells us ty fz)):
 (w.setCell ⟨b,i,none⟩ v).heap[b]? =some (.cells (us.setIfInBounds i v) ty fz):=by
 simp[World.setCell,Array.getElem?_modify,hg]
theorem dy (b:Nat) (ty:TypeId) (fz:Nat×Nat):∀(vs:List Value) (o:Nat) (us:Array Value) (w:World),w.heap[b]? =some (.cells us ty fz)→o+vs.length≤us.size→
 (w.setCells b o vs).heap[b]? =some (.cells (lay us.toList o vs).toArray ty fz)
 | [],o,us,w,hg,_=> by simp[World.setCells,lay,hg]
 | v::r,o,us,w,hg,hl=> by
   simp only[World.setCells]
   simp at hl
   rw[dy b ty fz r (o+1) _ _ (qd w b o us ty fz v hg) (by simp;omega)]
   congr 2
   simp only[lay,Array.toList_setIfInBounds]
   rw[List.take_set,List.drop_set]
   have h1:(us.toList.take (o+1)).set o v=us.toList.take o++[v]:=by
     rw[List.take_succ_eq_append_getElem (by simp;omega)]
     rw[List.set_append_right _ _ (by simp;exact Nat.min_le_left _ _)]
     simp[Nat.min_eq_left (show o≤us.size by omega),List.set_cons_zero]
   rw[h1,if_pos (by omega)]
   simp[Nat.add_assoc,Nat.add_comm 1]
theorem q13z (b:Nat):∀(vs:List Value) (o:Nat) (w:World) (k:Nat),k≠b→(w.setCells b o vs).heap[k]? =w.heap[k]?
 | [],_,_,_,_=> rfl
 | v::r,o,w,k,hk=> by
   simp only[World.setCells]
   rw[q13z b r _ _ k hk]
   exact RowKit.Below.heap_setCell w ⟨b,o,none⟩ v k hk
theorem St.setCells (b:Nat):∀(vs:List Value) (o:Nat) (w:World),St w (w.setCells b o vs)
 | [],_,w=> St.refl w
 | v::r,o,w=> by
   simp only[World.setCells]
   exact St.trans (show St w (w.setCell ⟨b,o,none⟩ v) from ⟨rfl,rfl,rfl,by simp⟩) (St.setCells b r (o+1) _)
theorem q15z {w:World} {b j:Nat} {us:Array Value} {ty:TypeId} {fz:Nat×Nat} (hg:w.heap[b]? =some (.cells us ty fz)):w.cell? ⟨b,j,none⟩=us[j]? :=by
 simp[World.cell?,hg]
theorem eo {w:World} {b j:Nat} {us:Array Value} {ty:TypeId} {fz:Nat×Nat} (hg:w.heap[b]? =some (.cells us ty fz)) (hf:∀j,j < us.size→¬(fz.1≤j∧j < fz.2)) (hj:j < us.size):w.frozen? ⟨b,j,none⟩=false:=by
 have:=hf j hj
 simp only[World.frozen?,hg]
 simp only[not_and] at this
 simp only[Bool.and_eq_false_iff,decide_eq_false_iff_not]
 by_cases h1:fz.1≤j
 ·exact .inr (this h1)
 ·exact .inl h1
theorem q16z {h:Hp} {id aw:Nat} {g:Option Nat} {es:List V} (hr:rowOf h id aw=some (g,es)):h[id]? =some (.cells g es)∧es.length=aw:=by
 unfold rowOf at hr
 split at hr
 ·rename_i g' es' he
  split at hr
  ·rename_i hlen
   simp only[Option.some.injEq,Prod.mk.injEq] at hr
   obtain ⟨rfl,rfl⟩:=hr
   exact ⟨he,hlen⟩
  ·cases hr
 ·cases hr
theorem bc.row (hs:bc L c h w) {id aw:Nat} {g:Option Nat} {es:List V} (hr:rowOf h id aw=some (g,es)):
 ∃l,c.loc id=some l∧l.aw=aw∧l.tag=g∧c.z l.bq=none∧ph L c w l (.cells g es):=by
 obtain ⟨h1,h2⟩:=q16z hr
 rcases hs.live id _ h1 with ⟨l,hl⟩ | hd
 ·obtain ⟨k,h3,h4,h5⟩:=hs.loc id l hl
  rw[h1] at h3;cases h3
  exact ⟨l,hl,by rw[h5.2.1,h2],h5.1,h4,h5⟩
 ·cases hd
theorem bc.node (hL:L.OK) (hs:bc L c h w) {id aw:Nat} {path:List Nat} {v:V} (hn:node h id path aw=some v):
 ∃l o us ty fz,c.loc id=some l∧l.aw=aw∧L.off l.tag path=some o∧w.heap[l.bq]? =some (.cells us ty fz)∧(∀j,j < us.size→¬(fz.1≤j∧j < fz.2))∧
  o+L.az v.ty≤us.size∧RC L c v ((us.toList.drop o).take (L.az v.ty)):=by
 unfold Vm.node at hn
 split at hn
 ·rename_i g es i p hr
  obtain ⟨l,hl,cC,bZ,hz,_,_,fM,cM,us,ty,fz,hg,cI,df,fp⟩:=hs.row hr
  split at hn
  ·rename_i e he
   have xM:=fun x hx=>(cM x hx).1
   have h1:=cQ hL fp xM he
   have h1le:=da hL fp xM he
   have y0:e.ty=g:=xM e (List.mem_of_getElem? he)
   obtain ⟨o,h2,h3,h4⟩:=uW hL p e v _ h1 hn
   have hlen:=q22z hL e _ h1
   rw[y0] at hlen
   have eA:(us.toList.take (es.length * L.az g)).length≤us.size:=by simp;omega
   refine ⟨l,i * L.az g+o,us,ty,fz,hl,cC,?_,hg,df.1,by omega,?_⟩
   ·simp only[cq.off,bZ,←y0,h2,Option.map_some]
   ·have hil:=(List.getElem?_eq_some_iff.1 he).1
    have hb:(i+1)* L.az g≤es.length * L.az g:=Nat.mul_le_mul_right _ (by omega)
    rw[Nat.add_mul,Nat.one_mul] at hb
    rw[List.drop_take,List.take_take,List.drop_drop,List.drop_take,List.take_take] at h3
    rw[hlen] at h4
    rw[Nat.min_eq_left (by omega),Nat.min_eq_left (by omega)] at h3
    exact h3
  ·cases hn
 ·cases hn
theorem dr {vs:List V} (ih:∀v∈vs,v.ax=true→∀us,RC L c v us→mI us) (hs:∀v∈vs,v.ax=true):∀us,bV L c vs us→mI us:=by
 induction vs with
 | nil=> intro us h;simp only[bV] at h;subst h;intro u hu;simp at hu
 | cons v vs iv=>
   intro us h
   simp only[bV] at h
   obtain ⟨u1,u2,rfl,h1,h2⟩:=h
   intro u hu
   rcases List.mem_append.1 hu with hu | hu
   ·exact ih v (by simp) (hs v (by simp)) u1 h1 u hu
   ·exact iv (fun x hx=> ih x (by simp[hx])) (fun x hx=> hs x (by simp[hx])) u2 h2 u hu
theorem dt {u:Value} (hu:u.oneCell'=true):mI [u]:=by intro x hx;simp at hx;subst hx;exact hu
theorem dS :∀(v:V),v.ax=true→∀us,RC L c v us→mI us:=by
 intro v
 induction v using V.rec (motive_2:=fun vs=>∀v∈vs,v.ax=true→∀us,RC L c v us→mI us) with
 | s x=> intro _ us h;simp only[RC] at h;rw[h.1];exact dt h.2
 | ptr=> intro _ us h;simp only[RC] at h;obtain ⟨a,h,_⟩:=h;rw[h];exact dt rfl
 | ref=> intro _ us h;simp only[RC] at h;obtain ⟨a,k,h,_⟩:=h;rw[h];exact dt rfl
 | al=> intro _ us h;simp only[RC] at h;obtain ⟨a,k,h,_⟩:=h;rw[h];exact dt rfl
 | dQ=> intro _ us h;simp only[RC] at h;obtain ⟨_,_,_,_,_,h,_⟩:=h;rw[h];exact dt rfl
 | st t fs ih=> intro _ us h;simp only[RC] at h;exact dr ih h.2.2 us h.1
 | arr t es ih=> intro _ us h;simp only[RC] at h;obtain ⟨h,e,_,he⟩:=h;exact dr ih (fun x hx=>(he x hx).2) us h
 | bI=> intro h;cases h
 | iface=> intro _ us h;simp only[RC] at h;obtain ⟨u,us',h,_⟩:=h;rw[h];exact dt rfl
 | fn=> intro _ us h;simp only[RC] at h;obtain ⟨ws,h,_⟩:=h;rw[h];exact dt rfl
 | mp=> intro _ us h;simp only[RC] at h;obtain ⟨b,h,_⟩:=h;rw[h];exact dt rfl
 | top=> intro h;cases h
 | nil=> rename_i hv _ _ _;exact absurd hv (by simp)
 | cons v vs h1 h2=>
   rename_i x hx hs us h
   rcases List.mem_cons.1 hx with rfl | hx
   ·exact h1 hs us h
   ·exact h2 x hx hs us h
end Go.Vm
namespace Go.Vm
def Yq :TypeDesc→Bool
 | .struct _=> true
 | .array _ _=> true
 | _=> false
structure TG (P:Program) (L:cq) (ty:TypeId) (g:Option Nat):Prop where
 info:∃i,P.info? ty=some i∧i.size=L.az g
 under:∃d,P.underlying ty=some d∧Yq d=g.isSome
variable {P : Program} {L : cq} {c : Ctx} {h : Hp} {w : World} {ty : TypeId} {g : Option Nat}
theorem TG.isAgg (ht:TG P L ty g) (w:World):(isAgg ty).run P w= .ok g.isSome w:=by
 obtain ⟨d,h1,h2⟩:=ht.under
 simp only[Go.isAgg,underlying,Sem.run_bind,run_program,Result.andThen_ok,h1,Sem.run_pure]
 rw[←h2]
 cases d <;> rfl
theorem TG.sizeOf (ht:TG P L ty g) (w:World):(Go.sizeOf ty).run P w= .ok (L.az g) w:=by
 obtain ⟨i,h1,h2⟩:=ht.info
 simp[Go.sizeOf,typeInfo,h1,h2]
theorem eD (b o n:Nat):(⟨b,o,none⟩:Addr).add n=⟨b,o+n,none⟩:=by unfold Addr.add;split <;> simp_all
theorem kX {v:V} {us:List Value} {u:Value} (hv:v.ty=none):wr v us u↔us=[u]:=by
 cases v <;> first | (simp[V.ty] at hv;done) | exact Iff.rfl
theorem kY {v:V} {t:Nat} {us:List Value} {u:Value} (hv:v.ty=some t):wr v us u↔u= .agg us.toArray:=by
 cases v <;> first | (simp[V.ty] at hv;done) | exact Iff.rfl
theorem fQ (hL:L.OK) {v:V} (ht:TG P L ty v.ty) {b o:Nat} {us:Array Value} {e:TypeId} {fz:Nat×Nat} (hg:w.heap[b]? =some (.cells us e fz))
 (hr:RC L c v ((us.toList.drop o).take (L.az v.ty))):∃u,(loadVar ty ⟨b,o,none⟩).run P w= .ok u w∧RV L c v u:=by
 have hlen:=q22z hL v _ hr
 cases hv:v.ty with
 | none=>
   rw[hv] at hlen hr ht
   simp only[cq.az] at hlen hr
   obtain ⟨u,hu⟩:=List.length_eq_one_iff.1 hlen
   have h0:us[o]? =some u:=by
     have:((us.toList.drop o).take 1)[0]? =some u:=by rw[hu];rfl
     simpa using this
   refine ⟨u,?_,⟨_,hr,(kX hv).2 hu⟩⟩
   simp only[loadVar,Sem.run_bind,ht.isAgg,Option.isSome_none,Result.andThen_ok,Bool.false_eq_true,if_false,run_load,q15z hg,h0]
 | some t=>
   rw[hv] at hlen hr ht
   refine ⟨.agg ((us.toList.drop o).take (L.az (some t))).toArray,?_,⟨_,hr,(kY hv).2 rfl⟩⟩
   have hl:(loadCells ⟨b,o,none⟩ ((us.toList.drop o).take (L.az (some t))).length).run P w= .ok ((us.toList.drop o).take (L.az (some t))).toArray w:=
     run_loadCells_list (P:=P) w ⟨b,o,none⟩ _ (fun j v hj=> by
       rw[eD,q15z hg]
       have uk:=(List.getElem?_eq_some_iff.1 hj).1
       rw[List.getElem?_take,if_pos (by rw[hlen] at uk;exact uk),List.getElem?_drop] at hj
       simpa using hj)
   rw[hlen] at hl
   simp only[loadVar,Sem.run_bind,ht.isAgg,Option.isSome_some,Result.andThen_ok,if_true,ht.sizeOf,hl,Sem.run_pure]
theorem qJ (hL:L.OK) {v:V} (ht:TG P L ty v.ty) {o:Nat} {us:List Value} (hr:RC L c v ((us.drop o).take (L.az v.ty))):
 ∃u,(part ty us.toArray o).run P w= .ok u w∧RV L c v u:=by
 have hlen:=q22z hL v _ hr
 cases hv:v.ty with
 | none=>
   rw[hv] at hlen hr ht
   simp only[cq.az] at hlen hr
   obtain ⟨u,hu⟩:=List.length_eq_one_iff.1 hlen
   have h0:us[o]? =some u:=by
     have:((us.drop o).take 1)[0]? =some u:=by rw[hu];rfl
     simpa using this
   refine ⟨u,?_,⟨_,hr,(kX hv).2 hu⟩⟩
   simp only[part,Sem.run_bind,ht.isAgg,Option.isSome_none,Result.andThen_ok,Bool.false_eq_true,if_false]
   have:us.toArray[o]? =some u:=by simpa using h0
   rw[this];rfl
 | some t=>
   rw[hv] at hlen hr ht
   refine ⟨.agg ((us.drop o).take (L.az (some t))).toArray,?_,⟨_,hr,(kY hv).2 rfl⟩⟩
   simp only[part,Sem.run_bind,ht.isAgg,Option.isSome_some,Result.andThen_ok,if_true,ht.sizeOf,Sem.run_pure]
   congr 2
   apply Array.ext'
   simp[List.extract]
theorem RV.cells {v:V} {u:Value} (eO:v.ax=true) (hv:RV L c v u):RC L c v u.cells.toList∧wr v u.cells.toList u:=by
 obtain ⟨us,h1,h2⟩:=hv
 cases ht:v.ty with
 | none=>
   have h3:=(kX ht).1 h2
   subst h3
   have h4:=dS v eO _ h1 u (by simp)
   cases u <;> first | (simp[Value.oneCell'] at h4;done) | exact ⟨h1,by rw[kX ht];rfl⟩
 | some t=>
   have h3:=(kY ht).1 h2
   subst h3
   exact ⟨by simpa[Value.cells] using h1,by rw[kY ht];simp[Value.cells]⟩
theorem lN (hL:L.OK) {v:V} (ht:TG P L ty v.ty) {u:Value} (eO:v.ax=true) (hv:RV L c v u) {b o:Nat} {us:Array Value} {e:TypeId} {fz:Nat×Nat} (hg:w.heap[b]? =some (.cells us e fz))
 (df:∀j,j < us.size→¬(fz.1≤j∧j < fz.2)) (hle:o+L.az v.ty≤us.size):
 (storeVar ty ⟨b,o,none⟩ u).run P w= .ok () (w.setCells b o u.cells.toList):=by
 obtain ⟨h1,h2⟩:=hv.cells eO
 have hlen:=q22z hL v _ h1
 simp at hlen
 have vW:=dS v eO _ h1
 have:=run_storeCells_cells (P:=P) b o u.cells.toList 0 w
   (fun j hj=> by rw[q15z hg];simp at hj ⊢;omega)
   (fun j hj=> eo hg df (by simp at hj;omega)) vW
 simp only[storeVar,Sem.run_bind,ht.sizeOf,Result.andThen_ok,hlen]
 simpa using this
theorem RV.aQ (hL:L.OK) {v:V} {u:Value} (eO:v.ax=true) (hv:RV L c v u):u.cells.toList.length=L.az v.ty:=q22z hL v _ (hv.cells eO).1
theorem DQ {g:Option Nat} {i:Nat}:∀ {p:List Nat} {o:Nat} {g':Option Nat} {r:Nat×Option Nat},L.walk g p=some (o,g')→L.walk g' [i]=some r→L.walk g (p++[i])=some (o+r.1,r.2):=by
 intro p
 induction p generalizing g with
 | nil=> intro o g' r h1 h2;simp only[cq.walk,Option.some.injEq,Prod.mk.injEq] at h1;obtain ⟨rfl,rfl⟩:=h1;simpa using h2
 | cons j p ih=>
   intro o g' r h1 h2
   cases g with
   | none=> simp[cq.walk] at h1
   | some t=>
     simp only[List.cons_append,cq.walk] at h1 ⊢
     cases hf:L.fields t with
     | some fs=>
       simp only[hf] at h1 ⊢
       cases hj:fs[j]? with
       | none=> simp[hj] at h1
       | some x=>
         simp only[hj] at h1 ⊢
         obtain ⟨⟨o1,g1⟩,h3,h4⟩:=Option.map_eq_some_iff.1 h1
         simp only[Prod.mk.injEq] at h4
         obtain ⟨rfl,rfl⟩:=h4
         rw[ih h3 h2]
         simp[Nat.add_assoc]
     | none=>
       simp only[hf] at h1 ⊢
       cases ha:L.arr t with
       | none=> simp[ha] at h1
       | some ne=>
         obtain ⟨n,e⟩:=ne
         simp only[ha] at h1 ⊢
         by_cases hjn:j < n
         ·simp only[if_pos hjn] at h1 ⊢
          obtain ⟨⟨o1,g1⟩,h3,h4⟩:=Option.map_eq_some_iff.1 h1
          simp only[Prod.mk.injEq] at h4
          obtain ⟨rfl,rfl⟩:=h4
          rw[ih h3 h2]
          simp[Nat.add_assoc]
         ·simp[hjn] at h1
theorem sQ {g g':Option Nat} {i j:Nat} {p:List Nat} {o:Nat} {r:Nat×Option Nat} (h1:L.off g (j::p)=some o) (h3:∃o',L.walk g p=some (o',g')) (h2:L.walk g' [i]=some r):L.off g (j::p++[i])=some (o+r.1):=by
 obtain ⟨o',h3⟩:=h3
 simp only[cq.off,h3,Option.map_some,Option.some.injEq] at h1
 subst h1
 simp only[List.cons_append,cq.off,DQ h3 h2,Option.map_some,Nat.add_assoc]
theorem Ay {t i:Nat} {fs:List (Option Nat)} {x:Option Nat} (hf:L.fields t=some fs) (hi:fs[i]? =some x):L.walk (some t) [i]=some (((fs.take i).map L.az).sum,x):=by
 simp[cq.walk,hf,hi]
theorem uX (hL:L.OK) {t i n:Nat} {e:Option Nat} (ha:L.arr t=some (n,e)) (hi:i < n):L.walk (some t) [i]=some (i * L.az e,e):=by
 simp[cq.walk,hL.no _ _ ha,ha,hi]
theorem bc.nodeAt (hL:L.OK) (hs:bc L c h w) {id aw:Nat} {path:List Nat} {v:V} (hn:Vm.node h id path aw=some v):
 ∃l j p o us e fz,path=j::p∧c.loc id=some l∧l.aw=aw∧L.off l.tag path=some o∧(∃o',L.walk l.tag p=some (o',v.ty))∧w.heap[l.bq]? =some (.cells us e fz)∧c.z l.bq=none∧
  (∀j,j < us.size→¬(fz.1≤j∧j < fz.2))∧o+L.az v.ty≤us.size∧RC L c v ((us.toList.drop o).take (L.az v.ty)):=by
 obtain ⟨l,o,us,e,fz,hl,cC,ic,hg,df,hle,hr⟩:=hs.node hL hn
 obtain ⟨k,hk,hz,_⟩:=hs.loc id l hl
 have uu:=hn
 unfold Vm.node at uu
 split at uu
 ·rename_i g es i p ck
  obtain ⟨l',dv,_,bZ,_,_,_,_,cM,us',ty',fz',FI,Zf,_,fp⟩:=hs.row ck
  rw[hl] at dv;cases dv
  split at uu
  ·rename_i x hx
   have h1:=cQ hL fp (fun y hy=>(cM y hy).1) hx
   obtain ⟨o',h2,_⟩:=uW hL p x v _ h1 uu
   have Au:x.ty=g:=(cM x (List.mem_of_getElem? hx)).1
   exact ⟨l,i,p,o,us,e,fz,rfl,hl,cC,ic,⟨o',by rw[bZ,←Au];exact h2⟩,hg,hz,df,hle,hr⟩
  ·cases uu
 ·cases uu
end Go.Vm
namespace Go.Vm
variable {P : Program} {L : cq} {c : Ctx} {h : Hp} {w : World}
def aJ (L:cq) (c:Ctx) (w:World) (r:Result Value) (v:V) (h':Hp):Prop:=
 ∃u c' w',r= .ok u w'∧RV L c' v u∧bc L c' h' w'∧c.le c'∧St w w'
theorem aJ.same {r:Result Value} {v:V} {u:Value} (hr:r= .ok u w) (hv:RV L c v u) (hs:bc L c h w):aJ L c w r v h:=
 ⟨u,c,w,hr,hv,hs,Ctx.le_refl c,St.refl w⟩
theorem sR {id:Nat} {path:List Nat} {aw:Nat} {u:Value}:RV L c (.ptr id path aw) u↔∃a,u= .pointer (some a)∧id < c.n∧
 ∀l,c.loc id=some l→aw≤l.aw∧(l.aw=aw→∃o,L.off l.tag path=some o∧a=⟨l.bq,o,none⟩):=by
 rw[ea rfl]
 simp only[RC,List.cons.injEq,and_true]
theorem fR {v:V} {u:Value}:RV L c (.dQ v) u↔∃b off cs ty fz,u= .pointer (some ⟨b,off,none⟩)∧c.z b=some (.cells cs ty fz)∧RC L c v (nb cs off (L.az v.ty)):=by
 rw[ea rfl]
 simp only[RC,List.cons.injEq,and_true]
theorem bx {x u:Value}:RV L c (.s x) u↔u=x∧x.oneCell'=true:=by
 rw[ea rfl]
 simp only[RC,List.cons.injEq,and_true]
theorem iV {id aw:Nat} {path:List Nat} {u:Value} {l:Loc} {o:Nat} (hp:RV L c (.ptr id path aw) u) (hl:c.loc id=some l) (ht:l.aw=aw) (ho:L.off l.tag path=some o):u= .pointer (some ⟨l.bq,o,none⟩):=by
 obtain ⟨a,hu,_,cJ⟩:=sR.1 hp
 obtain ⟨_,hx⟩:=cJ l hl
 obtain ⟨o',h1,h2⟩:=hx ht
 rw[ho] at h1;cases h1
 rw[hu,h2]
theorem sS (hs:bc L c h w) {id aw:Nat} {path:List Nat} {l:Loc} {o:Nat} (hl:c.loc id=some l) (ht:l.aw=aw) (ho:L.off l.tag path=some o):RV L c (.ptr id path aw) (.pointer (some ⟨l.bq,o,none⟩)):=by
 refine sR.2 ⟨_,rfl,hs.Nn hl,fun l' dv=> ?_⟩
 rw[hl] at dv;cases dv
 exact ⟨by omega,fun _=>⟨o,ho,rfl⟩⟩
theorem VW (hL:L.OK) (hs:bc L c h w) {T t i:Nat} {fields:Array Field} {f:Field} {gs:List (Option Nat)} (hu:P.underlying T=some (.struct fields)) (hf:fields[i]? =some f)
 (cI:P.cellsOf f.type≠0) (ij:L.fields t=some gs) (ic:f.offset=((gs.take i).map L.az).sum) {x:V} {ux:Value} (hx:RV L c x ux) {v:V} {h':Hp}
 (ah:DP h t i x=some (v,h')):aJ L c w ((Instr.fieldAt T ux i).run P w) v h':=by
 have VX:∃j,P.info? f.type=some j∧j.size≠0:=by
   cases hj:P.info? f.type with
   | none=> simp[Program.cellsOf,hj] at cI
   | some j=> exact ⟨j,rfl,by simpa[Program.cellsOf,hj] using cI⟩
 obtain ⟨j,hj,hj0⟩:=VX
 have bb:∀b o,(Instr.fieldAt T (.pointer (some ⟨b,o,none⟩)) i).run P w= .ok (.pointer (some ⟨b,o+f.offset,none⟩)) w:=by
   intro b o
   simp[Instr.fieldAt,underlying,hu,hf,Instr.sureAddr,fieldPlace,Go.sizeOf,typeInfo,hj,hj0,eD]
 simp only[DP] at ah
 split at ah
 ·rename_i id path aw
  split at ah
  ·rename_i t' fs hn
   split at ah
   ·rename_i hc
    obtain ⟨rfl,hi⟩:=hc
    simp only[Option.some.injEq,Prod.mk.injEq] at ah
    obtain ⟨rfl,rfl⟩:=ah
    obtain ⟨l,j',p,o,us,e,fz,rfl,hl,ht,ho,lH,hg,hz,df,hle,hr⟩:=hs.nodeAt hL hn
    have DS:=iV hx hl ht ho
    subst DS
    have Yr:i < gs.length:=by
      simp only[RC] at hr
      have:=hr.2.1
      rw[ij] at this
      simp only[Option.some.injEq] at this
      rw[this];simpa using hi
    have h1:=sQ (i:=i) ho lH (Ay ij (List.getElem?_eq_getElem Yr))
    rw[bb,ic]
    exact aJ.same rfl (sS hs hl ht h1) hs
   ·cases ah
  ·cases ah
 ·rename_i t' fs
  split at ah
  ·rename_i hc;subst hc
   obtain ⟨y,hy,he⟩:=Option.map_eq_some_iff.1 ah
   simp only[Prod.mk.injEq] at he
   obtain ⟨rfl,rfl⟩:=he
   obtain ⟨b,off,cs,ty,fz,rfl,hz,hr⟩:=fR.1 hx
   simp only[RC] at hr
   obtain ⟨hr,hf',eO⟩:=hr
   rw[ij] at hf'
   simp only[Option.some.injEq] at hf'
   have h1:=nc hL hr hy
   have h2:=iU hL hr hy
   have vV:((fs.take i).map fun v=> L.az v.ty).sum=f.offset:=by
     rw[ic,hf',←List.map_take,List.map_map];rfl
   rw[vV] at h1 h2
   rw[bb]
   refine aJ.same rfl (fR.2 ⟨b,off+f.offset,cs,ty,fz,rfl,hz,?_⟩) hs
   simp only[nb] at h1 h2 ⊢
   rw[List.drop_take,List.take_take,List.drop_drop] at h1
   rw[List.length_take] at h2
   rwa [Nat.min_eq_left (by simp only[V.ty] at h2 ⊢;omega)] at h1
  ·cases ah
 ·cases ah
theorem PF (hL:L.OK) (hs:bc L c h w) {T t i:Nat} {fields:Array Field} {f:Field} {gs:List (Option Nat)} {g:Option Nat} (hu:P.underlying T=some (.struct fields)) (hf:fields[i]? =some f)
 (ij:L.fields t=some gs) (hg:gs[i]? =some g) (je:TG P L f.type g) (ic:f.offset=((gs.take i).map L.az).sum) {x:V} {ux:Value} (hx:RV L c x ux) {v:V} {h':Hp}
 (ah:sI h t i x=some (v,h')):aJ L c w ((Instr.field T ux i).run P w) v h':=by
 simp only[sI] at ah
 split at ah
 ·rename_i t' fs
  split at ah
  case isFalse=> cases ah
  rename_i hc
  subst hc
  obtain ⟨y,hy,he⟩:=Option.map_eq_some_iff.1 ah
  simp only[Prod.mk.injEq] at he
  obtain ⟨rfl,rfl⟩:=he
  obtain ⟨us,rfl,hr⟩:=(eV rfl).1 hx
  simp only[RC] at hr
  obtain ⟨hr,hf',eO⟩:=hr
  rw[ij] at hf'
  simp only[Option.some.injEq] at hf'
  have Cc:y.ty=g:=by
    rw[hf',List.getElem?_map,hy] at hg
    simpa using hg
  have h1:=nc hL hr hy
  have vV:((fs.take i).map fun v=> L.az v.ty).sum=f.offset:=by
    rw[ic,hf',←List.map_take,List.map_map];rfl
  rw[vV] at h1
  obtain ⟨u,bb,hv⟩:=qJ (P:=P) (w:=w) hL (by rw[Cc];exact je) h1
  refine aJ.same (u:=u) ?_ hv hs
  simp[Instr.field,underlying,hu,hf,asAgg,bb]
 ·cases ah
theorem iW {y:V} {i:Int} (hn:numOf y=some i) {u:Value} (hy:RV L c y u):∃k,u= .int k i:=by
 unfold numOf at hn
 split at hn
 ·rename_i k n
  simp only[Option.some.injEq] at hn
  subst hn
  exact ⟨k,(bx.1 hy).1⟩
 ·cases hn
theorem nX {id:Nat} {path:List Nat} {g:Option Nat} {off len aw:Nat} {u:Value}:RV L c (.ref id path g off len aw) u↔∃a k,u= .slice (some a) len k∧id < c.n∧len≤k∧
 ∀l,c.loc id=some l→aw≤l.aw∧(l.aw=aw→∃o m,L.row l.tag path=some (o,g,m)∧a=⟨l.bq,o+off * L.az g,none⟩∧eL m off len aw k l.cap):=by
 rw[ea rfl]
 simp only[RC,List.cons.injEq,and_true]
theorem cU {full:Bool} {g:Option Nat} {es:List V} {u:Value}:RV L c (.al full g es) u↔∃a k,u= .slice a es.length k∧es.length≤k∧(full=true→k=es.length)∧(∀e∈es,e.ty=g∧e.ax=true)∧
 (es=[]∨∃b off cs ty fz,a=some ⟨b,off,none⟩∧c.z b=some (.cells cs ty fz)∧bV L c es (nb cs off (es.length * L.az g))):=by
 rw[ea rfl]
 simp only[RC,List.cons.injEq,and_true]
theorem bc.rowAt (hL:L.OK) (hs:bc L c h w) {id aw:Nat} {path:List Nat} {es:List V} (hn:Vm.rowAt h id path aw=some es):
 ∃l o e m us ty fz,c.loc id=some l∧l.aw=aw∧L.row l.tag path=some (o,e,m)∧w.heap[l.bq]? =some (.cells us ty fz)∧c.z l.bq=none∧(∀j,j < us.size→¬(fz.1≤j∧j < fz.2))∧
  o+es.length * L.az e≤us.size∧bV L c es ((us.toList.drop o).take (es.length * L.az e))∧(∀x∈es,x.ty=e∧x.ax=true)∧
  (m=none→es.length=aw∧path=[]∧o=0∧e=l.tag∧us.size=l.cap * L.az e∧aw≤l.cap)∧(∀n,m=some n→n=es.length)∧(∀i,i < es.length→L.off l.tag (path++[i])=some (o+i * L.az e)):=by
 unfold Vm.rowAt at hn
 split at hn
 ·obtain ⟨⟨g,es'⟩,hr,he⟩:=Option.map_eq_some_iff.1 hn
  simp only at he
  subst he
  obtain ⟨l,hl,cC,bZ,hz,_,hle,fM,cM,us,ty,fz,hg,cI,df,fp⟩:=hs.row hr
  have hlen:=(q16z hr).2
  have hc:es'.length * L.az g≤l.cap * L.az g:=Nat.mul_le_mul_right _ fM
  refine ⟨l,0,g,none,us,ty,fz,hl,cC,by simp[cq.row,bZ],hg,hz,df.1,by omega,by simpa using fp,cM,fun _=>⟨hlen,rfl,rfl,bZ.symm,cI,by omega⟩,fun n hn=> by simp at hn,fun i hi=> ?_⟩
  simp[cq.off,cq.walk,bZ]
 ·rename_i cD
  split at hn
  ·rename_i t es' nM
   simp only[Option.some.injEq] at hn
   subst hn
   obtain ⟨l,j,p,o,us,ty,fz,rfl,hl,cC,ic,⟨o',lH⟩,hg,hz,df,hle,hr⟩:=hs.nodeAt hL nM
   simp only[RC] at hr
   obtain ⟨hr,e,ha,cM⟩:=hr
   have cI:L.az (V.ty (.arr t es'))=es'.length * L.az e:=by simp[V.ty,cq.az,hL.ar _ _ _ ha]
   rw[cI] at hr hle
   have Iq:o=j * L.az l.tag+o':=by
     simp only[cq.off,lH,Option.map_some,Option.some.injEq] at ic
     omega
   refine ⟨l,o,e,some es'.length,us,ty,fz,hl,cC,?_,hg,hz,df,hle,hr,cM,fun hm=> by simp at hm,fun n hn=> by simpa using hn.symm,fun i hi=> ?_⟩
   ·simp only[cq.row,lH,V.ty,ha,Option.map_some,Iq]
   ·exact sQ ic ⟨o',lH⟩ (uX hL ha hi)
  ·cases hn
theorem dK {id aw off len:Nat} {path:List Nat} {g:Option Nat} {u:Value} {l:Loc} {o:Nat} {e:Option Nat} {m:Option Nat} (hp:RV L c (.ref id path g off len aw) u) (hl:c.loc id=some l) (ht:l.aw=aw) (ho:L.row l.tag path=some (o,e,m)):
 e=g∧∃k,u= .slice (some ⟨l.bq,o+off * L.az g,none⟩) len k∧len≤k∧eL m off len aw k l.cap:=by
 obtain ⟨a,k,hu,_,lR,cJ⟩:=nX.1 hp
 obtain ⟨_,hx⟩:=cJ l hl
 obtain ⟨o',m',h1,h2,h3⟩:=hx ht
 rw[ho] at h1
 simp only[Option.some.injEq,Prod.mk.injEq] at h1
 obtain ⟨rfl,rfl,rfl⟩:=h1
 exact ⟨rfl,k,by rw[hu,h2],lR,h3⟩
theorem mE (hs:bc L c h w) {id aw off len k:Nat} {path:List Nat} {l:Loc} {o:Nat} {e:Option Nat} {m:Option Nat} (hl:c.loc id=some l) (ht:l.aw=aw) (ho:L.row l.tag path=some (o,e,m)) (lR:len≤k)
 (hm:eL m off len aw k l.cap):RV L c (.ref id path e off len aw) (.slice (some ⟨l.bq,o+off * L.az e,none⟩) len k):=by
 refine nX.2 ⟨_,k,rfl,hs.Nn hl,lR,fun l' dv=> ?_⟩
 rw[hl] at dv;cases dv
 exact ⟨by omega,fun _=>⟨o,m,ho,rfl,hm⟩⟩
theorem PG (hL:L.OK) (hs:bc L c h w) {T t n:Nat} {el:TypeId} {e:Option Nat} (hu:P.underlying T=some (.array n el)) (bP:TG P L el e) (ha:L.arr t=some (n,e))
 {x y:V} {ux uy:Value} (hx:RV L c x ux) (hy:RV L c y uy) {v:V} {h':Hp} (ah:uK h t x y=some (v,h')):aJ L c w ((Instr.indexAt T ux uy).run P w) v h':=by
 have bb:∀b o k (i:Int),0≤i→i < n→(Instr.indexAt T (.pointer (some ⟨b,o,none⟩)) (.int k i)).run P w= .ok (.pointer (some ⟨b,o+i.toNat * L.az e,none⟩)) w:=by
   intro b o k i h0 h1
   simp only[Instr.indexAt,asIntOf,underlying,Sem.run_bind,Sem.run_pure,Result.andThen_ok,run_program,hu,Instr.sureAddr,if_pos (And.intro h0 h1),bP.sizeOf,eD]
 simp only[uK] at ah
 split at ah
 case h_2=> cases ah
 rename_i i hi
 obtain ⟨k,rfl⟩:=iW hi hy
 split at ah
 ·rename_i id path aw
  split at ah
  ·rename_i t' es hn
   split at ah
   ·rename_i hc
    obtain ⟨rfl,h0,h1⟩:=hc
    simp only[Option.some.injEq,Prod.mk.injEq] at ah
    obtain ⟨rfl,rfl⟩:=ah
    obtain ⟨l,j',p,o,us,ty,fz,rfl,hl,ht,ho,lH,hg,hz,df,hle,hr⟩:=hs.nodeAt hL hn
    have DS:=iV hx hl ht ho
    subst DS
    simp only[RC] at hr
    obtain ⟨e',oK,_⟩:=hr.2
    rw[ha] at oK
    simp only[Option.some.injEq,Prod.mk.injEq] at oK
    obtain ⟨uu,rfl⟩:=oK
    have h2:=sQ (i:=i.toNat) ho lH (uX hL ha (by omega))
    rw[bb _ _ _ _ h0 (by omega)]
    exact aJ.same rfl (sS hs hl ht h2) hs
   ·cases ah
  ·cases ah
 ·rename_i t' es
  split at ah
  ·rename_i hc
   obtain ⟨rfl,h0,h1⟩:=hc
   obtain ⟨y,FJ,he⟩:=Option.map_eq_some_iff.1 ah
   simp only[Prod.mk.injEq] at he
   obtain ⟨rfl,rfl⟩:=he
   obtain ⟨b,off,cs,ty,fz,rfl,hz,hr⟩:=fR.1 hx
   simp only[RC] at hr
   obtain ⟨hr,e',oK,cM⟩:=hr
   rw[ha] at oK
   simp only[Option.some.injEq,Prod.mk.injEq] at oK
   obtain ⟨uu,rfl⟩:=oK
   have h2:=cQ hL hr (fun z hz=>(cM z hz).1) FJ
   have h3:=da hL hr (fun z hz=>(cM z hz).1) FJ
   have FH:y.ty=e:=(cM y (List.mem_of_getElem? FJ)).1
   rw[bb _ _ _ _ h0 (by omega)]
   refine aJ.same rfl (fR.2 ⟨b,off+i.toNat * L.az e,cs,ty,fz,rfl,hz,?_⟩) hs
   simp only[nb] at h2 h3 ⊢
   rw[List.drop_take,List.take_take,List.drop_drop] at h2
   rw[List.length_take] at h3
   rw[FH]
   rwa [Nat.min_eq_left (by simp only[V.ty] at h3 ⊢;omega)] at h2
  ·cases ah
 ·cases ah
theorem PH (hL:L.OK) (hs:bc L c h w) {T:Nat} {el:TypeId} {g:Option Nat} (hu:P.underlying T=some (.slice el)) (bP:TG P L el g)
 {x y:V} {ux uy:Value} (hx:RV L c x ux) (hy:RV L c y uy) {v:V} {h':Hp} (ah:uL h g x y=some (v,h')):aJ L c w ((Instr.indexAt T ux uy).run P w) v h':=by
 have bb:∀b o n cp k (i:Int),0≤i→i <(n:Nat)→(Instr.indexAt T (.slice (some ⟨b,o,none⟩) n cp) (.int k i)).run P w= .ok (.pointer (some ⟨b,o+i.toNat * L.az g,none⟩)) w:=by
   intro b o n cp k i h0 h1
   simp only[Instr.indexAt,asIntOf,underlying,Sem.run_bind,Sem.run_pure,Result.andThen_ok,run_program,hu,if_pos (And.intro h0 h1),bP.sizeOf,eD]
 simp only[uL] at ah
 split at ah
 case h_2=> cases ah
 rename_i i hi
 obtain ⟨k,rfl⟩:=iW hi hy
 split at ah
 ·rename_i id path g' off len aw
  split at ah
  case h_2=> cases ah
  rename_i es ck
  split at ah
  case isFalse=> cases ah
  rename_i hc
  obtain ⟨rfl,h0,h1,bW⟩:=hc
  simp only[Option.some.injEq,Prod.mk.injEq] at ah
  obtain ⟨rfl,rfl⟩:=ah
  obtain ⟨l,o,e,m,us,ty,fz,hl,ht,oj,hg,hz,df,hle,hr,cM,qw,qu,ic⟩:=hs.rowAt hL ck
  obtain ⟨rfl,kk,rfl,lR,hm⟩:=dK hx hl ht oj
  rw[bb _ _ _ _ _ _ h0 (by omega)]
  have h2:=ic (off+i.toNat) bW
  rw[Nat.add_mul,←Nat.add_assoc] at h2
  exact aJ.same rfl (sS hs hl ht h2) hs
 ·rename_i full g' es
  split at ah
  case isFalse=> cases ah
  rename_i hc
  obtain ⟨rfl,h0⟩:=hc
  obtain ⟨y',FJ,he⟩:=Option.map_eq_some_iff.1 ah
  simp only[Prod.mk.injEq] at he
  obtain ⟨rfl,rfl⟩:=he
  have bW:=(List.getElem?_eq_some_iff.1 FJ).1
  obtain ⟨a,kk,rfl,lR,Cd,cM,fy⟩:=cU.1 hx
  rcases fy with rfl | ⟨b,off,cs,ty,fz,rfl,hz,hr⟩
  ·simp at bW
  have Cc:=(cM y' (List.mem_of_getElem? FJ)).1
  have h2:=cQ hL hr (fun z hz=>(cM z hz).1) FJ
  have h3:=da hL hr (fun z hz=>(cM z hz).1) FJ
  rw[bb _ _ _ _ _ _ h0 (by omega)]
  refine aJ.same rfl (fR.2 ⟨b,off+i.toNat * L.az g',cs,ty,fz,rfl,hz,?_⟩) hs
  simp only[nb] at h2 h3 ⊢
  rw[List.drop_take,List.take_take,List.drop_drop] at h2
  rw[List.length_take] at h3
  rw[Cc]
  rwa [Nat.min_eq_left (by omega)] at h2
 ·cases ah
theorem PI (hL:L.OK) (hs:bc L c h w) {T t n:Nat} {el:TypeId} {e:Option Nat} (hu:P.underlying T=some (.array n el)) (bP:TG P L el e) (ha:L.arr t=some (n,e))
 {x y:V} {ux uy:Value} (hx:RV L c x ux) (hy:RV L c y uy) {v:V} {h':Hp} (ah:qz h t x y=some (v,h')):aJ L c w ((Instr.index T ux uy).run P w) v h':=by
 simp only[qz] at ah
 split at ah
 case h_2=> cases ah
 rename_i t' es i hi
 obtain ⟨k,rfl⟩:=iW hi hy
 split at ah
 case isFalse=> cases ah
 rename_i hc
 obtain ⟨rfl,h0⟩:=hc
 obtain ⟨y',FJ,he⟩:=Option.map_eq_some_iff.1 ah
 simp only[Prod.mk.injEq] at he
 obtain ⟨rfl,rfl⟩:=he
 obtain ⟨us,rfl,hr⟩:=(eV rfl).1 hx
 simp only[RC] at hr
 obtain ⟨hr,e',oK,cM⟩:=hr
 rw[ha] at oK
 simp only[Option.some.injEq,Prod.mk.injEq] at oK
 obtain ⟨uu,rfl⟩:=oK
 have bW:=(List.getElem?_eq_some_iff.1 FJ).1
 have h2:=cQ hL hr (fun z hz=>(cM z hz).1) FJ
 have FH:y'.ty=e:=(cM y' (List.mem_of_getElem? FJ)).1
 obtain ⟨u,bb,hv⟩:=qJ (P:=P) (w:=w) hL (ty:=el) (v:=y') (by rw[FH];exact bP) (by rw[FH];exact h2)
 refine aJ.same (u:=u) ?_ hv hs
 simp only[Instr.index,asIntOf,underlying,Sem.run_bind,Sem.run_pure,Result.andThen_ok,run_program,hu,if_pos (And.intro h0 (show i <(n:Int) by omega)),bP.sizeOf,bb]
theorem No (hL:L.OK) (hs:bc L c h w) {T:Nat} {g:Option Nat} (hT:TG P L T g) {x:V} {ux:Value} (hx:RV L c x ux) {v:V} {h':Hp} (ah:re h g x=some (v,h')):
 aJ L c w ((Instr.loadAt T ux).run P w) v h':=by
 simp only[re] at ah
 split at ah
 ·rename_i id path aw
  split at ah
  case h_2=> cases ah
  rename_i y hn
  split at ah
  case isFalse=> cases ah
  rename_i Cc
  simp only[Option.some.injEq,Prod.mk.injEq] at ah
  obtain ⟨rfl,rfl⟩:=ah
  obtain ⟨l,o,us,ty,fz,hl,ht,ho,hg,df,hle,hr⟩:=hs.node hL hn
  have DS:=iV hx hl ht ho
  subst DS
  obtain ⟨u,bb,hv⟩:=fQ (P:=P) hL (ty:=T) (by rw[Cc];exact hT) hg hr
  exact aJ.same (by simpa[Instr.loadAt,Instr.sureAddr] using bb) hv hs
 ·rename_i y
  split at ah
  case isFalse=> cases ah
  rename_i Cc
  simp only[Option.some.injEq,Prod.mk.injEq] at ah
  obtain ⟨rfl,rfl⟩:=ah
  obtain ⟨b,off,cs,ty,fz,rfl,hz,hr⟩:=fR.1 hx
  obtain ⟨u,bb,hv⟩:=fQ (P:=P) hL (ty:=T) (by rw[Cc];exact hT) (hs.z _ _ hz) hr
  exact aJ.same (by simpa[Instr.loadAt,Instr.sureAddr] using bb) hv hs
 ·cases ah
end Go.Vm
namespace Go.Vm
variable {P : Program} {L : cq} {c : Ctx} {h : Hp} {w : World}
theorem tM {es:List V} {i:Nat} {x:V} {g:Option Nat} (cM:∀y∈es,y.ty=g∧y.ax=true) (hx:x.ty=g∧x.ax=true):∀y∈es.set i x,y.ty=g∧y.ax=true:=fun y hy=> by
 rcases List.mem_or_eq_of_mem_set hy with hy | rfl
 ·exact cM y hy
 ·exact hx
theorem Ce (hL:L.OK) (hs:bc L c h w) {id:Nat} {path:List Nat} {aw:Nat} {dw y:V} {h1:Hp} (hn:Vm.node h id path aw=some dw) (aR:Vm.store h id path aw y=some h1) {ys:List Value} (hyr:RC L c y ys) (eO:y.ax=true) (du:y.ty=dw.ty)
 {l:Loc} {o:Nat} {us:Array Value} {ty:TypeId} {fz:Nat×Nat} (hl:c.loc id=some l) (ho:L.off l.tag path=some o) (hg:w.heap[l.bq]? =some (.cells us ty fz)) (df:∀j,j < us.size→¬(fz.1≤j∧j < fz.2)) (hle:o+L.az dw.ty≤us.size)
 {w':World} (iX:w'.heap[l.bq]? =some (.cells (lay us.toList o ys).toArray ty fz)) (Po:∀k,k≠l.bq→w'.heap[k]? =w.heap[k]?):bc L c h1 w':=by
 have hlen:ys.length=L.az y.ty:=q22z hL y ys hyr
 unfold Vm.store at aR
 unfold Vm.node at hn
 split at aR
 case h_2=> cases aR
 rename_i g' es i p ck
 split at aR
 case h_2=> cases aR
 rename_i e he
 obtain ⟨e',hpe,rfl⟩:=Option.map_eq_some_iff.1 aR
 simp only[ck,he] at hn
 obtain ⟨l',dv,cC,bZ,hz,je,htt,fM,cM,us',ty',fz',FI,cI,Ys,fp⟩:=hs.row ck
 rw[hl] at dv;cases dv
 rw[hg] at FI
 simp only[Option.some.injEq,Obj.cells.injEq] at FI
 obtain ⟨rfl,rfl,rfl⟩:=FI
 have xM:=fun z hz=>(cM z hz).1
 have heg:e.ty=g':=xM e (List.mem_of_getElem? he)
 have r1:=cQ hL fp xM he
 have r1le:=da hL fp xM he
 obtain ⟨o',h2,h3,h4,h5,h6⟩:=Ip hL hyr eO p e e' dw _ r1 hn hpe du
 have ic:o=i * L.az g'+o':=by
   simp only[cq.off,bZ,←heg,h2,Option.map_some,Option.some.injEq] at ho
   rw[←heg];omega
 have Np:=q22z hL e _ r1
 have Zg:=(List.getElem?_eq_some_iff.1 he).1
 have hb:(i+1)* L.az g'≤es.length * L.az g':=Nat.mul_le_mul_right _ (by omega)
 rw[Nat.add_mul,Nat.one_mul] at hb
 have fS:es.length * L.az g'≤l.cap * L.az g':=Nat.mul_le_mul_right _ fM
 have vV:((es.take i).map fun v=> L.az v.ty).sum=i * L.az g':=dL es _ _ i (fun z hz=> by rw[xM z hz]) (by omega)
 have kR:=rC hL h3 es _ i e fp he h4
 rw[vV] at kR
 have VY:lay (us.toList.take (es.length * L.az g')) (i * L.az g') (lay ((us.toList.take (es.length * L.az g')).drop (i * L.az g') |>.take (L.az g')) o' ys)=(lay us.toList o ys).take (es.length * L.az g'):=by
   rw[heg] at Np
   rw[Np,hlen,du] at h5
   rw[←rB _ _ _ (L.az g') o' (by simp;omega) (by rw[hlen,du];exact h5),←ic]
   exact (mD _ _ _ _ (by rw[hlen,du];omega) (by simp;omega)).symm
 rw[VY] at kR
 have pj:(lay us.toList o ys).length=us.size:=by rw[dW _ _ _ (by rw[hlen,du];simpa using hle)];simp
 have hmv:c.move id l=c:=by
   cases c with
   | mk z loc n=>
     simp only[Ctx.move]
     congr
     funext j
     by_cases hj:j=id
     ·subst hj;simp only[if_true];exact hl.symm
     ·simp[hj]
 have:=hs.move (l':=l) hl (w':=w') (.cells g' (es.set i e')) (by rw[hmv];exact Ctx.le_refl c) hz (.inl rfl)
   (fun b hb tI=> Po b tI) (fun o' jK=> by rw[hz] at jK;cases jK)
   (by
     rw[hmv]
     refine ⟨bZ,by simp[htt],by simpa using fM,tM cM ⟨by rw[h4,heg],h6⟩,_,ty,fz,iX,by simp[pj,cI],⟨fun j hj=> df j (by simpa[pj] using hj),Ys.2⟩,by simpa using kR⟩)
 rw[hmv] at this
 exact this
theorem PJ (hL:L.OK) (hs:bc L c h w) {T:Nat} {g:Option Nat} (hT:TG P L T g) {x y:V} {ux uy:Value} (hx:RV L c x ux) (hy:RV L c y uy) {base:Nat} {v:V} {h':Hp} (ah:xT base h g x y=some (v,h')):
 ∃w',(Instr.storeAt T ux uy).run P w= .ok () w'∧v= .bI []∧bc L c h' w'∧St w w':=by
 simp only[xT] at ah
 split at ah
 case h_2=> cases ah
 rename_i id path aw
 split at ah
 case h_2=> cases ah
 rename_i dw hn
 split at ah
 case isFalse=> cases ah
 rename_i hc
 obtain ⟨hog,Cc,eO,fk⟩:=hc
 obtain ⟨h1,aR,he⟩:=Option.map_eq_some_iff.1 ah
 simp only[Prod.mk.injEq] at he
 obtain ⟨rfl,rfl⟩:=he
 obtain ⟨l,o,us,ty,fz,hl,ht,ho,hg,df,hle,hr⟩:=hs.node hL hn
 have DS:=iV hx hl ht ho
 subst DS
 have du:y.ty=dw.ty:=by rw[Cc,hog]
 have bb:=lN (P:=P) hL (ty:=T) (by rw[Cc];exact hT) eO hy hg df (by rw[du];exact hle)
 have gz:=hy.cells eO
 have hlen:=hy.aQ hL eO
 refine ⟨w.setCells l.bq o uy.cells.toList,by simpa[Instr.storeAt,Instr.sureAddr] using bb,rfl,?_,St.setCells _ _ _ _⟩
 exact Ce hL hs hn aR gz.1 eO du hl ho hg df hle (dy l.bq ty fz uy.cells.toList o us w hg (by rw[hlen,du];exact hle)) (fun k hk=> q13z l.bq _ _ _ k hk)
theorem iY (hL:L.OK) (hs:bc L c h w) {g:Option Nat} {es:List V} {us:List Value} (hr:bV L c es us) (cM:∀x∈es,x.ty=g∧x.ax=true) (cap:Nat) (extra:List Value) (fM:us.length+extra.length=cap * L.az g) (hle:es.length≤cap)
 (ty:TypeId) (fz:Nat×Nat) (df:Ih g (us++extra).length fz):
 ∃l,l.bq=w.heap.size∧l.cap=cap∧l.tag=g∧l.aw=es.length∧bc L (c.push l) (h++[.cells g es]) (w.alloc (.cells (us++extra).toArray ty fz))∧(c.push l).loc h.length=some l:=by
 refine ⟨⟨w.heap.size,cap,g,es.length⟩,rfl,rfl,rfl,rfl,?_,by simp[Ctx.push,hs.n]⟩
 refine hs.push _ _ _ rfl ⟨rfl,rfl,hle,cM,(us++extra).toArray,ty,fz,iS,by simpa using fM,by simpa using df,?_⟩
 have hlen:=q8z hL hr (fun x hx=>(cM x hx).1)
 rw[←hlen]
 simpa using hr.mono (c.gJ _)
theorem Ir (hL:L.OK) (hs:bc L c h w) {T:Nat} {g:Option Nat} {x:V} {ux:Value} (hx:RV L c x ux) {v:V} {h':Hp} (ah:sJ h g x=some (v,h')):
 aJ L c w ((Instr.box T ux).run P w) v h':=by
 simp only[sJ] at ah
 split at ah
 case isFalse=> cases ah
 rename_i hc
 obtain ⟨hxg,eO⟩:=hc
 simp only[Option.some.injEq,Prod.mk.injEq] at ah
 obtain ⟨rfl,rfl⟩:=ah
 have gz:=(hx.cells eO).1
 have hlen:=hx.aQ hL eO
 obtain ⟨l,hb,fM,bZ,cC,dh,hl⟩:=iY hL hs (g:=g) (es:=[x]) (us:=ux.cells.toList) (by simp only[bV];exact ⟨_,[],by simp,gz,rfl⟩) (by simp[hxg,eO]) 1 [] (by simp only[List.length_nil];rw[hlen,hxg];omega) (by simp) T (0,0) ⟨by intro j hj;omega,fun _=> rfl⟩
 refine ⟨.pointer (some ⟨w.heap.size,0,none⟩),c.push l,w.alloc (.cells ux.cells T),?_,?_,by simpa using dh,c.gJ l,St.alloc _ _⟩
 ·simp[Instr.box,newVar,newRow]
 ·have hn:h.length=c.n:=hs.n.symm
  rw[←hb]
  exact sS dh hl (by simp[cC]) (by simp[cq.off,cq.walk])
def er (P:Program) (L:cq) (T:TypeId) (zero:V):Prop:=∃i z,P.info? T=some i∧i.zero=some z∧∀c:Ctx,RV L c zero z
theorem PK (hL:L.OK) (hs:bc L c h w) {T:Nat} {g:Option Nat} {zero:V} (hz:er P L T zero) {v:V} {h':Hp} (ah:sJ h g zero=some (v,h')):
 aJ L c w ((Instr.alloc T true (.tuple #[])).run P w) v h':=by
 obtain ⟨i,z,h1,h2,h3⟩:=hz
 have:=Ir (P:=P) (T:=T) hL hs (h3 c) ah
 have e:(Instr.alloc T true (.tuple #[])).run P w=(Instr.box T z).run P w:=by
   simp[Instr.alloc,Instr.box,zeroValue,typeInfo,h1,h2]
 rw[e];exact this
theorem ye :∀(ys:List Value) (us:Array Value) (o k:Nat),o+k+ys.length≤us.size→
 ((ys.zipIdx k).foldl (fun cs (p:Value×Nat)=> cs.setIfInBounds (o+p.2) p.1) us).toList=lay us.toList (o+k) ys
 | [],us,o,k,_=> by simp[lay]
 | y::ys,us,o,k,hl=> by
   simp only[List.length_cons] at hl
   simp only[List.zipIdx_cons,List.foldl_cons]
   rw[ye ys _ o (k+1) (by simp;omega)]
   simp only[lay,Array.toList_setIfInBounds]
   rw[List.take_set,List.drop_set]
   have h1:(us.toList.take (o+(k+1))).set (o+k) y=us.toList.take (o+k)++[y]:=by
     rw[show o+(k+1)=(o+k)+1 by omega,List.take_succ_eq_append_getElem (by simp;omega)]
     rw[List.set_append_right _ _ (by simp;exact Nat.min_le_left _ _)]
     simp[Nat.min_eq_left (show o+k≤us.size by omega),List.set_cons_zero]
   rw[h1,if_pos (by omega)]
   simp[Nat.add_assoc,Nat.add_comm 1]
def mJ (L:cq) (place:Nat→Option (Nat×Nat)) (gs:List (Option Nat)):Prop:=
 ∀i g,gs[i]? =some g→place i=some (((gs.take i).map L.az).sum,L.az g)
theorem mK (hL:L.OK) {place:Nat→Option (Nat×Nat)}:∀(ps:List (Nat×V)) (qs:List (Nat×Value)) (es es':List V) (us:Array Value),
 mJ L place (es.map V.ty)→bV L c es us.toList→bD es ps=some es'→ps.map (·.1)=qs.map (·.1)→(∀(i:Nat) (p:Nat×V) (q:Nat×Value),ps[i]? =some p→qs[i]? =some q→RV L c p.2 q.2)→
 ∃us',Instr.fill place us qs=some us'∧bV L c es' us'.toList∧es'.map V.ty=es.map V.ty∧((∀x∈es,x.ax=true)→∀x∈es',x.ax=true)∧us'.size=us.size
 | [],qs,es,es',us,hp,hr,fk,hpq,hv=> by
   simp only[bD,Option.some.injEq] at fk
   subst fk
   cases qs with
   | nil=> exact ⟨us,rfl,hr,rfl,fun h=> h,rfl⟩
   | cons q qs=> simp at hpq
 | (i,y)::ps,qs,es,es',us,hp,hr,fk,hpq,hv=> by
   cases qs with
   | nil=> simp at hpq
   | cons q qs=>
     obtain ⟨i',u⟩:=q
     simp only[List.map_cons,List.cons.injEq] at hpq
     obtain ⟨rfl,hpq⟩:=hpq
     simp only[bD] at fk
     split at fk
     case h_2=> cases fk
     rename_i o ho
     split at fk
     case isFalse=> cases fk
     rename_i hc
     obtain ⟨du,eO⟩:=hc
     have hy:RV L c y u:=hv 0 (i,y) (i,u) rfl rfl
     have gz:=(hy.cells eO).1
     have hlen:=hy.aQ hL eO
     have vV:(((es.map V.ty).take i).map L.az).sum=((es.take i).map fun v=> L.az v.ty).sum:=by rw[←List.map_take,List.map_map];rfl
     have ra:=hp i o.ty (by rw[List.getElem?_map,ho];rfl)
     rw[vV] at ra
     have hle:=iU hL hr ho
     simp only[Array.length_toList] at hle hlen
     have kR:=rC hL gz es us.toList i o hr ho du.symm
     have VZ:(es.set i y).map V.ty=es.map V.ty:=by
       rw[List.map_set]
       refine List.ext_getElem? fun j=> ?_
       by_cases e:j=i
       ·subst e
        rw[List.getElem?_set,List.getElem?_map,ho]
        simp[(List.getElem?_eq_some_iff.1 ho).1,du]
       ·rw[List.getElem?_set_ne (Ne.symm e)]
     have Nq:=ye u.cells.toList us (((es.take i).map fun v=> L.az v.ty).sum) 0 (by simp only[Array.length_toList];rw[hlen,←du];omega)
     obtain ⟨us',h1,h2,h3,h4,h5⟩:=mK hL ps qs (es.set i y) es' (u.cells.zipIdx.foldl (fun cs (p:Value×Nat)=> cs.setIfInBounds (((es.take i).map fun v=> L.az v.ty).sum+p.2) p.1) us)
       (by rw[VZ];exact hp) (by
         rw[←Array.foldl_toList,Array.toList_zipIdx]
         rw[Nq];simpa using kR) fk hpq (fun j p q hj hq=> hv (j+1) p q (by simpa using hj) (by simpa using hq))
     refine ⟨us',?_,h2,by rw[h3,VZ],fun rk=> h4 fun x hx=> ?_,?_⟩
     ·simp only[Instr.fill,ra]
      rw[if_neg (by
       intro Az
       simp only[Bool.or_eq_true,decide_eq_true_eq,ne_eq] at Az
       rw[hlen,←du] at Az
       rw[du] at hle
       rcases Az with Az | Az
       ·exact Az rfl
       ·rw[du] at Az;omega)]
      exact h1
     ·rcases List.mem_or_eq_of_mem_set hx with hx | rfl
      ·exact rk x hx
      ·exact eO
     ·rw[h5,←Array.foldl_toList,Array.toList_zipIdx,←Array.length_toList,Nq,dW _ _ _ (by simp only[Array.length_toList];rw[hlen,←du];omega)]
      simp
end Go.Vm
namespace Go.Vm
variable {P : Program} {L : cq} {c : Ctx} {h : Hp} {w : World}
theorem nN {α β:Type} (P:Program) (w:World) (f:α→Sem β) (g:α→β):∀(l:List α),(∀x∈l,(f x).run P w= .ok (g x) w)→(l.mapM f).run P w= .ok (l.map g) w
 | [],_=> by simp
 | a::l,hf=> by
   rw[List.mapM_cons]
   simp only[Sem.run_bind,hf a (by simp),Result.andThen_ok,nN P w f g l (fun x hx=> hf x (by simp[hx])),Sem.run_pure,List.map_cons]
theorem Is {α β:Type} (P:Program) (w:World) (f:α→Sem β) (g:α→β) (xs:Array α) (hf:∀x∈xs.toList,(f x).run P w= .ok (g x) w):(xs.mapM f).run P w= .ok (xs.map g) w:=by
 rw[Array.mapM_eq_mapM_toList,Sem.run_map,nN P w f g xs.toList hf]
 simp only[Result.andThen_ok]
 congr 1
 apply Array.ext';simp
theorem nh {ys:List V} {us:List Value} (places:List Nat) (hlen:places.length=ys.length) (FK:us.length=ys.length) (hv:∀(i:Nat) (y:V) (u:Value),ys[i]? =some y→us[i]? =some u→RV L c y u):
 (places.zip ys).map (·.1)=(places.zip us).map (·.1)∧∀(i:Nat) (p:Nat×V) (q:Nat×Value),(places.zip ys)[i]? =some p→(places.zip us)[i]? =some q→RV L c p.2 q.2:=by
 refine ⟨?_,fun i p q hp hq=> ?_⟩
 ·rw[List.map_fst_zip (by omega),List.map_fst_zip (by omega)]
 ·rw[List.getElem?_zip_eq_some] at hp hq
  exact hv i p.2 q.2 hp.2 hq.2
theorem Ln (hL:L.OK) (hs:bc L c h w) {T t:Nat} {fields:Array Field} {gs:List (Option Nat)} {zero:List V} {places:List Nat} (hu:P.underlying T=some (.struct fields))
 (ij:L.fields t=some gs) (hfs:∀i f,fields[i]? =some f→∃g,gs[i]? =some g∧TG P L f.type g∧f.offset=((gs.take i).map L.az).sum) (cI:fields.size=gs.length)
 (hz:er P L T (.st t zero)) {ys:List V} {us:List Value} (FK:us.length=ys.length) (hv:∀(i:Nat) (y:V) (u:Value),ys[i]? =some y→us[i]? =some u→RV L c y u)
 {v:V} {h':Hp} (ah:p9 h t zero places ys=some (v,h')):aJ L c w ((Instr.build T (places.zip us).toArray).run P w) v h':=by
 simp only[p9] at ah
 split at ah
 case isFalse=> cases ah
 rename_i hlen
 obtain ⟨fs,fk,he⟩:=Option.map_eq_some_iff.1 ah
 simp only[Prod.mk.injEq] at he
 obtain ⟨rfl,rfl⟩:=he
 obtain ⟨i,z,hi,oy,oL⟩:=hz
 obtain ⟨zs,rfl,hr⟩:=(eV rfl).1 (oL c)
 simp only[RC] at hr
 obtain ⟨hr,hf,eO⟩:=hr
 rw[ij] at hf
 simp only[Option.some.injEq] at hf
 obtain ⟨Hv,hp2⟩:=nh places hlen FK hv
 have kZ:mJ L ((fields.map fun f=>(f.offset,P.cellsOf f.type))[·]?) (zero.map V.ty):=by
   intro j g hj
   rw[←hf] at hj ⊢
   have uk:j < fields.size:=by have:=(List.getElem?_eq_some_iff.1 hj).1;omega
   obtain ⟨g',h1,h2,h3⟩:=hfs j fields[j] (by simp[uk])
   rw[hj] at h1;cases h1
   obtain ⟨q,hq1,Hh⟩:=h2.info
   simp[uk,h3,Program.cellsOf,hq1,Hh]
 obtain ⟨us',h1,h2,h3,h4,h5⟩:=mK hL (places.zip ys) (places.zip us) zero fs zs.toArray kZ (by simpa using hr) fk Hv hp2
 have hm:=Is P w (fun f:Field=> do pure (f.offset,←Go.sizeOf f.type)) (fun f=>(f.offset,P.cellsOf f.type)) fields (fun f hf=> by
   obtain ⟨j,hj⟩:=List.getElem?_of_mem hf
   obtain ⟨g',_,k2,_⟩:=hfs j f (by simpa using hj)
   obtain ⟨q,hq1,Hh⟩:=k2.info
   simp[Go.sizeOf,typeInfo,hq1,Program.cellsOf])
 refine aJ.same (u:= .agg us') ?_ ((eV rfl).2 ⟨us'.toList,by simp,?_⟩) hs
 ·simp only[Instr.build,zeroValue,typeInfo,underlying,Sem.run_bind,run_program,Result.andThen_ok,hi,Sem.run_pure,oy,hu,Value.cells]
  have hm':=hm
  simp only[bind_pure_comp] at hm'
  simp only[bind_pure_comp,hm',Result.andThen_ok,h1,Sem.run_pure]
 ·simp only[RC]
  exact ⟨h2,by rw[h3,ij,hf],h4 eO⟩
theorem Lo (hL:L.OK) (hs:bc L c h w) {T t n:Nat} {el:TypeId} {e:Option Nat} {zero:List V} {places:List Nat} (hu:P.underlying T=some (.array n el)) (bP:TG P L el e)
 (ha:L.arr t=some (n,e)) (hz:er P L T (.arr t zero)) {ys:List V} {us:List Value} (FK:us.length=ys.length) (hv:∀(i:Nat) (y:V) (u:Value),ys[i]? =some y→us[i]? =some u→RV L c y u)
 {v:V} {h':Hp} (ah:qa h t zero places ys=some (v,h')):aJ L c w ((Instr.build T (places.zip us).toArray).run P w) v h':=by
 simp only[qa] at ah
 split at ah
 case isFalse=> cases ah
 rename_i hlen
 obtain ⟨fs,fk,he⟩:=Option.map_eq_some_iff.1 ah
 simp only[Prod.mk.injEq] at he
 obtain ⟨rfl,rfl⟩:=he
 obtain ⟨i,z,hi,oy,oL⟩:=hz
 obtain ⟨zs,rfl,hr⟩:=(eV rfl).1 (oL c)
 simp only[RC] at hr
 obtain ⟨hr,e',oK,cM⟩:=hr
 rw[ha] at oK
 simp only[Option.some.injEq,Prod.mk.injEq] at oK
 obtain ⟨hn,rfl⟩:=oK
 obtain ⟨Hv,hp2⟩:=nh places hlen FK hv
 have kZ:mJ L (fun i=> some (i * L.az e,L.az e)) (zero.map V.ty):=by
   intro j g hj
   rw[List.getElem?_map] at hj
   obtain ⟨x,hx,rfl⟩:=Option.map_eq_some_iff.1 hj
   have Au:=(cM x (List.mem_of_getElem? hx)).1
   have:=dL (zero.map V.ty) L.az (L.az e) j (fun y hy=> by
     obtain ⟨q,hq,rfl⟩:=List.mem_map.1 hy
     rw[(cM q hq).1]) (by have:=(List.getElem?_eq_some_iff.1 hx).1;simp;omega)
   rw[this,Au]
 obtain ⟨us',h1,h2,h3,h4,h5⟩:=mK hL (places.zip ys) (places.zip us) zero fs zs.toArray kZ (by simpa using hr) fk Hv hp2
 have ma:fs.length=zero.length:=by have:=congrArg List.length h3;simpa using this
 refine aJ.same (u:= .agg us') ?_ ((eV rfl).2 ⟨us'.toList,by simp,?_⟩) hs
 ·simp only[Instr.build,zeroValue,typeInfo,underlying,Sem.run_bind,run_program,Result.andThen_ok,hi,Sem.run_pure,oy,hu,Value.cells,bP.sizeOf,h1]
 ·simp only[RC]
  refine ⟨h2,e,by rw[ma,←hn];exact ha,fun x hx=>⟨?_,h4 (fun y hy=>(cM y hy).2) x hx⟩⟩
  have:x.ty∈zero.map V.ty:=by rw[←h3];exact List.mem_map.2 ⟨x,hx,rfl⟩
  obtain ⟨y,hy,FH⟩:=List.mem_map.1 this
  rw[←FH];exact (cM y hy).1
theorem dY {zv:V} {zs:List Value} (hz:RC L c zv zs):∀n,bV L c (List.replicate n zv) ((List.replicate n zs).flatten)
 | 0=> by simp[bV]
 | n+1=> by
   rw[List.replicate_succ,List.replicate_succ,List.flatten_cons]
   simp only[bV]
   exact ⟨_,_,rfl,hz,dY hz n⟩
theorem iK (z:Array Value):∀n,((Array.range (n * z.size)).map (z[· % z.size]!)).toList=(List.replicate n z.toList).flatten
 | 0=> by simp
 | n+1=> by
   by_cases h0:z.size=0
   ·have:z= #[]:=Array.eq_empty_of_size_eq_zero h0
    subst this
    simp
   rw[List.replicate_succ,List.flatten_cons,←iK z n]
   simp only[Array.toList_map,Array.toList_range]
   rw[show (n+1)* z.size=z.size+n * z.size by rw[Nat.add_mul];omega,List.range_add,List.map_append,List.map_map]
   congr 1
   ·refine List.ext_getElem? fun j=> ?_
    by_cases hj:j < z.size
    ·simp[hj,Nat.mod_eq_of_lt hj]
    ·rw[List.getElem?_eq_none (by simp;omega),List.getElem?_eq_none (by simp;omega)]
   ·refine List.map_congr_left fun j hj=> ?_
    simp
theorem eS (hL:L.OK) {g:Option Nat} {es:List V} {l:Loc} {id:Nat} {w':World} {h':Hp} (hs:bc L c h' w') (hl:c.loc id=some l) (bZ:l.tag=g) (cC:l.aw=es.length) (k:Nat) (hk:es.length≤k) (fM:k≤l.cap):
 RV L c (.ref id [] g 0 es.length es.length) (.slice (some ⟨l.bq,0,none⟩) es.length k):=by
 have:=mE hs (id:=id) (aw:=es.length) (off:=0) (len:=es.length) (k:=k) (path:=[]) (m:=none) (o:=0) (e:=l.tag) hl cC rfl hk ⟨by omega,by omega,by omega⟩
 rw[←bZ]
 simpa using this
theorem bc.V0 {es:List V} {g:Option Nat} {l:Loc} (hs:bc L c (h++[.cells g es]) w) (hl:c.loc h.length=some l) (fM:l.cap=es.length):bc L c (h++[.lit g es]) w where
 z:=hs.z
 n:=by simpa using hs.n
 loc i l' dv:=by
   obtain ⟨k,h1,h2,h3⟩:=hs.loc i l' dv
   by_cases e:i=h.length
   ·subst e
    rw[hl] at dv;cases dv
    simp only[List.getElem?_concat_length,Option.some.injEq] at h1
    subst h1
    obtain ⟨a1,a2,a3,a4⟩:=h3
    exact ⟨.lit g es,by simp,h2,a1,a2,fM.symm,a4⟩
   ·have hi:i < h.length:=by
      have:=(List.getElem?_eq_some_iff.1 h1).1
      simp at this;omega
    exact ⟨k,by rw[List.getElem?_append_left hi] at h1 ⊢;exact h1,h2,h3⟩
 live i k hk:=by
   by_cases e:i=h.length
   ·subst e;exact .inl ⟨l,hl⟩
   ·have hi:i < h.length:=by
      have:=(List.getElem?_eq_some_iff.1 hk).1
      simp at this;omega
    exact hs.live i k (by rw[List.getElem?_append_left hi] at hk ⊢;exact hk)
 inj:=hs.inj
theorem Cf (hL:L.OK) (hs:bc L c h w) {T:Nat} {el:TypeId} {g:Option Nat} {zv:V} {n:Nat} {places:List Nat} (hu:P.underlying T=some (.slice el)) (bP:TG P L el g) (gq:0 < L.az g)
 (hz:er P L el zv) (iT:zv.ty=g) (gZ:zv.ax=true) (hn:n * L.az g≤16777216) {ys:List V} {us:List Value} (FK:us.length=ys.length) (hv:∀(i:Nat) (y:V) (u:Value),ys[i]? =some y→us[i]? =some u→RV L c y u)
 {v:V} {h':Hp} (ah:nL h g (List.replicate n zv) places ys=some (v,h')):aJ L c w ((Instr.buildSlice T n (places.zip us).toArray).run P w) v h'∧∀es,v= .ref h.length [] g 0 es.length es.length→h'=h++[.cells g es]→aJ L c w ((Instr.buildSlice T n (places.zip us).toArray).run P w) v (h++[.lit g es]):=by
 simp only[nL] at ah
 split at ah
 case isFalse=> cases ah
 rename_i hlen
 split at ah
 case h_2=> cases ah
 rename_i es fk
 obtain ⟨i,z,hi,oy,oL⟩:=hz
 have gz:=((oL c).cells gZ).1
 have tL:=(oL c).aQ hL gZ
 rw[iT] at tL
 obtain ⟨i',vX,pk⟩:=bP.info
 rw[hi] at vX;cases vX
 obtain ⟨Hv,hp2⟩:=nh places hlen FK hv
 have kZ:mJ L (fun i=> some (i * L.az g,L.az g)) ((List.replicate n zv).map V.ty):=by
   intro j x hj
   simp only[List.map_replicate] at hj ⊢
   have hj':=List.mem_of_getElem? hj
   have uk:=(List.getElem?_eq_some_iff.1 hj).1
   simp only[List.length_replicate] at uk
   have hx:=(List.eq_of_mem_replicate hj')
   have:=dL (List.replicate n zv.ty) L.az (L.az g) j (fun y hy=> by rw[List.eq_of_mem_replicate hy,iT]) (by simp;omega)
   rw[this,hx,iT]
 have AA:bV L c (List.replicate n zv) ((Array.range (n * L.az g)).map (z.cells[· % z.cells.size]!)).toList:=by
   have e:L.az g=z.cells.size:=by simpa using tL.symm
   rw[e,iK]
   exact dY gz n
 obtain ⟨us',h1,h2,h3,h4,h5⟩:=mK hL (places.zip ys) (places.zip us) _ es _ kZ AA fk Hv hp2
 have DT:es.length=n:=by have:=congrArg List.length h3;simpa using this
 have AB:∀x∈es,x.ty=g∧x.ax=true:=fun x hx=> by
   refine ⟨?_,h4 (fun y hy=> by rw[List.eq_of_mem_replicate hy];exact gZ) x hx⟩
   have:x.ty∈(List.replicate n zv).map V.ty:=by rw[←h3];exact List.mem_map.2 ⟨x,hx,rfl⟩
   obtain ⟨y,hy,FH⟩:=List.mem_map.1 this
   rw[←FH,List.eq_of_mem_replicate hy,iT]
 have PL:us'.size=n * L.az g:=by rw[h5];simp
 have sU:Instr.fill (fun i=> some (i * L.az g,L.az g)) ((Array.range (n * L.az g)).map (z.cells[· % z.cells.size]!)) (places.zip us)=some us':=h1
 have bb:(Instr.buildSlice T n (places.zip us).toArray).run P w= .ok (.slice (some ⟨w.heap.size,0,none⟩) n n) (w.alloc (.cells us' el)):=by
   by_cases h0:n=0
   ·subst h0
    have BO:Instr.fill (fun i=> some (i * L.az g,L.az g)) (#[]:Array Value) (places.zip us)=some us':=by
      have e0:(Array.range (0 * L.az g)).map (z.cells[· % z.cells.size]!)= #[]:=Array.eq_empty_of_size_eq_zero (by simp)
      rw[e0] at sU;exact sU
    simp[Instr.buildSlice,underlying,hu,Go.sizeOf,typeInfo,hi,pk,BO,newRow,Array.range_zero']
   ·have cD:¬n * L.az g=0:=by have:=Nat.mul_pos (show 0 < n by omega) gq;omega
    simp only[Instr.buildSlice,underlying,Sem.run_bind,run_program,Result.andThen_ok,hu,Sem.run_pure,bP.sizeOf,if_neg (show ¬n * L.az g > 2 ^ 24 by omega),if_neg cD,zeroValue,typeInfo,hi,oy,sU,newRow,run_newObj,World.alloc_eq]
 by_cases h0:es.isEmpty=true
 ·simp only[h0,if_true,Option.some.injEq,Prod.mk.injEq] at ah
  obtain ⟨rfl,rfl⟩:=ah
  have CP:n=0:=by rw[←DT];simpa using h0
  subst CP
  exact ⟨⟨_,c,_,bb,cU.2 ⟨_,0,rfl,by simp,fun _=> rfl,by simp,.inl rfl⟩,hs.Ca _,Ctx.le_refl c,St.alloc _ _⟩,fun es e=> by cases e⟩
 ·simp only[h0,if_false,Option.some.injEq,Prod.mk.injEq,Bool.false_eq_true] at ah
  obtain ⟨rfl,rfl⟩:=ah
  obtain ⟨l,hb,fM,bZ,cC,dh,hl⟩:=iY hL hs h2 AB n [] (by simp[PL]) (by omega) el (0,0) ⟨by intro j hj;omega,fun _=> rfl⟩
  have jC:RV L (c.push l) (.ref h.length [] g 0 es.length es.length) (.slice (some ⟨w.heap.size,0,none⟩) n n):=by
    rw[←hb]
    have:=eS (es:=es) hL dh hl bZ cC n (by omega) (by omega)
    rwa [DT] at this ⊢
  refine ⟨⟨_,c.push l,_,bb,jC,by simpa using dh,c.gJ l,St.alloc _ _⟩,fun es' e1 e2=> ?_⟩
  obtain rfl:es=es':=by simpa using e2
  exact ⟨_,c.push l,_,bb,jC,(show bc L (c.push l) (h++[.cells g es]) _ by simpa using dh).V0 hl (by omega),c.gJ l,St.alloc _ _⟩
theorem PM (hL:L.OK) (hs:bc L c h w) {T:Nat} {el:TypeId} {g:Option Nat} {zv:V} {n:Nat} {places:List Nat} (hu:P.underlying T=some (.slice el)) (bP:TG P L el g) (gq:0 < L.az g)
 (hz:er P L el zv) (iT:zv.ty=g) (gZ:zv.ax=true) (hn:n * L.az g≤16777216) {ys:List V} {us:List Value} (FK:us.length=ys.length) (hv:∀(i:Nat) (y:V) (u:Value),ys[i]? =some y→us[i]? =some u→RV L c y u)
 {v:V} {h':Hp} (ah:nL h g (List.replicate n zv) places ys=some (v,h')):aJ L c w ((Instr.buildSlice T n (places.zip us).toArray).run P w) v h':=(Cf hL hs hu bP gq hz iT gZ hn FK hv ah).1
theorem PN (hL:L.OK) (hs:bc L c h w) {T:Nat} {el:TypeId} {g:Option Nat} {zv:V} {n:Nat} {places:List Nat} (hu:P.underlying T=some (.slice el)) (bP:TG P L el g) (gq:0 < L.az g)
 (hz:er P L el zv) (iT:zv.ty=g) (gZ:zv.ax=true) (hn:n * L.az g≤16777216) {ys:List V} {us:List Value} (FK:us.length=ys.length) (hv:∀(i:Nat) (y:V) (u:Value),ys[i]? =some y→us[i]? =some u→RV L c y u)
 {v:V} {h':Hp} (ah:sK h g (List.replicate n zv) places ys=some (v,h')):aJ L c w ((Instr.buildSlice T n (places.zip us).toArray).run P w) v h':=by
 unfold sK at ah
 split at ah
 case isFalse=> cases ah
 rename_i hlen
 split at ah
 case h_2=> cases ah
 rename_i es fk
 split at ah
 case isTrue=> cases ah
 rename_i cD
 simp only[Option.some.injEq,Prod.mk.injEq] at ah
 obtain ⟨rfl,rfl⟩:=ah
 exact (Cf hL hs hu bP gq hz iT gZ hn FK hv (v:= .ref h.length [] g 0 es.length es.length) (h':=h++[.cells g es]) (by unfold nL;rw[if_pos hlen,fk];simp[cD])).2 es rfl rfl
theorem PO (hL:L.OK) (hs:bc L c h w) {T:Nat} {el:TypeId} {g:Option Nat} {zv:V} {n:Nat} {places:List Nat} (hu:P.underlying T=some (.slice el)) (bP:TG P L el g) (gq:0 < L.az g)
 (hz:er P L el zv) (iT:zv.ty=g) (gZ:zv.ax=true) (hn:n * L.az g≤16777216) {ys:List V} {us:List Value} (FK:us.length=ys.length) (hv:∀(i:Nat) (y:V) (u:Value),ys[i]? =some y→us[i]? =some u→RV L c y u)
 {v:V} {h':Hp} (ah:sP h g (List.replicate n zv) places ys=some (v,h')):aJ L c w ((Instr.buildSlice T n (places.zip us).toArray).run P w) v h':=by
 simp only[sP] at ah
 split at ah
 case isFalse=> cases ah
 rename_i hlen
 obtain ⟨es,fk,he⟩:=Option.map_eq_some_iff.1 ah
 simp only[Prod.mk.injEq] at he
 obtain ⟨rfl,rfl⟩:=he
 obtain ⟨i,z,hi,oy,oL⟩:=hz
 have gz:=((oL c).cells gZ).1
 have tL:=(oL c).aQ hL gZ
 rw[iT] at tL
 obtain ⟨i',vX,pk⟩:=bP.info
 rw[hi] at vX;cases vX
 obtain ⟨Hv,hp2⟩:=nh places hlen FK hv
 have kZ:mJ L (fun i=> some (i * L.az g,L.az g)) ((List.replicate n zv).map V.ty):=by
   intro j x hj
   simp only[List.map_replicate] at hj ⊢
   have hj':=List.mem_of_getElem? hj
   have uk:=(List.getElem?_eq_some_iff.1 hj).1
   simp only[List.length_replicate] at uk
   have hx:=(List.eq_of_mem_replicate hj')
   have:=dL (List.replicate n zv.ty) L.az (L.az g) j (fun y hy=> by rw[List.eq_of_mem_replicate hy,iT]) (by simp;omega)
   rw[this,hx,iT]
 have AA:bV L c (List.replicate n zv) ((Array.range (n * L.az g)).map (z.cells[· % z.cells.size]!)).toList:=by
   have e:L.az g=z.cells.size:=by simpa using tL.symm
   rw[e,iK]
   exact dY gz n
 obtain ⟨us',h1,h2,h3,h4,h5⟩:=mK hL (places.zip ys) (places.zip us) _ es _ kZ AA fk Hv hp2
 have DT:es.length=n:=by have:=congrArg List.length h3;simpa using this
 have AB:∀x∈es,x.ty=g∧x.ax=true:=fun x hx=> by
   refine ⟨?_,h4 (fun y hy=> by rw[List.eq_of_mem_replicate hy];exact gZ) x hx⟩
   have:x.ty∈(List.replicate n zv).map V.ty:=by rw[←h3];exact List.mem_map.2 ⟨x,hx,rfl⟩
   obtain ⟨y,hy,FH⟩:=List.mem_map.1 this
   rw[←FH,List.eq_of_mem_replicate hy,iT]
 have PL:us'.size=n * L.az g:=by rw[h5];simp
 have sU:Instr.fill (fun i=> some (i * L.az g,L.az g)) ((Array.range (n * L.az g)).map (z.cells[· % z.cells.size]!)) (places.zip us)=some us':=h1
 have bb:(Instr.buildSlice T n (places.zip us).toArray).run P w= .ok (.slice (some ⟨w.heap.size,0,none⟩) n n) (w.alloc (.cells us' el)):=by
   by_cases h0:n=0
   ·subst h0
    have BO:Instr.fill (fun i=> some (i * L.az g,L.az g)) (#[]:Array Value) (places.zip us)=some us':=by
      have e0:(Array.range (0 * L.az g)).map (z.cells[· % z.cells.size]!)= #[]:=Array.eq_empty_of_size_eq_zero (by simp)
      rw[e0] at sU;exact sU
    simp[Instr.buildSlice,underlying,hu,Go.sizeOf,typeInfo,hi,pk,BO,newRow,Array.range_zero']
   ·have cD:¬n * L.az g=0:=by have:=Nat.mul_pos (show 0 < n by omega) gq;omega
    simp only[Instr.buildSlice,underlying,Sem.run_bind,run_program,Result.andThen_ok,hu,Sem.run_pure,bP.sizeOf,if_neg (show ¬n * L.az g > 2 ^ 24 by omega),if_neg cD,zeroValue,typeInfo,hi,oy,sU,newRow,run_newObj,World.alloc_eq]
 have hz:bc L (c.dD w.heap.size (.cells us' el (0,0))) h (w.alloc (.cells us' el)):=hs.dD _
 refine ⟨_,_,_,bb,cU.2 ⟨_,n,by rw[DT],by omega,fun _=> DT.symm,AB,Or.inr ⟨w.heap.size,0,us',el,(0,0),rfl,by simp[Ctx.dD],?_⟩⟩,hz,c.kf _ _ hs.qF,St.alloc _ _⟩
 rw[DT,←PL]
 simp only[nb,List.drop_zero]
 rw[List.take_of_length_le (by simp)]
 exact bV.mono (c.kf _ _ hs.qF) h2
theorem PQ (hL:L.OK) (hs:bc L c h w) {T:Nat} {el:TypeId} {g:Option Nat} {zv:V} (hu:P.underlying T=some (.slice el)) (bP:TG P L el g) (mL:P.bytesOf el≤4096)
 (hz:er P L el zv) (iT:zv.ty=g) (gZ:zv.ax=true) {x y:V} {ux uy:Value} (hx:RV L c x ux) (hy:RV L c y uy)
 {v:V} {h':Hp} (ah:uO h g zv x y=some (v,h')):aJ L c w ((Instr.makeSlice T ux uy).run P w) v h':=by
 simp only[uO] at ah
 split at ah
 case h_2=> cases ah
 rename_i n m hn hm
 split at ah
 case isFalse=> cases ah
 rename_i hc
 obtain ⟨rfl,h0,V1⟩:=hc
 obtain ⟨kx,rfl⟩:=iW hn hx
 obtain ⟨ky,rfl⟩:=iW hm hy
 obtain ⟨i,z,hi,oy,oL⟩:=hz
 have gz:=((oL c).cells gZ).1
 have tL:=(oL c).aQ hL gZ
 rw[iT] at tL
 obtain ⟨i',vX,pk⟩:=bP.info
 rw[hi] at vX;cases vX
 have mX:i.bytes≤4096:=by simpa[Program.bytesOf,hi] using mL
 have hmul:(i.bytes:Int)* n≤281474976710656:=by
   have h1:(i.bytes:Int)* n≤4096 * n:=Int.mul_le_mul_of_nonneg_right (by omega) h0
   omega
 have bb:=run_make (P:=P) w T el i z hu hi oy kx ky n n h0 (Int.le_refl _) hmul (by omega)
 obtain ⟨k,rfl⟩:=Int.eq_ofNat_of_zero_le h0
 simp only[Int.toNat_natCast] at bb ah
 by_cases hk:k=0
 ·subst hk
  rw[if_pos (by simp)] at ah
  simp only[Option.some.injEq,Prod.mk.injEq] at ah
  obtain ⟨rfl,rfl⟩:=ah
  exact ⟨_,c,_,bb,cU.2 ⟨_,0,rfl,by simp,fun _=> rfl,by simp,.inl rfl⟩,hs.Ca _,Ctx.le_refl c,St.alloc _ _⟩
 ·rw[if_neg (by omega)] at ah
  simp only[Option.some.injEq,Prod.mk.injEq] at ah
  obtain ⟨rfl,rfl⟩:=ah
  have Nr:(madeCells z.cells (k * i.size)).toList=(List.replicate k z.cells.toList).flatten:=by
    have e:i.size=z.cells.size:=by rw[pk];simpa using tL.symm
    rw[e];exact iK z.cells k
  have hr:=dY gz k
  obtain ⟨l,hb,fM,bZ,cC,dh,hl⟩:=iY hL hs hr (fun x hx=> by rw[List.eq_of_mem_replicate hx];exact ⟨iT,gZ⟩) k [] (by rw[←Nr];simp[madeCells,pk]) (by simp) el (0,0) ⟨by intro j hj;omega,fun _=> rfl⟩
  refine ⟨_,c.push l,_,bb,?_,?_,c.gJ l,St.alloc _ _⟩
  ·rw[←hb]
   have:=eS (es:=List.replicate k zv) hL dh hl bZ cC k (by simp) (by omega)
   simp only[List.length_replicate] at this
   exact this
  ·have:(madeCells z.cells (k * i.size))=((List.replicate k z.cells.toList).flatten++[]).toArray:=by
     apply Array.ext'
     simpa using Nr
   rw[this];exact dh
end Go.Vm
namespace Go.Vm
variable {P : Program} {L : cq} {c : Ctx} {h : Hp} {w : World}
theorem pf (hL:L.OK) (hs:bc L c h w) {x:V} {u:Value} (hx:RV L c x u) {g:Option Nat} {es:List V} (he:elems h x=some (g,es)):
 ∃a k,u= .slice a es.length k∧es.length≤k∧(∀y∈es,y.ty=g∧y.ax=true)∧(es=[]∨∃b o us ty fz,a=some ⟨b,o,none⟩∧w.heap[b]? =some (.cells us ty fz)∧bV L c es ((us.toList.drop o).take (es.length * L.az g))):=by
 unfold elems at he
 split at he
 ·rename_i full g' es'
  simp only[Option.some.injEq,Prod.mk.injEq] at he
  obtain ⟨rfl,rfl⟩:=he
  obtain ⟨a,k,rfl,h1,h2,h3,h4⟩:=cU.1 hx
  refine ⟨a,k,rfl,h1,h3,?_⟩
  rcases h4 with h4 | ⟨b,off,cs,ty,fz,ha,hz,hr⟩
  ·exact .inl h4
  ·exact .inr ⟨b,off,cs,ty,fz,ha,hs.z _ _ hz,hr⟩
 ·rename_i id path g' off len aw
  obtain ⟨es',hr,FL⟩:=Option.map_eq_some_iff.1 he
  simp only[Prod.mk.injEq] at FL
  obtain ⟨rfl,rfl⟩:=FL
  obtain ⟨l,o,e,m,us,ty,fz,hl,ht,oj,hg,hz,df,hle,fp,cM,qw,qu,ic⟩:=hs.rowAt hL hr
  obtain ⟨rfl,k,rfl,lR,hm⟩:=dK hx hl ht oj
  have nE:off+len≤es'.length:=by
    cases m with
    | none=> have:=(qw rfl).1;simp only[eL] at hm;omega
    | some n=> have:=qu n rfl;simp only[eL] at hm;omega
  have hlen:((es'.drop off).take len).length=len:=by simp;omega
  rw[hlen]
  refine ⟨_,k,rfl,lR,fun y hy=> cM y (List.mem_of_mem_drop (List.mem_of_mem_take hy)),.inr ⟨l.bq,o+off * L.az e,us,ty,fz,rfl,hg,?_⟩⟩
  have:=vS hL fp (fun y hy=>(cM y hy).1) off len nE
  have hmul:(off+len)* L.az e≤es'.length * L.az e:=Nat.mul_le_mul_right _ nE
  rw[Nat.add_mul] at hmul
  rw[List.drop_take,List.take_take,List.drop_drop,Nat.min_eq_left (by omega)] at this
  exact this
 ·cases he
theorem na (hL:L.OK) {es:List V} {b o:Nat} {us:Array Value} {ty:TypeId} {fz:Nat×Nat} {g:Option Nat} (hg:w.heap[b]? =some (.cells us ty fz)) (hr:bV L c es ((us.toList.drop o).take (es.length * L.az g))) (cM:∀y∈es,y.ty=g):
 ∀j v,((us.toList.drop o).take (es.length * L.az g))[j]? =some v→w.cell? ((⟨b,o,none⟩:Addr).add j)=some v:=fun j v hj=> by
 rw[eD,q15z hg]
 have hlen:=q8z hL hr cM
 have uk:=(List.getElem?_eq_some_iff.1 hj).1
 rw[hlen] at uk
 rw[List.getElem?_take,if_pos uk,List.getElem?_drop] at hj
 simpa using hj
theorem jL :∀(es:List V) (l:List UInt8) (us:List Value),bytesOf es=some l→bV L c es us→∃ns:List Int,us=ns.map (Value.int .u8)∧ns.length=es.length∧l=ns.map fun n=> UInt8.ofNat n.toNat
 | [],l,us,hb,hr=> by
   simp only[bytesOf,Option.some.injEq] at hb
   simp only[bV] at hr
   subst hb;subst hr
   exact ⟨[],rfl,rfl,rfl⟩
 | e::es,l,us,hb,hr=> by
   simp only[bV] at hr
   obtain ⟨u1,u2,rfl,h1,h2⟩:=hr
   unfold bytesOf at hb
   split at hb
   ·rename_i heq
    cases heq
   ·rename_i n vs heq
    simp only[List.cons.injEq] at heq
    obtain ⟨rfl,rfl⟩:=heq
    obtain ⟨l',dv,rfl⟩:=Option.map_eq_some_iff.1 hb
    obtain ⟨ns,rfl,h3,rfl⟩:=jL es l' u2 dv h2
    simp only[RC] at h1
    rw[h1.1]
    exact ⟨n::ns,by simp,by simp[h3],by simp⟩
   ·cases hb
theorem PR (hs:bc L c h w) {T:Nat} {el:TypeId} (hu:P.underlying T=some (.slice el)) {ty:TypeId} {x:V} {ux:Value} (hx:RV L c x ux) {v:V} {h':Hp} (ah:sL h x=some (v,h')):
 aJ L c w ((Builtin.len_ #[T] ty #[ux]).run P w) v h':=by
 simp only[sL] at ah
 obtain ⟨n,hn,ah⟩:=Option.bind_eq_some_iff.1 ah
 simp only[js,Option.some.injEq,Prod.mk.injEq] at ah
 obtain ⟨rfl,rfl⟩:=ah
 have:∃a k,ux= .slice a n k:=by
   unfold fq at hn
   split at hn
   ·simp only[Option.some.injEq] at hn;subst hn
    obtain ⟨a,k,h1,_⟩:=cU.1 hx;exact ⟨a,k,h1⟩
   ·simp only[Option.some.injEq] at hn;subst hn
    obtain ⟨a,k,h1,_⟩:=nX.1 hx;exact ⟨some a,k,h1⟩
   ·cases hn
 obtain ⟨a,k,rfl⟩:=this
 refine aJ.same (u:= .int .i64 n) ?_ (bx.2 ⟨rfl,rfl⟩) hs
 simp[Builtin.len_,underlying,hu,goInt]
theorem PS (hs:bc L c h w) {T:Nat} {el:TypeId} (hu:P.underlying T=some (.slice el)) {ty:TypeId} {x:V} {ux:Value} (hx:RV L c x ux) {v:V} {h':Hp} (ah:uN h x=some (v,h')):
 aJ L c w ((Builtin.cap_ #[T] ty #[ux]).run P w) v h':=by
 simp only[uN] at ah
 split at ah
 case h_2=> cases ah
 rename_i g es
 simp only[js,Option.some.injEq,Prod.mk.injEq] at ah
 obtain ⟨rfl,rfl⟩:=ah
 obtain ⟨a,k,rfl,h2,h3,h4⟩:=cU.1 hx
 have hk:=h3 rfl
 subst hk
 refine aJ.same (u:= .int .i64 es.length) ?_ (bx.2 ⟨rfl,rfl⟩) hs
 simp[Builtin.cap_,underlying,hu,goInt]
theorem Lp (hs:bc L c h w) {T:Nat} (hu:P.underlying T=some .string) {ty:TypeId} {x:V} {ux:Value} (hx:RV L c x ux) {v:V} {h':Hp} (ah:qb h x=some (v,h')):
 aJ L c w ((Builtin.len_ #[T] ty #[ux]).run P w) v h':=by
 simp only[qb] at ah
 split at ah
 case h_2=> cases ah
 rename_i s
 simp only[js,Option.some.injEq,Prod.mk.injEq] at ah
 obtain ⟨rfl,rfl⟩:=ah
 obtain ⟨rfl,_⟩:=bx.1 hx
 refine aJ.same (u:= .int .i64 s.size) ?_ (bx.2 ⟨rfl,rfl⟩) hs
 simp[Builtin.len_,underlying,hu,goInt]
def PT (L:cq) (c:Ctx):Option V→Option Value→Prop
 | none,none=> True
 | some y,some u=> RV L c y u
 | _,_=> False
theorem dN {x:Option V} {d n:Nat} (hn:cL x d=some n) {u:Option Value} (hx:PT L c x u):(u=none∧x=none∧n=d)∨∃k,u=some (.int k (n:Int)):=by
 cases x with
 | none=>
   simp only[cL,Option.some.injEq] at hn
   cases u with
   | none=> exact .inl ⟨rfl,rfl,hn.symm⟩
   | some _=> exact hx.elim
 | some y=>
   cases u with
   | none=> exact hx.elim
   | some uy=>
     cases y <;> try (simp[cL] at hn;done)
     rename_i q
     cases q <;> try (simp[cL] at hn;done)
     rename_i k m
     simp only[cL] at hn
     split at hn
     ·rename_i h0
      simp only[Option.some.injEq] at hn
      obtain ⟨rfl,_⟩:=bx.1 hx
      exact .inr ⟨k,by congr 2;omega⟩
     ·cases hn
theorem eE {k:IntKind} {n y:Nat} {code:BoundsCode} (hle:n≤y):(Instr.sliceBound (.int k (n:Int)) y code).run P w= .ok n w:=by
 simp only[Instr.sliceBound,asIntOf,Sem.run_bind,Sem.run_pure,Result.andThen_ok]
 rw[if_pos ⟨by omega,by omega⟩]
 simp
theorem Cg {T:Nat} {el:TypeId} {g:Option Nat} (hu:P.underlying T=some (.slice el)) (bP:TG P L el g) {a:Option Addr} {len cap l r:Nat} {ul ur:Option Value} (hl:(ul=none∧l=0)∨∃k,ul=some (.int k (l:Int)))
 (hr:(ur=none∧r=len)∨∃k,ur=some (.int k (r:Int))) (q9:l≤r) (fp:r≤cap):
 (Instr.sliceAt T (.slice a len cap) ul ur none).run P w= .ok (.slice (if cap=l then a else a.map (·.add (l * L.az g))) (r - l) (cap - l)) w:=by
 have hb:(Instr.sliceBounds true len cap ul ur none).run P w= .ok (l,r,cap) w:=by
   rcases hl with ⟨rfl,rfl⟩ | ⟨kl,rfl⟩<;> rcases hr with ⟨rfl,rfl⟩ | ⟨kr,rfl⟩<;> simp[Instr.sliceBounds,eE q9,eE fp]
 simp only[Instr.sliceAt,Instr.slice,underlying,Sem.run_bind,run_program,Result.andThen_ok,hu,Sem.run_pure,hb,bP.sizeOf]
theorem yf {T:Nat} {el:TypeId} {g:Option Nat} (hu:P.underlying T=some (.slice el)) (bP:TG P L el g) {a:Option Addr} {len cap l r m:Nat} {ul:Option Value} {kr km:IntKind} (hl:(ul=none∧l=0)∨∃k,ul=some (.int k (l:Int)))
 (q9:l≤r) (wI:r≤m) (hmc:m≤cap):
 (Instr.sliceAt T (.slice a len cap) ul (some (.int kr (r:Int))) (some (.int km (m:Int)))).run P w= .ok (.slice (if m=l then a else a.map (·.add (l * L.az g))) (r - l) (m - l)) w:=by
 have hb:(Instr.sliceBounds true len cap ul (some (.int kr (r:Int))) (some (.int km (m:Int)))).run P w= .ok (l,r,m) w:=by
   rcases hl with ⟨rfl,rfl⟩ | ⟨kl,rfl⟩<;> simp[Instr.sliceBounds,eE q9,eE wI,eE hmc]
 simp only[Instr.sliceAt,Instr.slice,underlying,Sem.run_bind,run_program,Result.andThen_ok,hu,Sem.run_pure,hb,bP.sizeOf]
theorem vY (hL:L.OK) {full:Bool} {es:List V} {a:Option Addr} {n k l r k':Nat} {g:Option Nat} (hx:RV L c (.al full g es) (.slice a n k)) (q9:l≤r) (hr:r≤es.length) (full':Bool) (lC:r - l≤k') (hf:full'=true→k'=r - l)
 (a':Option Addr) (oK:l < r→a'=a.map (·.add (l * L.az g))):RV L c (.al full' g ((es.drop l).take (r - l))) (.slice a' (r - l) k'):=by
 have hlen:((es.drop l).take (r - l)).length=r - l:=by simp;omega
 obtain ⟨a0,k0,heq,h1,h2,cM,h3⟩:=cU.1 hx
 simp only[Value.slice.injEq] at heq
 obtain ⟨rfl,rfl,rfl⟩:=heq
 refine cU.2 ⟨a',k',by rw[hlen],by rw[hlen];exact lC,fun h=> by rw[hlen];exact hf h,fun y hy=> cM y (List.mem_of_mem_drop (List.mem_of_mem_take hy)),?_⟩
 by_cases bW:l < r
 ·right
  rcases h3 with rfl | ⟨b,off,cs,ty,fz,rfl,hz,fp⟩
  ·simp at hr;omega
  ·refine ⟨b,off+l * L.az g,cs,ty,fz,by rw[oK bW];simp[eD],hz,?_⟩
   have:=vS hL fp (fun y hy=>(cM y hy).1) l (r - l) (by omega)
   have hmul:(l+(r - l))* L.az g≤es.length * L.az g:=Nat.mul_le_mul_right _ (by omega)
   rw[Nat.add_mul] at hmul
   simp only[nb] at this ⊢
   rw[List.drop_take,List.take_take,List.drop_drop,Nat.min_eq_left (by omega)] at this
   rw[hlen];exact this
 ·left
  rw[show r - l=0 by omega];simp
theorem eU {full:Bool} {g:Option Nat} {a:Option Addr} {k:Nat} (hf:full=true→k=0):RV L c (.al full g []) (.slice a 0 k):=
 cU.2 ⟨a,k,rfl,Nat.zero_le _,fun h=> by simpa using hf h,by simp,Or.inl rfl⟩
def fC (L:cq) (c:Ctx):List V→List Value→Prop
 | [],[]=> True
 | v::vs,u::us=> RV L c v u∧fC L c vs us
 | _,_=> False
theorem fC.length :∀ {vs:List V} {us:List Value},fC L c vs us→us.length=vs.length
 | [],[],_=> rfl
 | [],_::_,h=> h.elim
 | _::_,[],h=> h.elim
 | _::_,_::_,h=> by simp[fC.length h.2]
theorem fC.get :∀ {vs:List V} {us:List Value},fC L c vs us→∀(i:Nat) (y:V) (u:Value),vs[i]? =some y→us[i]? =some u→RV L c y u
 | [],[],_,i,y,u,h1,_=> by simp at h1
 | [],_::_,h,_,_,_,_,_=> h.elim
 | _::_,[],h,_,_,_,_,_=> h.elim
 | v::vs,x::us,h,0,y,u,h1,h2=> by
   simp at h1 h2;subst h1;subst h2;exact h.1
 | v::vs,x::us,h,i+1,y,u,h1,h2=> fC.get h.2 i y u (by simpa using h1) (by simpa using h2)
theorem iZ {ul ur:Option Value} {bs:List V} (hv:fC L c bs (ul.toList++ur.toList)) {a b:Option V} (hb:aL ul.isSome ur.isSome bs=some (a,b)):PT L c a ul∧PT L c b ur:=by
 cases ul with
 | none=>
   cases ur with
   | none=>
     simp only[Option.toList_none,List.append_nil] at hv
     match bs,hv with
     | [],_=> simp only[aL,Option.isSome_none,Option.some.injEq,Prod.mk.injEq] at hb;obtain ⟨rfl,rfl⟩:=hb;exact ⟨trivial,trivial⟩
   | some u=>
     simp only[Option.toList_none,Option.toList_some,List.nil_append] at hv
     match bs,hv with
     | [y],hv=> simp only[aL,Option.isSome_none,Option.isSome_some,Option.some.injEq,Prod.mk.injEq] at hb;obtain ⟨rfl,rfl⟩:=hb;exact ⟨trivial,hv.1⟩
     | _::_::_,hv=> exact hv.2.elim
 | some v=>
   cases ur with
   | none=>
     simp only[Option.toList_none,Option.toList_some,List.append_nil] at hv
     match bs,hv with
     | [y],hv=> simp only[aL,Option.isSome_none,Option.isSome_some,Option.some.injEq,Prod.mk.injEq] at hb;obtain ⟨rfl,rfl⟩:=hb;exact ⟨hv.1,trivial⟩
     | _::_::_,hv=> exact hv.2.elim
   | some u=>
     simp only[Option.toList_some,List.cons_append,List.nil_append] at hv
     match bs,hv with
     | [y],hv=> exact hv.2.elim
     | [y,z],hv=> simp only[aL,Option.isSome_some,Option.some.injEq,Prod.mk.injEq] at hb;obtain ⟨rfl,rfl⟩:=hb;exact ⟨hv.1,hv.2.1⟩
     | _::_::_::_,hv=> exact hv.2.2.elim
theorem vZ {x:V} {n:Nat} (hn:fq x=some n) {u:Value} (hx:RV L c x u):∃a k,u= .slice a n k∧n≤k:=by
 unfold fq at hn
 split at hn
 ·simp only[Option.some.injEq] at hn;subst hn
  obtain ⟨a,k,h1,h2,_⟩:=cU.1 hx;exact ⟨a,k,h1,h2⟩
 ·simp only[Option.some.injEq] at hn;subst hn
  obtain ⟨a,k,h1,_,h2,_⟩:=nX.1 hx;exact ⟨some a,k,h1,h2⟩
 ·cases hn
theorem DU (hL:L.OK) (hs:bc L c h w) {T:Nat} {el:TypeId} {g:Option Nat} (hu:P.underlying T=some (.slice el)) (bP:TG P L el g) {x:V} {a:Option Addr} {len cap:Nat} (hx:RV L c x (.slice a len cap))
 {ul ur:Option Value} {l r:Nat} (hl:(ul=none∧l=0)∨∃k,ul=some (.int k (l:Int))) (hr:(ur=none∧r=len)∨∃k,ur=some (.int k (r:Int)))
 {v:V} (ah:dx h g x l r=some v):aJ L c w ((Instr.sliceAt T (.slice a len cap) ul ur none).run P w) v h:=by
 unfold dx at ah
 split at ah
 case isFalse=> cases ah
 rename_i q9
 split at ah
 ·rename_i full g' es
  split at ah
  case isFalse=> cases ah
  rename_i nz
  obtain ⟨rfl,nz⟩:=nz
  simp only[Option.some.injEq] at ah
  subst ah
  obtain ⟨a0,k0,heq,h1,h2,h3,h4⟩:=cU.1 hx
  simp only[Value.slice.injEq] at heq
  obtain ⟨rfl,rfl,rfl⟩:=heq
  rw[Cg hu bP hl hr q9 (by omega)]
  refine aJ.same rfl (vY hL hx q9 nz _ (by omega) (fun hf=> ?_) _ (fun bW=> by rw[if_neg (by omega)])) hs
  simp only[Bool.and_eq_true,beq_iff_eq] at hf
  have:=h2 hf.1;omega
 ·rename_i id path g' off n aw
  split at ah
  case h_2=> cases ah
  rename_i es ck
  split at ah
  case isFalse=> cases ah
  rename_i nE
  obtain ⟨rfl,nE⟩:=nE
  obtain ⟨ll,o,e,m,us,ty,fz,dv,ht,oj,hg,hz,df,hle,fp,cM,qw,qu,ic⟩:=hs.rowAt hL ck
  obtain ⟨rfl,k,heq,lR,hm⟩:=dK hx dv ht oj
  simp only[Value.slice.injEq] at heq
  obtain ⟨rfl,rfl,rfl⟩:=heq
  have fM:r≤cap:=by
    rcases nE with hf | hf
    ·omega
    ·cases m with
     | none=> simp only[eL] at hm;have:=(qw rfl).1;omega
     | some n=> simp only[eL] at hm;have:=qu n rfl;omega
  rw[Cg hu bP hl hr q9 fM]
  split at ah
  ·rename_i fy
   simp only[Option.some.injEq] at ah
   subst ah
   have Yt:(if cap=l then some (⟨ll.bq,o+off * L.az e,none⟩:Addr) else (some (⟨ll.bq,o+off * L.az e,none⟩:Addr)).map (·.add (l * L.az e)))=some ⟨ll.bq,o+(off+l)* L.az e,none⟩:=by
     by_cases h0:l=0
     ·subst h0;split <;> simp[eD]
     ·rw[if_neg (by omega)]
      simp only[Option.map_some,eD,Nat.add_mul,Nat.add_assoc]
   rw[Yt]
   refine aJ.same rfl (mE hs dv ht oj (by omega) ?_) hs
   cases m with
   | none=>
     simp only[eL] at hm ⊢
     have:=(qw rfl).1
     omega
   | some n=> simp only[eL] at hm ⊢;omega
  ·rename_i fy
   simp only[Option.some.injEq] at ah
   subst ah
   have e0:r - l=0:=by omega
   rw[e0]
   exact aJ.same rfl (eU (fun hf=> by cases hf)) hs
 ·cases ah
theorem sV (hL:L.OK) (hs:bc L c h w) {T:Nat} {el:TypeId} {g:Option Nat} (hu:P.underlying T=some (.slice el)) (bP:TG P L el g) {x:V} {a:Option Addr} {len cap:Nat} (hx:RV L c x (.slice a len cap))
 {ul:Option Value} {kr km:IntKind} {l r m:Nat} (hl:(ul=none∧l=0)∨∃k,ul=some (.int k (l:Int)))
 {v:V} (ah:rA h g x l r m=some v):aJ L c w ((Instr.sliceAt T (.slice a len cap) ul (some (.int kr (r:Int))) (some (.int km (m:Int)))).run P w) v h:=by
 unfold rA at ah
 split at ah
 case isFalse=> cases ah
 rename_i q9
 obtain ⟨q9,wI⟩:=q9
 split at ah
 ·rename_i full g' es
  split at ah
  case isFalse=> cases ah
  rename_i nz
  obtain ⟨rfl,nz⟩:=nz
  simp only[Option.some.injEq] at ah
  subst ah
  obtain ⟨a0,k0,heq,h1,h2,h3,h4⟩:=cU.1 hx
  simp only[Value.slice.injEq] at heq
  obtain ⟨rfl,rfl,rfl⟩:=heq
  rw[yf hu bP hl q9 wI (by omega)]
  refine aJ.same rfl (vY hL hx q9 (by omega) _ (by omega) (fun hf=> ?_) _ (fun bW=> by rw[if_neg (by omega)])) hs
  simp only[beq_iff_eq] at hf
  omega
 ·rename_i id path g' off n aw
  split at ah
  case h_2=> cases ah
  rename_i es ck
  split at ah
  case isFalse=> cases ah
  rename_i nE
  obtain ⟨ll,o,e,m',us,ty,fz,dv,ht,oj,hg,hz,df,hle,fp,cM,qw,qu,ic⟩:=hs.rowAt hL ck
  obtain ⟨rfl,k,heq,lR,hm⟩:=dK hx dv ht oj
  simp only[Value.slice.injEq] at heq
  obtain ⟨rfl,rfl,rfl⟩:=heq
  have fM:m≤cap:=by
    rcases nE with hf | hf
    ·omega
    ·cases m' with
     | none=> simp only[eL] at hm;have:=(qw rfl).1;omega
     | some n=> simp only[eL] at hm;have:=qu n rfl;omega
  rw[yf hu bP hl q9 wI fM]
  split at ah
  ·simp only[Option.some.injEq] at ah
   subst ah
   have e0:r - l=0:=by omega
   rw[e0]
   exact aJ.same rfl (eU (fun hf=> by omega)) hs
  ·simp only[Option.some.injEq] at ah
   subst ah
   exact aJ.same rfl ⟨[_],⟨_,rfl⟩,rfl⟩ hs
 ·cases ah
theorem PU (hL:L.OK) (hs:bc L c h w) {T:Nat} {el:TypeId} {g:Option Nat} (hu:P.underlying T=some (.slice el)) (bP:TG P L el g) {x:V} {ux:Value} (hx:RV L c x ux)
 {ul ur um:Option Value} {bs:List V} (hb:fC L c bs (ul.toList++ur.toList++um.toList)) {v:V} {h':Hp} (ah:fZ h g ul.isSome ur.isSome um.isSome x bs=some (v,h')):
 aJ L c w ((Instr.sliceAt T ux ul ur um).run P w) v h':=by
 simp only[fZ] at ah
 split at ah
 case h_2=> cases ah
 rename_i len hlen
 obtain ⟨a,k,rfl,lR⟩:=vZ hlen hx
 cases um with
 | none=>
   simp only[Option.isSome_none] at ah
   split at ah
   case h_2=> cases ah
   rename_i p q uB
   simp only[Option.toList_none,List.append_nil] at hb
   obtain ⟨h1,h2⟩:=iZ hb uB
   split at ah
   case h_2=> cases ah
   rename_i l r hl hr
   obtain ⟨v',hv',he⟩:=Option.map_eq_some_iff.1 ah
   simp only[Prod.mk.injEq] at he
   obtain ⟨rfl,rfl⟩:=he
   refine DU hL hs hu bP hx ?_ ?_ hv'
   ·rcases dN hl h1 with ⟨e1,_,e2⟩ | h3
    ·exact Or.inl ⟨e1,e2⟩
    ·exact Or.inr h3
   ·rcases dN hr h2 with ⟨e1,_,e2⟩ | h3
    ·exact Or.inl ⟨e1,e2⟩
    ·exact Or.inr h3
 | some um=>
   simp only[Option.isSome_some] at ah
   split at ah
   ·rename_i heq;cases heq
   ·rename_i y m h1 h2 _
    have e1:ul=none:=by cases ul <;> simp_all
    obtain ⟨ur',rfl⟩:∃u,ur=some u:=by cases ur <;> simp_all
    subst e1
    simp only[Option.toList_none,Option.toList_some,List.nil_append,List.cons_append] at hb
    split at ah
    case h_2=> cases ah
    rename_i r m' hr hm
    obtain ⟨v',hv',he⟩:=Option.map_eq_some_iff.1 ah
    simp only[Prod.mk.injEq] at he
    obtain ⟨rfl,rfl⟩:=he
    rcases dN (u:=some ur') hr hb.1 with ⟨e1,_⟩ | ⟨kr,e1⟩
    ·cases e1
    rcases dN (u:=some um) hm hb.2.1 with ⟨e2,_⟩ | ⟨km,e2⟩
    ·cases e2
    rw[e1,e2]
    exact sV hL hs hu bP hx (Or.inl ⟨rfl,rfl⟩) hv'
   ·rename_i z y m h1 h2 _
    obtain ⟨ul',rfl⟩:∃u,ul=some u:=by cases ul <;> simp_all
    obtain ⟨ur',rfl⟩:∃u,ur=some u:=by cases ur <;> simp_all
    simp only[Option.toList_some,List.nil_append,List.cons_append] at hb
    split at ah
    case h_2=> cases ah
    rename_i l r m' hl hr hm
    obtain ⟨v',hv',he⟩:=Option.map_eq_some_iff.1 ah
    simp only[Prod.mk.injEq] at he
    obtain ⟨rfl,rfl⟩:=he
    rcases dN (u:=some ul') hl hb.1 with ⟨e0,_⟩ | ⟨kl,e0⟩
    ·cases e0
    rcases dN (u:=some ur') hr hb.2.1 with ⟨e1,_⟩ | ⟨kr,e1⟩
    ·cases e1
    rcases dN (u:=some um) hm hb.2.2.1 with ⟨e2,_⟩ | ⟨km,e2⟩
    ·cases e2
    rw[e0,e1,e2]
    exact sV hL hs hu bP hx (Or.inr ⟨kl,rfl⟩) hv'
   ·cases ah
theorem yg {T n:Nat} {el:TypeId} {g:Option Nat} (hu:P.underlying T=some (.array n el)) (bP:TG P L el g) {b o l r:Nat} {ul ur:Option Value} (hl:(ul=none∧l=0)∨∃k,ul=some (.int k (l:Int)))
 (hr:(ur=none∧r=n)∨∃k,ur=some (.int k (r:Int))) (q9:l≤r) (fp:r≤n):
 (Instr.sliceAt T (.pointer (some ⟨b,o,none⟩)) ul ur none).run P w= .ok (.slice (some (if n=l then ⟨b,o,none⟩ else ⟨b,o+l * L.az g,none⟩)) (r - l) (n - l)) w:=by
 have hb:(Instr.sliceBounds false n n ul ur none).run P w= .ok (l,r,n) w:=by
   rcases hl with ⟨rfl,rfl⟩ | ⟨kl,rfl⟩<;> rcases hr with ⟨rfl,rfl⟩ | ⟨kr,rfl⟩<;> simp[Instr.sliceBounds,eE q9,eE fp]
 simp only[Instr.sliceAt,Instr.sureAddr,underlying,Sem.run_bind,run_program,Result.andThen_ok,hu,Sem.run_pure,hb,bP.sizeOf,eD]
theorem PV (hL:L.OK) (hs:bc L c h w) {T t n:Nat} {el:TypeId} {g:Option Nat} (hu:P.underlying T=some (.array n el)) (bP:TG P L el g) (ha:L.arr t=some (n,g)) {x:V} {ux:Value} (hx:RV L c x ux)
 {ul ur:Option Value} {bs:List V} (hb:fC L c bs (ul.toList++ur.toList)) {v:V} {h':Hp} (ah:qv h t g ul.isSome ur.isSome x bs=some (v,h')):
 aJ L c w ((Instr.sliceAt T ux ul ur none).run P w) v h':=by
 simp only[qv] at ah
 split at ah
 case h_2=> cases ah
 rename_i p q uB
 obtain ⟨h1,h2⟩:=iZ hb uB
 split at ah
 ·rename_i id path aw
  split at ah
  case h_2=> cases ah
  rename_i t' es hn
  split at ah
  case isFalse=> cases ah
  rename_i ht';subst ht'
  split at ah
  case h_2=> cases ah
  rename_i l r hl hr
  split at ah
  case isFalse=> cases ah
  rename_i hc
  obtain ⟨q9,hrn⟩:=hc
  obtain ⟨ll,j',pp,o,us,ty,fz,rfl,n9,ht,ho,⟨o',lH⟩,hg,hz,df,hle,fp⟩:=hs.nodeAt hL hn
  have DS:=iV hx n9 ht ho
  subst DS
  simp only[RC] at fp
  obtain ⟨e',oK,cM⟩:=fp.2
  rw[ha] at oK
  simp only[Option.some.injEq,Prod.mk.injEq] at oK
  obtain ⟨rfl,rfl⟩:=oK
  have Iq:o=j' * L.az ll.tag+o':=by
    simp only[cq.off,lH,Option.map_some,Option.some.injEq] at ho
    omega
  have ck:L.row ll.tag (j'::pp)=some (o,g,some es.length):=by simp only[cq.row,lH,V.ty,ha,Option.map_some,Iq]
  have dv:(ul=none∧l=0)∨∃k,ul=some (.int k (l:Int)):=by
    rcases dN hl h1 with ⟨e1,_,e2⟩ | h3
    ·exact Or.inl ⟨e1,e2⟩
    ·exact Or.inr h3
  have hr':(ur=none∧r=es.length)∨∃k,ur=some (.int k (r:Int)):=by
    rcases dN hr h2 with ⟨e1,_,e2⟩ | h3
    ·exact Or.inl ⟨e1,e2⟩
    ·exact Or.inr h3
  rw[yg hu bP dv hr' q9 hrn]
  split at ah
  ·rename_i fy
   simp only[Option.some.injEq,Prod.mk.injEq] at ah
   obtain ⟨rfl,rfl⟩:=ah
   have e1:(if es.length=l then (⟨ll.bq,o,none⟩:Addr) else ⟨ll.bq,o+l * L.az g,none⟩)=⟨ll.bq,o+l * L.az g,none⟩:=by
     split
     ·have:l=0:=by omega
      subst this;simp
     ·rfl
   rw[e1]
   exact aJ.same rfl (mE hs n9 ht ck (by omega) (by simp only[eL];omega)) hs
  ·simp only[Option.some.injEq,Prod.mk.injEq] at ah
   obtain ⟨rfl,rfl⟩:=ah
   have e0:r - l=0:=by omega
   rw[e0]
   exact aJ.same rfl (eU (fun _=> by omega)) hs
 ·rename_i t' es
  split at ah
  case isFalse=> cases ah
  rename_i ht';subst ht'
  split at ah
  case h_2=> cases ah
  rename_i l r hl hr
  split at ah
  case isFalse=> cases ah
  rename_i hc
  obtain ⟨q9,hrn⟩:=hc
  simp only[Option.some.injEq,Prod.mk.injEq] at ah
  obtain ⟨rfl,rfl⟩:=ah
  obtain ⟨b,off,cs,ty,fz,rfl,hz,fp⟩:=fR.1 hx
  simp only[RC] at fp
  obtain ⟨fp,e',oK,cM⟩:=fp
  rw[ha] at oK
  simp only[Option.some.injEq,Prod.mk.injEq] at oK
  obtain ⟨rfl,rfl⟩:=oK
  have dv:(ul=none∧l=0)∨∃k,ul=some (.int k (l:Int)):=by
    rcases dN hl h1 with ⟨e1,_,e2⟩ | h3
    ·exact Or.inl ⟨e1,e2⟩
    ·exact Or.inr h3
  have hr':(ur=none∧r=es.length)∨∃k,ur=some (.int k (r:Int)):=by
    rcases dN hr h2 with ⟨e1,_,e2⟩ | h3
    ·exact Or.inl ⟨e1,e2⟩
    ·exact Or.inr h3
  rw[yg hu bP dv hr' q9 hrn]
  have cI:L.az (V.ty (.arr t' es))=es.length * L.az g:=by simp[V.ty,cq.az,hL.ar _ _ _ ha]
  rw[cI] at fp
  have cJ:RV L c (.al true g es) (.slice (some ⟨b,off,none⟩) es.length es.length):=cU.2 ⟨_,_,rfl,Nat.le_refl _,fun _=> rfl,cM,Or.inr ⟨b,off,cs,ty,fz,rfl,hz,fp⟩⟩
  refine aJ.same rfl (vY hL cJ q9 hrn _ (by omega) (fun hf=> ?_) _ (fun bW=> by rw[if_neg (by omega)];simp[eD])) hs
  simp only[beq_iff_eq] at hf;omega
 ·cases ah
theorem PW (hs:bc L c h w) {T:Nat} (hu:P.underlying T=some .string) {x:V} {ux:Value} (hx:RV L c x ux)
 {ul ur:Option Value} {bs:List V} (hb:fC L c bs (ul.toList++ur.toList)) {v:V} {h':Hp} (ah:uP h ul.isSome ur.isSome x bs=some (v,h')):
 aJ L c w ((Instr.sliceAt T ux ul ur none).run P w) v h':=by
 simp only[uP] at ah
 split at ah
 case h_2=> cases ah
 rename_i s p q uB
 obtain ⟨h1,h2⟩:=iZ hb uB
 split at ah
 case h_2=> cases ah
 rename_i l r hl hr
 split at ah
 case isFalse=> cases ah
 rename_i hc
 obtain ⟨q9,hrn⟩:=hc
 simp only[js,Option.some.injEq,Prod.mk.injEq] at ah
 obtain ⟨rfl,rfl⟩:=ah
 obtain ⟨rfl,_⟩:=bx.1 hx
 have hbd:(Instr.sliceBounds false s.size s.size ul ur none).run P w= .ok (l,r,s.size) w:=by
   rcases dN hl h1 with ⟨rfl,_,rfl⟩ | ⟨kl,rfl⟩<;> rcases dN hr h2 with ⟨rfl,_,rfl⟩ | ⟨kr,rfl⟩<;> simp[Instr.sliceBounds,eE q9,eE hrn]
 refine aJ.same (u:= .string (s.extract l r)) ?_ (bx.2 ⟨rfl,rfl⟩) hs
 simp only[Instr.sliceAt,Instr.slice,underlying,Sem.run_bind,run_program,Result.andThen_ok,hu,Sem.run_pure,Option.isSome_none,Bool.false_eq_true,if_false,hbd]
end Go.Vm
namespace Go.Vm
variable {P : Program} {L : cq} {c : Ctx} {h : Hp} {w : World}
structure Src (P:Program) (L:cq) (c:Ctx) (w:World) (g:Option Nat) (ys:List V) (u:Value) (us:List Value):Prop where
 len:(Builtin.lenOf u).run P w= .ok ys.length w
 first:∀(w':World) (n:Nat),w'.heap=w.heap→n≤ys.length→(Builtin.firstCells (L.az g) n u).run P w'= .ok (us.take (n * L.az g)).toArray w'
 rc:bV L c ys us
 el:∀y∈ys,y.ty=g∧y.ax=true
theorem AD {w w':World} (hw:w'.heap=w.heap) (a:Addr):w'.cell? a=w.cell? a:=by simp[World.cell?,hw]
theorem eF (s:ByteArray):(dM s).length=s.size:=by simp[dM]
theorem qK (s:ByteArray):bV L c (dM s) (s.data.toList.map fun b=> Value.int .u8 b.toNat):=by
 unfold dM
 induction s.data.toList with
 | nil=> simp[bV]
 | cons b l ih=> exact ⟨[Value.int .u8 b.toNat],_,rfl,by simp[aa,RC,Value.oneCell'],ih⟩
theorem mM (s:ByteArray):∀y∈dM s,y.ty=none∧y.ax=true:=fun y hy=> by
 simp only[dM,List.mem_map] at hy
 obtain ⟨b,_,rfl⟩:=hy
 exact ⟨rfl,rfl⟩
theorem ni (hL:L.OK) (hs:bc L c h w) {x:V} {u:Value} (hx:RV L c x u) {g:Option Nat} {ys:List V} (he:source h x=some (g,ys)):∃us,Src P L c w g ys u us:=by
 unfold source at he
 split at he
 ·rename_i s
  simp only[Option.some.injEq,Prod.mk.injEq] at he
  obtain ⟨rfl,rfl⟩:=he
  obtain ⟨rfl,_⟩:=bx.1 hx
  refine ⟨_,⟨by simp[Builtin.lenOf,eF],fun w' n hw hn=> ?_,qK s,mM s⟩⟩
  simp only[Builtin.firstCells,cq.az,Sem.run_pure]
  congr 1
  apply Array.ext'
  have cI:s.data.toList.length=s.size:=by simp
  simp[ByteArray.data_extract,List.map_take]
 ·obtain ⟨a,k,rfl,lR,bP,fy⟩:=pf hL hs hx he
  rcases fy with rfl | ⟨b,o,us,ty,fz,rfl,hg,hr⟩
  ·refine ⟨[],⟨by simp[Builtin.lenOf],fun w' n hw hn=> ?_,by simp[bV],bP⟩⟩
   obtain rfl:n=0:=by simpa using hn
   cases a <;> simp[Builtin.firstCells,loadCells,loadCellsFrom]
  ·refine ⟨_,⟨by simp[Builtin.lenOf],fun w' n hw hn=> ?_,hr,bP⟩⟩
   have hlen:=q8z hL hr (fun y hy=>(bP y hy).1)
   have hmul:n * L.az g≤ys.length * L.az g:=Nat.mul_le_mul_right _ hn
   refine run_firstCells_some (P:=P) w' (L.az g) n ⟨b,o,none⟩ _ _ _ (by rw[List.length_take,hlen];omega) (fun j v hj=> ?_)
   rw[AD hw]
   refine na hL hg hr (fun y hy=>(bP y hy).1) j v ?_
   rw[List.getElem?_take] at hj
   split at hj
   ·exact hj
   ·cases hj
theorem tN (w:World) (need dw:Nat) (e:TypeId):need≤grownCap w need dw e:=grownCap_ge w need dw e
theorem v9 {T T2 el:TypeId} {i:TypeInfo} (ht:P.underlying T=some (.slice el)) (hi:P.info? el=some i) (h2:(∃e2,P.underlying T2=some (.slice e2))∨P.underlying T2=some .string) {ty:TypeId} {g:Option Nat} (cI:i.size=L.az g)
 {base:Option Addr} {sLen sCap:Nat} {u:Value} {ys:List V} {us:List Value} (kV:Src P L c w g ys u us) (fL:sLen+ys.length≤sCap) (w':World)
 (aR:(match base with | some a=>(storeCells (a.add (sLen * L.az g)) (us.take (ys.length * L.az g))).run P w | none=> .ok () w)= .ok () w'):
 (Builtin.append_ #[T,T2] ty #[.slice base sLen sCap,u]).run P w= .ok (.slice base (sLen+ys.length) sCap) w':=by
 have hf:=kV.first w ys.length rfl (Nat.le_refl _)
 rcases h2 with ⟨e2,hd⟩ | hd
 all_goals
   cases base with
   | none=>
     simp only[Result.ok.injEq,true_and] at aR
     subst aR
     simp[Builtin.append_,run_underlying ht,run_underlying hd,sizeOf,typeInfo,hi,cI,kV.len,fL,hf]
   | some a=>
     simp only at aR
     simp[Builtin.append_,run_underlying ht,run_underlying hd,sizeOf,typeInfo,hi,cI,kV.len,fL,hf,aR]
theorem wa {T T2 el:TypeId} {i:TypeInfo} {z:Value} (ht:P.underlying T=some (.slice el)) (hi:P.info? el=some i) (hzero:i.zero=some z) (h2:(∃e2,P.underlying T2=some (.slice e2))∨P.underlying T2=some .string) {ty:TypeId} {g:Option Nat} (cI:i.size=L.az g)
 {base:Option Addr} {sLen sCap:Nat} {olds:List Value} (hold:(Builtin.firstCells (L.az g) sLen (.slice base sLen sCap)).run P w.drew= .ok olds.toArray w.drew)
 {u:Value} {ys:List V} {us:List Value} (kV:Src P L c w g ys u us) (Cd:us.length=ys.length * L.az g) (fL:sCap < sLen+ys.length) (hlen:(sLen+ys.length)* i.bytes≤140737488355328) (h63:sLen+ys.length≤9223372036854775807):
 (Builtin.append_ #[T,T2] ty #[.slice base sLen sCap,u]).run P w= .ok (.slice (some ⟨w.heap.size,0,none⟩) (sLen+ys.length) (grownCap w (sLen+ys.length) sCap el))
   (w.drew.alloc (.cells (olds++us++(Builtin.zeroCells z.cells (grownCap w (sLen+ys.length) sCap el - (sLen+ys.length))).toList).toArray el)):=by
 have hf:=kV.first w.drew ys.length rfl (Nat.le_refl _)
 rw[←Cd,List.take_length] at hf
 have hn:¬(sLen+ys.length≤sCap):=by omega
 have h63':¬(9223372036854775807 <((sLen:Int)+(ys.length:Int))):=by omega
 have nE:=growslice_fits (need:=sLen+ys.length) fL hlen
 have h48':¬(281474976710656 < Builtin.nextslicecap (sLen+ys.length) sCap * i.bytes):=by omega
 rcases h2 with ⟨e2,hd⟩ | hd
 all_goals
   simp[Builtin.append_,run_underlying ht,run_underlying hd,sizeOf,typeInfo,zeroValue,hi,cI,kV.len,hzero,hn,h63',h48',Question.forced,hf,hold,newRow,grownCap]
   congr 2
   apply Array.ext'
   simp[List.append_assoc]
theorem iJ (hL:L.OK) (hs:bc L c h w) {id:Nat} {g:Option Nat} {l:Loc} {us:Array Value} {ty:TypeId} {fz:Nat×Nat} (hl:c.loc id=some l) (bZ:l.tag=g) (hz:c.z l.bq=none) (hg:w.heap[l.bq]? =some (.cells us ty fz))
 (df:Ih g us.size fz) (cI:us.size=l.cap * L.az g) {es':List V} (cM:∀y∈es',y.ty=g∧y.ax=true) (hlen:l.aw≤es'.length) (fM:es'.length≤l.cap) {o:Nat} {vs:List Value} (ho:o+vs.length≤us.size)
 (hr:bV L c es' ((lay us.toList o vs).take (es'.length * L.az g))):
 ∃l',l'= {l with aw:=es'.length}∧bc L (c.move id l') (h.set id (.cells g es')) (w.setCells l.bq o vs)∧c.le (c.move id l')∧(c.move id l').loc id=some l':=by
 have hle:c.le (c.move id {l with aw:=es'.length}):=Ctx.vQ c id l _ hl rfl hlen (fun _=>⟨rfl,rfl⟩)
 refine ⟨_,rfl,?_,hle,by simp[Ctx.move]⟩
 have pj:(lay us.toList o vs).length=us.size:=by rw[dW _ _ _ (by simpa using ho)];simp
 refine hs.move hl _ hle hz (Or.inl rfl) (fun b hb tI=> q13z l.bq _ _ _ b tI) (fun o' jK=> by rw[hz] at jK;cases jK) ?_
 exact ⟨bZ,rfl,fM,cM,_,ty,fz,dy l.bq ty fz vs o us w hg ho,by simpa[pj] using cI,⟨fun j hj=> df.1 j (by simpa[pj] using hj),df.2⟩,by simpa using hr.mono hle⟩
theorem mC (hL:L.OK) {es ys:List V} {us vs:List Value} {g:Option Nat} (h1:bV L c es us) (h2:bV L c ys vs) (he:∀y∈es,y.ty=g) (hy:∀y∈ys,y.ty=g) {n:Nat} (hn:n+ys.length≤es.length):
 bV L c (es.take n++ys++es.drop (n+ys.length)) (lay us (n * L.az g) vs):=by
 have hv:=q8z hL h2 hy
 have a:=(eM hL h1 he n (by omega)).1
 have b:=(eM hL h1 he (n+ys.length) hn).2
 rw[List.append_assoc]
 refine dX.2 ⟨_,_,rfl,a,dX.2 ⟨_,_,rfl,h2,?_⟩⟩
 rw[hv,←Nat.add_mul];exact b
theorem gI {us vs:List Value} {a b:Nat} (h:a+vs.length≤us.length) (hb:a+vs.length=b):(lay us a vs).take b=us.take a++vs:=by
 simp only[lay]
 rw[←List.append_assoc,List.take_append_of_le_length (by simp;omega),List.take_of_length_le (by simp;omega)]
structure Apd (P:Program) (L:cq) (c:Ctx) (w:World) (T T2 ty el:TypeId) (i:TypeInfo) (g:Option Nat) (ys:List V) (u:Value) (us:List Value):Prop where
 room:∀(base:Option Addr) (sLen sCap:Nat) (w':World),sLen+ys.length≤sCap→(match base with | some a=>(storeCells (a.add (sLen * L.az g)) (us.take (ys.length * L.az g))).run P w | none=> .ok () w)= .ok () w'→
   (Builtin.append_ #[T,T2] ty #[.slice base sLen sCap,u]).run P w= .ok (.slice base (sLen+ys.length) sCap) w'
 grow:∀(z:Value),i.zero=some z→∀(base:Option Addr) (sLen sCap:Nat) (olds:List Value),(Builtin.firstCells (L.az g) sLen (.slice base sLen sCap)).run P w.drew= .ok olds.toArray w.drew→us.length=ys.length * L.az g→sCap < sLen+ys.length→(sLen+ys.length)* i.bytes≤140737488355328→sLen+ys.length≤9223372036854775807→
   (Builtin.append_ #[T,T2] ty #[.slice base sLen sCap,u]).run P w= .ok (.slice (some ⟨w.heap.size,0,none⟩) (sLen+ys.length) (grownCap w (sLen+ys.length) sCap el))
     (w.drew.alloc (.cells (olds++us++(Builtin.zeroCells z.cells (grownCap w (sLen+ys.length) sCap el - (sLen+ys.length))).toList).toArray el))
 rc:bV L c ys us
 el:∀y∈ys,y.ty=g∧y.ax=true
theorem Src.apd {T T2 ty el:TypeId} {i:TypeInfo} {g:Option Nat} {ys:List V} {u:Value} {us:List Value} (ht:P.underlying T=some (.slice el)) (hi:P.info? el=some i) (h2:(∃e2,P.underlying T2=some (.slice e2))∨P.underlying T2=some .string) (cI:i.size=L.az g) (hs:Src P L c w g ys u us):
 Apd P L c w T T2 ty el i g ys u us:=
 ⟨fun _ _ _ w' hr aR=> v9 ht hi h2 cI hs hr w' aR,fun z hz _ _ _ _ ho hf hr hl h63=> wa ht hi hz h2 cI ho hs hf hr hl h63,hs.rc,hs.el⟩
theorem DV (z:Array Value) (n:Nat):(Builtin.zeroCells z n).toList=(List.replicate n z.toList).flatten:=iK z n
theorem DW (hL:L.OK) {T T2 ty el:TypeId} {i:TypeInfo} {z:Value} {g:Option Nat} {zv:V} {kd:IntKind} (ht:P.underlying T=some (.slice el)) (hi:P.info? el=some i) (oy:i.zero=some z) (oL:∀c,RV L c zv z) (iT:zv.ty=g) (gZ:zv.ax=true) (h2:P.underlying T2=some (.int kd)) (cI:i.size=L.az g) (mX:0 < i.bytes) {k:Nat} (hk:k * i.bytes≤140737488355328):
 Apd P L c w T T2 ty el i g (List.replicate k zv) (.int .i64 k) (Builtin.zeroCells z.cells k).toList:=by
 have tL:=(oL c).aQ hL gZ
 rw[iT] at tL
 have Dd:k≤140737488355328:=Nat.le_trans (Nat.le_mul_of_pos_right _ mX) hk
 have fp:bV L c (List.replicate k zv) (Builtin.zeroCells z.cells k).toList:=by
   rw[DV];exact dY ((oL c).cells gZ).1 k
 have bP:∀y∈List.replicate k zv,y.ty=g∧y.ax=true:=fun y hy=> by rw[List.eq_of_mem_replicate hy];exact ⟨iT,gZ⟩
 have hlen:=q8z hL fp (fun q hq=>(bP q hq).1)
 have iy:IntKind.i64.wrap (k:Int)=k:=IntWalk.i64_in _ (by omega)
 have yh:¬((k:Int)< 0):=by omega
 have h48:¬((2:Int)^ 48 <(k:Int)*(i.bytes:Int)):=by
   have:((k * i.bytes:Nat):Int)≤140737488355328:=Int.ofNat_le.2 hk
   rw[Int.natCast_mul] at this
   omega
 have h48b:¬((281474976710656:Int)<(k:Int)*(i.bytes:Int)):=by
   have:((k * i.bytes:Nat):Int)≤140737488355328:=Int.ofNat_le.2 hk
   rw[Int.natCast_mul] at this
   omega
 have np:k * L.az g=0→(Builtin.zeroCells z.cells k)= #[]:=fun h0=> by
   apply Array.eq_empty_of_size_eq_zero
   rw[List.length_replicate] at hlen
   rw[←Array.length_toList,hlen,h0]
 refine ⟨fun base sLen sCap w' hr aR=> ?_,fun z' Ch base sLen sCap olds hold Yu fL hl h63=> ?_,fp,bP⟩
 ·simp only[List.length_replicate] at hr aR ⊢
  have gB:(match base with | some a=>(storeCells (a.add (sLen * L.az g)) (Builtin.zeroCells z.cells k).toList).run P w | none=> .ok () w)= .ok () w':=by
    have:(Builtin.zeroCells z.cells k).toList.take (k * L.az g)=(Builtin.zeroCells z.cells k).toList:=by
      rw[List.take_of_length_le];rw[hlen];simp
    rwa [this] at aR
  cases base with
  | none=>
    simp only[Result.ok.injEq,true_and] at gB
    subst gB
    by_cases h0:k * L.az g=0
    ·simp[Builtin.append_,run_underlying ht,run_underlying h2,sizeOf,typeInfo,zeroValue,hi,cI,oy,asInt,asIntOf,iy,yh,h48,h48b,hr,h0]
    ·simp[Builtin.append_,run_underlying ht,run_underlying h2,sizeOf,typeInfo,zeroValue,hi,cI,oy,asInt,asIntOf,iy,yh,h48,h48b,hr,h0]
  | some a=>
    simp only at gB
    by_cases h0:k * L.az g=0
    ·rw[np h0] at gB
     simp[Builtin.append_,run_underlying ht,run_underlying h2,sizeOf,typeInfo,zeroValue,hi,cI,oy,asInt,asIntOf,iy,yh,h48,h48b,hr,h0,gB]
    ·simp[Builtin.append_,run_underlying ht,run_underlying h2,sizeOf,typeInfo,zeroValue,hi,cI,oy,asInt,asIntOf,iy,yh,h48,h48b,hr,h0,gB]
 ·rw[oy] at Ch
  cases Ch
  simp only[List.length_replicate] at Yu fL hl h63 ⊢
  have hn:¬(sLen+k≤sCap):=by omega
  have h63':¬(9223372036854775807 <((sLen:Int)+(k:Int))):=by omega
  have nE:=growslice_fits (need:=sLen+k) fL hl
  have h48':¬(281474976710656 < Builtin.nextslicecap (sLen+k) sCap * i.bytes):=by omega
  by_cases h0:k * L.az g=0
  ·rw[np h0]
   simp[Builtin.append_,run_underlying ht,run_underlying h2,sizeOf,typeInfo,zeroValue,hi,cI,oy,asInt,asIntOf,iy,yh,h48,h48b,hn,h63',h48',Question.forced,hold,newRow,grownCap,h0]
   try (congr 2;apply Array.ext';simp[List.append_assoc])
  ·simp[Builtin.append_,run_underlying ht,run_underlying h2,sizeOf,typeInfo,zeroValue,hi,cI,oy,asInt,asIntOf,iy,yh,h48,h48b,hn,h63',h48',Question.forced,hold,newRow,grownCap,h0]
   try (congr 2;apply Array.ext';simp[List.append_assoc])
set_option maxHeartbeats 1000000 in
theorem mN (hL:L.OK) (hs:bc L c h w) {T T2 el:TypeId} {i:TypeInfo} {g:Option Nat} {zv:V} (ht:P.underlying T=some (.slice el)) (bP:TG P L el g) (hi:P.info? el=some i) (hz:er P L el zv) (iT:zv.ty=g) (gZ:zv.ax=true)
 {ty:TypeId} (mX:0 < i.bytes) {x:V} {ux uy:Value} (hx:RV L c x ux) {base:Nat} {v:V} {h':Hp} {gy:Option Nat} {ys:List V} {us:List Value} (src:Apd P L c w T T2 ty el i gy ys uy us) (ah:cT base g i.bytes h x gy ys=some (v,h')):
 aJ L c w ((Builtin.append_ #[T,T2] ty #[ux,uy]).run P w) v h':=by
 obtain ⟨i',vX,pk⟩:=bP.info
 rw[hi] at vX;cases vX
 obtain ⟨i2,z,pN,oy,oL⟩:=hz
 rw[hi] at pN;cases pN
 have tL:=(oL c).aQ hL gZ
 rw[iT] at tL
 have po:=q8z hL src.rc (fun q hq=>(src.el q hq).1)
 unfold cT at ah
 split at ah
 ·rename_i np
  subst np
  obtain ⟨n,hn,he⟩:=Option.map_eq_some_iff.1 ah
  simp only[Prod.mk.injEq] at he
  obtain ⟨rfl,rfl⟩:=he
  obtain ⟨a,k,rfl,lR⟩:=vZ hn hx
  have AE:us=[]:=by simpa[bV] using src.rc
  subst AE
  have bb:=src.room a n k w (by simpa using lR) (by cases a <;> simp[storeCells])
  simp only[List.length_nil,Nat.add_zero] at bb
  exact aJ.same bb hx hs
 rename_i cD
 have gq:0 < ys.length:=List.length_pos_iff.2 cD
 split at ah
 case isFalse=> cases ah
 rename_i hgy
 subst hgy
 have PX:∀n,n * i.bytes≤140737488355328→n≤140737488355328:=fun n hn=> by
   have:=Nat.le_mul_of_pos_right n mX;omega
 have grow:∀(es:List V) (a:Option Addr) (sCap:Nat) (olds:List Value),bV L c es olds→(∀q∈es,q.ty=gy∧q.ax=true)→(Builtin.firstCells (L.az gy) es.length (.slice a es.length sCap)).run P w.drew= .ok olds.toArray w.drew→sCap < es.length+ys.length→(es.length+ys.length)* i.bytes≤140737488355328→
  ∃(l:Loc) (k:Nat) (w':World),(Builtin.append_ #[T,T2] ty #[.slice a es.length sCap,uy]).run P w= .ok (.slice (some ⟨l.bq,0,none⟩) (es.length+ys.length) k) w'∧l.bq=w.heap.size∧l.cap=k∧l.tag=gy∧l.aw=es.length+ys.length∧es.length+ys.length≤k∧St w w'∧
   w'=w.drew.alloc (.cells (olds++us++(Builtin.zeroCells z.cells (k - (es.length+ys.length))).toList).toArray el):=by
   intro es a sCap olds oj cM hold bW mL
   have bb:=src.grow z oy a es.length sCap olds hold po bW mL (by have:=PX _ mL;omega)
   exact ⟨⟨w.heap.size,_,gy,es.length+ys.length⟩,_,_,bb,rfl,rfl,rfl,rfl,tN w _ _ _,(St.drew w).trans (St.alloc _ _),rfl⟩
 split at ah
 ·rename_i g' es
  split at ah
  case isFalse=> cases ah
  rename_i hc
  obtain ⟨rfl,mL⟩:=hc
  simp only[Option.some.injEq,Prod.mk.injEq] at ah
  obtain ⟨rfl,rfl⟩:=ah
  obtain ⟨a,k0,rfl,h1,Cd,cM,fy⟩:=cU.1 hx
  have hk0:=Cd rfl
  subst hk0
  obtain ⟨olds,so⟩:=ni (P:=P) hL hs hx (g:=g') (ys:=es) (by simp[source,elems])
  have oj:=so.rc
  have qL:=q8z hL oj (fun q hq=>(cM q hq).1)
  have hold:=so.first w.drew es.length rfl (Nat.le_refl _)
  rw[←qL,List.take_length] at hold
  obtain ⟨l,k,w',bb,hb,fM,bZ,cC,hnk,aR,lH⟩:=grow es a es.length olds oj cM hold (by omega) mL
  have cJ:bV L c (es++ys) (olds++us):=dX.2 ⟨_,_,rfl,oj,src.rc⟩
  obtain ⟨l2,xz,uY,B2,Nk,dh,Bw⟩:=iY hL hs.drew cJ (fun q hq=> by rcases List.mem_append.1 hq with hq | hq;exact cM q hq;exact src.el q hq) k (Builtin.zeroCells z.cells (k - (es.length+ys.length))).toList
    (by
      simp only[List.length_append,qL,po,Array.length_toList,size_zeroCells]
      simp only[Array.length_toList] at tL
      rw[tL,←Nat.add_mul,←Nat.add_mul];congr 1;omega) (by simpa using hnk) el (0,0) ⟨by intro j hj;omega,fun _=> rfl⟩
  refine ⟨_,c.push l2,w',bb,?_,by rw[lH];exact dh,c.gJ l2,aR⟩
  have vU:l.bq=l2.bq:=by rw[hb,xz];rfl
  rw[vU]
  have:=eS (es:=es++ys) hL dh Bw B2 Nk k (by simpa using hnk) (by omega)
  simpa using this
 ·rename_i id g' off len aw
  split at ah
  case h_2=> cases ah
  rename_i g'' es ck
  split at ah
  case isFalse=> cases ah
  rename_i hc
  obtain ⟨rfl,rfl,fk⟩:=hc
  obtain ⟨l,hl,cC,bZ,hz,lU,xz,hb3,cM,us0,ty0,fz0,hg,cI,df,fp⟩:=hs.row ck
  have nD:=(q16z ck).2
  obtain ⟨he,k,rfl,lR,hm⟩:=dK hx hl cC (path:=[]) (o:=0) (e:=l.tag) (m:=none) rfl
  simp only[Nat.zero_add] at lR hm ⊢
  simp only[eL] at hm
  obtain ⟨qw,qu,Hw⟩:=hm
  have fS:∀n,n≤l.cap→n * L.az g''≤us0.size:=fun n hn=> by rw[cI];exact Nat.mul_le_mul_right _ hn
  have mO:∀n,n+ys.length≤l.cap→(storeCells (⟨l.bq,n * L.az g'',none⟩:Addr) (us.take (ys.length * L.az g''))).run P w= .ok () (w.setCells l.bq (n * L.az g'') us):=by
    intro n hn
    rw[←po,List.take_length]
    have nE:n * L.az g''+us.length≤us0.size:=by rw[po,←Nat.add_mul];exact fS _ hn
    have vW:∀q∈us,q.oneCell'=true:=dr (fun v _=> dS v) (fun v hv=>(src.el v hv).2) us src.rc
    have:=run_storeCells_cells (P:=P) l.bq (n * L.az g'') us 0 w (fun j hj=> by rw[q15z hg];simp;omega) (fun j hj=> eo hg df.1 (by omega)) vW
    simpa using this
  split at ah
  ·rename_i nE
   simp only[Option.some.injEq,Prod.mk.injEq] at ah
   obtain ⟨rfl,rfl⟩:=ah
   have fL:len+ys.length≤k:=by omega
   have uY:off+len+ys.length≤l.cap:=by omega
   have nO:(off+len)* L.az g''+us.length≤us0.size:=by rw[po,←Nat.add_mul];exact fS _ uY
   have bb:=src.room (some ⟨l.bq,off * L.az g'',none⟩) len k (w.setCells l.bq ((off+len)* L.az g'') us) fL
     (by simp only[eD,←Nat.add_mul];exact mO _ uY)
   have ir:=mC hL fp src.rc (fun q hq=>(cM q hq).1) (fun q hq=>(src.el q hq).1) (n:=off+len) (by omega)
   have wL:(es.take (off+len)++ys++es.drop (off+len+ys.length)).length=es.length:=by simp;omega
   have AF:lay (us0.toList.take (es.length * L.az g'')) ((off+len)* L.az g'') us=(lay us0.toList ((off+len)* L.az g'') us).take (es.length * L.az g''):=
     (mD _ _ _ _ (by rw[po,←Nat.add_mul];exact Nat.mul_le_mul_right _ (by omega)) (by have:=fS _ hb3;simpa using this)).symm
   rw[AF] at ir
   obtain ⟨l',dv,dh,hle,vR⟩:=iJ hL hs hl bZ hz hg df cI (es':=es.take (off+len)++ys++es.drop (off+len+ys.length)) (fun q hq=> by
     rcases List.mem_append.1 hq with hq | hq
     ·rcases List.mem_append.1 hq with hq | hq
      ·exact cM q (List.mem_of_mem_take hq)
      ·exact src.el q hq
     ·exact cM q (List.mem_of_mem_drop hq)) (by omega) (by omega) nO (by rw[wL];exact ir)
   refine ⟨_,_,_,bb,?_,dh,hle,St.setCells _ _ _ _⟩
   have:=mE dh (id:=id) (aw:=aw) (off:=off) (len:=len+ys.length) (k:=k) (path:=[]) (m:=none) (o:=0) (e:=l'.tag) vR (by rw[dv];simp;omega) rfl fL (by subst dv;simp only[eL];omega)
   subst dv
   simp only[Nat.zero_add,bZ] at this ⊢
   exact this
  ·rename_i YT
   split at ah
   case isFalse=> cases ah
   rename_i hc
   simp only[Option.some.injEq,Prod.mk.injEq] at ah
   obtain ⟨rfl,rfl⟩:=ah
   obtain ⟨rfl,rfl,mL⟩:=hc
   simp only[Nat.zero_mul] at ⊢
   have cJ:bV L c (es++ys) (us0.toList.take (es.length * L.az g'')++us):=dX.2 ⟨_,_,rfl,fp,src.rc⟩
   have jJ:∀q∈es++ys,q.ty=g''∧q.ax=true:=fun q hq=> by rcases List.mem_append.1 hq with hq | hq;exact cM q hq;exact src.el q hq
   by_cases fL:len+ys.length≤k
   ·have uY:len+ys.length≤l.cap:=by omega
    have nO:len * L.az g''+us.length≤us0.size:=by rw[po,←Nat.add_mul];exact fS _ uY
    have bb:=src.room (some ⟨l.bq,0,none⟩) len k (w.setCells l.bq (len * L.az g'') us) fL
      (by simp only[eD,Nat.zero_add];exact mO _ uY)
    obtain ⟨l',dv,dh,hle,vR⟩:=iJ hL hs hl bZ hz hg df cI (es':=es++ys) jJ (by simp;omega) (by simp;omega) nO (by
      rw[gI (by simpa using nO) (by rw[List.length_append,po,Nat.add_mul,nD])]
      rw[←nD];exact cJ)
    refine ⟨_,_,_,bb,?_,dh,hle,St.setCells _ _ _ _⟩
    have:=mE dh (id:=id) (aw:=len+ys.length) (off:=0) (len:=len+ys.length) (k:=k) (path:=[]) (m:=none) (o:=0) (e:=l'.tag) vR (by rw[dv];simp;omega) rfl fL (by subst dv;simp only[eL];omega)
    subst dv
    simp only[Nat.zero_add,Nat.zero_mul,bZ] at this ⊢
    exact this
   ·have oj:bV L c es (us0.toList.take (es.length * L.az g'')):=fp
    have qL:=q8z hL oj (fun q hq=>(cM q hq).1)
    obtain ⟨olds,so⟩:=ni (P:=P) hL hs hx (g:=g'') (ys:=es) (by
      have Ns:=ck
      rw[←nD] at Ns
      simp[source,elems,rowAt,←nD,Ns])
    have oj:=so.rc
    have qL:=q8z hL oj (fun q hq=>(cM q hq).1)
    have hold:=so.first w.drew es.length rfl (Nat.le_refl _)
    rw[←qL,List.take_length] at hold
    have V2:len=es.length:=by omega
    subst V2
    simp only[Nat.zero_add,Nat.zero_mul] at hold
    obtain ⟨l3,k3,w',bb,Hd,V3,xP,Nt,hnk,aR,lH⟩:=grow es (some ⟨l.bq,0,none⟩) k olds oj cM hold (by omega) mL
    have V4:bV L c (es++ys) (olds++us):=dX.2 ⟨_,_,rfl,oj,src.rc⟩
    have hle:c.le (c.move id l3):=Ctx.vQ c id l l3 hl (by rw[bZ,xP]) (by omega) (fun he=> by omega)
    have hzn:c.z l3.bq=none:=by rw[Hd];exact hs.qF
    have dh:bc L (c.move id l3) (h.set id (.cells g'' (es++ys))) w':=by
      refine hs.move hl _ hle hzn (Or.inr (by omega)) (fun b hb tI=> ?_) (fun o' jK=> by rw[hz] at jK;cases jK) ?_
      ·rw[lH];exact gT (w:=w.drew) hb
      ·refine ⟨xP,by simp[Nt],by simp;omega,jJ,(olds++us++(Builtin.zeroCells z.cells (k3 - (es.length+ys.length))).toList).toArray,el,(0,0),?_,?_,⟨by intro j hj;omega,fun _=> rfl⟩,?_⟩
       ·rw[lH,Hd];exact iS (w:=w.drew)
       ·simp only[List.size_toArray,List.length_append,qL,po,Array.length_toList,size_zeroCells]
        simp only[Array.length_toList] at tL
        rw[tL,←Nat.add_mul,←Nat.add_mul,V3];congr 1;omega
       ·have:((olds++us++(Builtin.zeroCells z.cells (k3 - (es.length+ys.length))).toList).take ((es++ys).length * L.az g''))=olds++us:=by
          rw[List.take_append_of_le_length (by simp only[List.length_append,qL,po,Nat.add_mul];omega),List.take_of_length_le (by simp only[List.length_append,qL,po,Nat.add_mul];omega)]
        simp only[List.toList_toArray,this]
        exact V4.mono hle
    have vR:(c.move id l3).loc id=some l3:=by simp[Ctx.move]
    refine ⟨_,_,_,bb,?_,dh,hle,aR⟩
    have:=mE dh (id:=id) (aw:=es.length+ys.length) (off:=0) (len:=es.length+ys.length) (k:=k3) (path:=[]) (m:=none) (o:=0) (e:=l3.tag) vR Nt rfl hnk (by simp only[eL];omega)
    simpa only[Nat.zero_add,Nat.zero_mul,xP] using this
 ·cases ah
theorem Aw (hL:L.OK) (hs:bc L c h w) {T T2 el:TypeId} {i:TypeInfo} {g:Option Nat} {zv:V} (ht:P.underlying T=some (.slice el)) (bP:TG P L el g) (hi:P.info? el=some i) (hz:er P L el zv) (iT:zv.ty=g) (gZ:zv.ax=true)
 (h2:(∃e2,P.underlying T2=some (.slice e2))∨P.underlying T2=some .string) {ty:TypeId} (mX:0 < i.bytes) {x y:V} {ux uy:Value} (hx:RV L c x ux) (hy:RV L c y uy) {base:Nat} {v:V} {h':Hp} (ah:nF base h g i.bytes x y=some (v,h')):
 aJ L c w ((Builtin.append_ #[T,T2] ty #[ux,uy]).run P w) v h':=by
 simp only[nF] at ah
 obtain ⟨⟨gy,ys⟩,kV,ah⟩:=Option.bind_eq_some_iff.1 ah
 simp only at ah
 obtain ⟨us,src⟩:=ni (P:=P) hL hs hy kV
 obtain ⟨i',vX,pk⟩:=bP.info
 rw[hi] at vX;cases vX
 by_cases hg:gy=g
 ·subst hg
  exact mN hL hs ht bP hi hz iT gZ mX hx (src.apd ht hi h2 pk) ah
 ·unfold cT at ah
  split at ah
  ·rename_i np
   subst np
   have AE:us=[]:=by simpa[bV] using src.rc
   subst AE
   have src':Src P L c w g [] uy []:=⟨src.len,fun w' n hw hn=> by
     obtain rfl:n=0:=by simpa using hn
     have:=src.first w' 0 hw (by simp)
     simp only[Nat.zero_mul,List.take_zero] at this ⊢
     cases uy <;> simp_all [Builtin.firstCells,loadCells,loadCellsFrom],src.rc,by simp⟩
   exact mN hL hs ht bP hi hz iT gZ mX hx (src'.apd ht hi h2 pk) (base:=base) (by unfold cT;rw[if_pos rfl];exact ah)
  ·simp[hg] at ah
theorem PY (hL:L.OK) (hs:bc L c h w) {T T2 el:TypeId} {i:TypeInfo} {g:Option Nat} {zv:V} {kd:IntKind} (ht:P.underlying T=some (.slice el)) (bP:TG P L el g) (hi:P.info? el=some i) (hz:er P L el zv) (iT:zv.ty=g) (gZ:zv.ax=true)
 (h2:P.underlying T2=some (.int kd)) {ty:TypeId} (mX:0 < i.bytes) {x y:V} {ux uy:Value} (hx:RV L c x ux) (hy:RV L c y uy) {base:Nat} {v:V} {h':Hp} (ah:ub base h g i.bytes zv x y=some (v,h')):
 aJ L c w ((Builtin.append_ #[T,T2] ty #[ux,uy]).run P w) v h':=by
 unfold ub at ah
 split at ah
 case h_2=> cases ah
 rename_i k
 split at ah
 case isFalse=> cases ah
 rename_i hc
 obtain ⟨hk0,hk⟩:=hc
 obtain ⟨rfl,_⟩:=bx.1 hy
 obtain ⟨i',vX,pk⟩:=bP.info
 rw[hi] at vX;cases vX
 obtain ⟨n,rfl⟩:=Int.eq_ofNat_of_zero_le hk0
 simp only[Int.toNat_natCast] at ah hk
 obtain ⟨i2,z,pN,oy,oL⟩:=id hz
 rw[hi] at pN;cases pN
 exact mN hL hs ht bP hi hz iT gZ mX hx (DW hL ht hi oy oL iT gZ h2 pk mX hk) ah
end Go.Vm
namespace Go.Vm
variable {P : Program} {L : cq} {c : Ctx} {h : Hp} {w : World}
theorem yi {T T2 el:TypeId} (ht:P.underlying T=some (.slice el)) {ty:TypeId} {g:Option Nat} (bP:TG P L el g)
 {base:Option Addr} {dLen dCap:Nat} {u:Value} {ys:List V} {us:List Value} (kV:Src P L c w g ys u us) (w':World)
 (aR:(match base with | some a=>(storeCells a (us.take (Nat.min ys.length dLen * L.az g))).run P w | none=> .ok () w)= .ok () w'):
 (Builtin.copy_ #[T,T2] ty #[.slice base dLen dCap,u]).run P w= .ok (.int .i64 (Nat.min ys.length dLen:Nat)) w':=by
 have hf:=kV.first w (Nat.min ys.length dLen) rfl (Nat.min_le_left _ _)
 cases base with
 | none=>
   simp only[Result.ok.injEq,true_and] at aR
   subst aR
   simp[Builtin.copy_,run_underlying ht,bP.sizeOf,kV.len,hf,goInt]
 | some a=>
   simp only at aR
   simp[Builtin.copy_,run_underlying ht,bP.sizeOf,kV.len,hf,aR,goInt]
theorem PZ (hL:L.OK) (hs:bc L c h w) {T T2 el:TypeId} {g:Option Nat} (ht:P.underlying T=some (.slice el)) (bP:TG P L el g)
 {ty:TypeId} {x y:V} {ux uy:Value} (hx:RV L c x ux) (hy:RV L c y uy) {base:Nat} {v:V} {h':Hp} (ah:Il base h g x y=some (v,h')):
 aJ L c w ((Builtin.copy_ #[T,T2] ty #[ux,uy]).run P w) v h':=by
 simp only[Il] at ah
 obtain ⟨⟨gy,ys⟩,kV,ah⟩:=Option.bind_eq_some_iff.1 ah
 simp only at ah
 obtain ⟨us,src⟩:=ni (P:=P) hL hs hy kV
 have po:=q8z hL src.rc (fun q hq=>(src.el q hq).1)
 unfold xR at ah
 split at ah
 ·rename_i id i p g' off len aw Yv
  clear Yv
  split at ah
  case h_2=> cases ah
  rename_i t es nM
  split at ah
  case isFalse=> cases ah
  rename_i hc
  obtain ⟨rfl,rfl,nE,fk⟩:=hc
  obtain ⟨h1,aR,he⟩:=Option.map_eq_some_iff.1 ah
  simp only[Prod.mk.injEq] at he
  obtain ⟨rfl,rfl⟩:=he
  obtain ⟨l,j,p',o,us0,ty0,fz0,hjp,hl,cC,ic,⟨o',lH⟩,hg,hz,df,hle,hr⟩:=hs.nodeAt hL nM
  have hr0:=hr
  simp only[RC] at hr
  obtain ⟨hr,e,ha,cM⟩:=hr
  have cI:L.az (V.ty (.arr t es))=es.length * L.az e:=by simp[V.ty,cq.az,hL.ar _ _ _ ha]
  rw[cI] at hr hle
  have ck:L.row l.tag (i::p)=some (o,e,some es.length):=by
    rw[hjp] at ic ⊢
    simp only[cq.off,lH,Option.map_some,Option.some.injEq] at ic
    simp only[cq.row,lH,V.ty,ha,Option.map_some,ic]
  obtain ⟨rfl,k,rfl,lR,hm⟩:=dK hx hl cC ck
  have hm:off+k=es.length:=hm
  have lV:min ys.length len≤ys.length:=Nat.min_le_left _ _
  have hnr:min ys.length len≤len:=Nat.min_le_right _ _
  have AG:=(eM hL src.rc (fun q hq=>(src.el q hq).1) (min ys.length len) lV).1
  have Ci:(us.take (min ys.length len * L.az e)).length=min ys.length len * L.az e:=by
    rw[List.length_take,po];exact Nat.min_eq_left (Nat.mul_le_mul_right _ lV)
  have V5:off * L.az e+(us.take (min ys.length len * L.az e)).length≤es.length * L.az e:=by
    rw[Ci,←Nat.add_mul];exact Nat.mul_le_mul_right _ (by omega)
  have nO:o+off * L.az e+(us.take (min ys.length len * L.az e)).length≤us0.size:=by omega
  have vW:∀q∈us.take (min ys.length len * L.az e),q.oneCell'=true:=fun q hq=> dr (fun v _=> dS v) (fun v hv=>(src.el v hv).2) us src.rc q (List.mem_of_mem_take hq)
  have mO:(storeCells (⟨l.bq,o+off * L.az e,none⟩:Addr) (us.take (min ys.length len * L.az e))).run P w= .ok () (w.setCells l.bq (o+off * L.az e) (us.take (min ys.length len * L.az e))):=by
    have:=run_storeCells_cells (P:=P) l.bq (o+off * L.az e) (us.take (min ys.length len * L.az e)) 0 w (fun j hj=> by rw[q15z hg];simp;omega) (fun j hj=> eo hg df (by omega)) vW
    simpa using this
  have bb:=yi (w:=w) (T2:=T2) (ty:=ty) ht bP (base:=some ⟨l.bq,o+off * L.az e,none⟩) (dLen:=len) (dCap:=k) src _ mO
  have tF:(ys.take (min ys.length len)).length=min ys.length len:=by simp
  have ir:=mC hL hr AG (fun q hq=>(cM q hq).1) (fun q hq=>(src.el q (List.mem_of_mem_take hq)).1) (n:=off) (by omega)
  rw[tF] at ir
  have wL:(es.take off++ys.take (min ys.length len)++es.drop (off+min ys.length len)).length=es.length:=by simp only[List.length_append,List.length_take,List.length_drop];omega
  have kR:RC L c (.arr t (es.take off++ys.take (min ys.length len)++es.drop (off+min ys.length len))) (lay ((us0.toList.drop o).take (es.length * L.az e)) (off * L.az e) (us.take (min ys.length len * L.az e))):=by
    simp only[RC]
    refine ⟨ir,e,by rw[wL];exact ha,fun q hq=> ?_⟩
    rcases List.mem_append.1 hq with hq | hq
    ·rcases List.mem_append.1 hq with hq | hq
     ·exact cM q (List.mem_of_mem_take hq)
     ·exact src.el q (List.mem_of_mem_take hq)
    ·exact cM q (List.mem_of_mem_drop hq)
  have iX:=dy l.bq ty0 fz0 (us.take (min ys.length len * L.az e)) (o+off * L.az e) us0 w hg nO
  rw[rB us0.toList _ o (es.length * L.az e) (off * L.az e) (by simpa using hle) V5] at iX
  have dh:=Ce hL hs nM aR kR rfl rfl hl ic hg df (by rw[cI];exact hle) iX (fun k hk=> q13z l.bq _ _ _ k hk)
  exact ⟨_,_,_,bb,bx.2 ⟨rfl,rfl⟩,dh,Ctx.le_refl c,St.setCells _ _ _ _⟩
 rename_i hnp
 unfold copyV at ah
 split at ah
 case h_2=> cases ah
 rename_i id g' off len aw _
 split at ah
 case h_2=> cases ah
 rename_i g'' es ck
 split at ah
 case isFalse=> cases ah
 rename_i hc
 simp only[Option.some.injEq,Prod.mk.injEq] at ah
 obtain ⟨rfl,rfl⟩:=ah
 obtain ⟨rfl,rfl,rfl,nE,fk⟩:=hc
 obtain ⟨l,hl,cC,bZ,hz,lU,xz,hb3,cM,us0,ty0,fz0,hg,cI,df,fp⟩:=hs.row ck
 have nD:=(q16z ck).2
 obtain ⟨he,k,rfl,lR,hm⟩:=dK hx hl cC (path:=[]) (o:=0) (e:=l.tag) (m:=none) rfl
 simp only[Nat.zero_add] at lR hm ⊢
 have xh:min ys.length len=Nat.min ys.length len:=rfl
 have lV:min ys.length len≤ys.length:=Nat.min_le_left _ _
 have hnr:min ys.length len≤len:=Nat.min_le_right _ _
 have AG:=(eM hL src.rc (fun q hq=>(src.el q hq).1) (min ys.length len) lV).1
 have Ci:(us.take (min ys.length len * L.az g'')).length=min ys.length len * L.az g'':=by
   rw[List.length_take,po];exact Nat.min_eq_left (Nat.mul_le_mul_right _ lV)
 have fS:∀n,n≤l.cap→n * L.az g''≤us0.size:=fun n hn=> by rw[cI];exact Nat.mul_le_mul_right _ hn
 have nO:off * L.az g''+(us.take (min ys.length len * L.az g'')).length≤us0.size:=by rw[Ci,←Nat.add_mul];exact fS _ (by omega)
 have vW:∀q∈us.take (min ys.length len * L.az g''),q.oneCell'=true:=fun q hq=> dr (fun v _=> dS v) (fun v hv=>(src.el v hv).2) us src.rc q (List.mem_of_mem_take hq)
 have mO:(storeCells (⟨l.bq,off * L.az g'',none⟩:Addr) (us.take (min ys.length len * L.az g''))).run P w= .ok () (w.setCells l.bq (off * L.az g'') (us.take (min ys.length len * L.az g''))):=by
   have:=run_storeCells_cells (P:=P) l.bq (off * L.az g'') (us.take (min ys.length len * L.az g'')) 0 w (fun j hj=> by rw[q15z hg];simp;omega) (fun j hj=> eo hg df.1 (by omega)) vW
   simpa using this
 have bb:=yi (w:=w) (T2:=T2) (ty:=ty) ht bP (base:=some ⟨l.bq,off * L.az g'',none⟩) (dLen:=len) (dCap:=k) src _ mO
 have tF:(ys.take (min ys.length len)).length=min ys.length len:=by simp
 have ir:=mC hL fp AG (fun q hq=>(cM q hq).1) (fun q hq=>(src.el q (List.mem_of_mem_take hq)).1) (n:=off) (by omega)
 rw[tF] at ir
 have wL:(es.take off++ys.take (min ys.length len)++es.drop (off+min ys.length len)).length=es.length:=by simp only[List.length_append,List.length_take,List.length_drop];omega
 have AF:lay (us0.toList.take (es.length * L.az g'')) (off * L.az g'') (us.take (min ys.length len * L.az g''))=(lay us0.toList (off * L.az g'') (us.take (min ys.length len * L.az g''))).take (es.length * L.az g''):=
   (mD _ _ _ _ (by rw[Ci,←Nat.add_mul];exact Nat.mul_le_mul_right _ (by omega)) (by have:=fS _ hb3;simpa using this)).symm
 rw[AF] at ir
 obtain ⟨l',dv,dh,hle,vR⟩:=iJ hL hs hl bZ hz hg df cI (es':=es.take off++ys.take (min ys.length len)++es.drop (off+min ys.length len)) (fun q hq=> by
   rcases List.mem_append.1 hq with hq | hq
   ·rcases List.mem_append.1 hq with hq | hq
    ·exact cM q (List.mem_of_mem_take hq)
    ·exact src.el q (List.mem_of_mem_take hq)
   ·exact cM q (List.mem_of_mem_drop hq)) (by omega) (by omega) nO (by rw[wL];exact ir)
 exact ⟨_,_,_,bb,bx.2 ⟨rfl,rfl⟩,dh,hle,St.setCells _ _ _ _⟩
theorem yj (hL:L.OK) {r:Result Value} {v:V} {h1:Hp} (hd:aJ L c w r v h1) {v':V} {h':Hp} (ah:qx (v,h1)=some (v',h')):aJ L c w r v' h':=by
 obtain ⟨u,c1,w1,hr,hx,hs,hle,aR⟩:=hd
 unfold qx at ah
 simp only at ah
 split at ah
 case h_3=> cases ah
 ·cases ah
  obtain ⟨a,k,e1,e2,_,e3⟩:=cU.1 hx
  exact ⟨u,c1,w1,hr,cU.2 ⟨a,k,e1,e2,(fun hf=> by cases hf),e3⟩,hs,hle,aR⟩
 rename_i id g' len aw
 split at ah
 case h_2=> cases ah
 rename_i g es ck
 split at ah
 case isFalse=> cases ah
 rename_i hc
 simp only[Option.some.injEq,Prod.mk.injEq] at ah
 obtain ⟨rfl,rfl⟩:=ah
 obtain ⟨rfl,rfl⟩:=hc
 obtain ⟨l,hl,cC,bZ,hz,lU,xz,hb3,cM,us0,ty0,fz0,hg,cI,df,fp⟩:=hs.row ck
 have nD:=(q16z ck).2
 obtain ⟨he,k,rfl,lR,hm⟩:=dK hx hl cC (path:=[]) (o:=0) (e:=l.tag) (m:=none) rfl
 have dh:=hs.die hl (w':=w1) (fun _ _=> rfl) hg
 refine ⟨_,_,w1,hr,?_,dh,hle.trans (c1.oC _ _ _ hz),aR⟩
 refine cU.2 ⟨_,k,by rw[nD];simp,by omega,(fun hf=> by cases hf),cM,Or.inr ⟨l.bq,0,us0,ty0,fz0,rfl,by simp[Ctx.die],?_⟩⟩
 simpa[nb] using fp.mono (c1.oC id l.bq (.cells us0 ty0 fz0) hz)
theorem Lq (hL:L.OK) (hs:bc L c h w) {T el:TypeId} (ht:P.underlying T=some (.slice el)) (wb:P.underlying el=some (.int .u8)) {id len aw:Nat} {g':Option Nat} {ux:Value} (hx:RV L c (.ref id [] g' 0 len aw) ux) {v:V} {h':Hp} (ah:Ik h id g' len aw=some (v,h')):
 aJ L c w ((convert T T ux).run P w) v h':=by
 unfold Ik at ah
 split at ah
 case h_2=> cases ah
 rename_i g es zO
 split at ah
 case isFalse=> cases ah
 rename_i hc
 simp only[Option.some.injEq,Prod.mk.injEq] at ah
 obtain ⟨rfl,rfl⟩:=ah
 obtain ⟨rfl,nD,rfl⟩:=hc
 rcases hs.live id _ zO with ⟨l,hl⟩ | h'
 case inr=> cases h'
 obtain ⟨k,h1,hz,h3⟩:=hs.loc id l hl
 rw[zO] at h1;cases h1
 obtain ⟨bZ,cC,fM,cM,us0,ty0,fz0,hg,cI,df,fp⟩:=h3
 have cC:=cC.trans nD
 obtain ⟨he,k,rfl,lR,hm⟩:=dK hx hl cC (path:=[]) (o:=0) (e:=l.tag) (m:=none) rfl
 simp only[Nat.zero_add,Nat.zero_mul] at lR hm ⊢
 have sW:w.shape? l.bq=some (ty0,us0.size):=by simp[World.shape?,hg]
 have bb:(convert T T (.slice (some ⟨l.bq,0,none⟩) len k)).run P w= .ok (.slice (some ⟨l.bq,0,none⟩) len k) (w.freeze ⟨l.bq,us0.size,none⟩ 1):=by
   simp[convert,run_underlying ht,run_underlying wb,markStringish,sW]
 have iX:∃fz,(w.freeze ⟨l.bq,us0.size,none⟩ 1).heap[l.bq]? =some (.cells us0 ty0 fz):=by
   simp[World.freeze,Array.getElem?_modify,hg]
 obtain ⟨fz,iX⟩:=iX
 have AH:∀b,b≠l.bq→(w.freeze ⟨l.bq,us0.size,none⟩ 1).heap[b]? =w.heap[b]? :=fun b hb=> by
   simp[World.freeze,Array.getElem?_modify,Ne.symm hb]
 have dh:=hs.die hl AH iX
 refine ⟨_,_,_,bb,?_,dh,c.oC _ _ _ hz,⟨rfl,rfl,rfl,by simp[World.freeze]⟩⟩
 refine cU.2 ⟨_,k,by rw[nD],by omega,(fun _=> by simp only[eL] at hm;omega),cM,Or.inr ⟨l.bq,0,us0,ty0,fz,rfl,by simp[Ctx.die],?_⟩⟩
 simpa[nb] using fp.mono (c.oC id l.bq (.cells us0 ty0 fz) hz)
theorem P0 (hL:L.OK) (hs:bc L c h w) {T el:TypeId} (ht:P.underlying T=some (.slice el)) (wb:P.underlying el=some (.int .u8)) {x:V} {ux:Value} (hx:RV L c x ux) {v:V} {h':Hp} (ah:uM h x=some (v,h')):
 aJ L c w ((convert T T ux).run P w) v h':=by
 unfold uM at ah
 split at ah
 case h_2=> cases ah
 rename_i id g' len aw
 split at ah
 case h_2=> exact Lq hL hs ht wb hx ah
 rename_i g es ck
 split at ah
 case isFalse=> cases ah
 rename_i hc
 simp only[Option.some.injEq,Prod.mk.injEq] at ah
 obtain ⟨rfl,rfl⟩:=ah
 obtain ⟨rfl,rfl⟩:=hc
 obtain ⟨l,hl,cC,bZ,hz,lU,xz,hb3,cM,us0,ty0,fz0,hg,cI,df,fp⟩:=hs.row ck
 have nD:=(q16z ck).2
 obtain ⟨he,k,rfl,lR,hm⟩:=dK hx hl cC (path:=[]) (o:=0) (e:=l.tag) (m:=none) rfl
 simp only[Nat.zero_add,Nat.zero_mul] at lR hm ⊢
 have sW:w.shape? l.bq=some (ty0,us0.size):=by simp[World.shape?,hg]
 have bb:(convert T T (.slice (some ⟨l.bq,0,none⟩) len k)).run P w= .ok (.slice (some ⟨l.bq,0,none⟩) len k) (w.freeze ⟨l.bq,us0.size,none⟩ 1):=by
   simp[convert,run_underlying ht,run_underlying wb,markStringish,sW]
 have iX:∃fz,(w.freeze ⟨l.bq,us0.size,none⟩ 1).heap[l.bq]? =some (.cells us0 ty0 fz):=by
   simp[World.freeze,Array.getElem?_modify,hg]
 obtain ⟨fz,iX⟩:=iX
 have AH:∀b,b≠l.bq→(w.freeze ⟨l.bq,us0.size,none⟩ 1).heap[b]? =w.heap[b]? :=fun b hb=> by
   simp[World.freeze,Array.getElem?_modify,Ne.symm hb]
 have dh:=hs.die hl AH iX
 refine ⟨_,_,_,bb,?_,dh,c.oC _ _ _ hz,⟨rfl,rfl,rfl,by simp[World.freeze]⟩⟩
 refine cU.2 ⟨_,k,by rw[nD],by omega,(fun hf=> by cases hf),cM,Or.inr ⟨l.bq,0,us0,ty0,fz,rfl,by simp[Ctx.die],?_⟩⟩
 simpa[nb] using fp.mono (c.oC id l.bq (.cells us0 ty0 fz) hz)
theorem P1 (hs:bc L c h w) {S T:TypeId} {k:IntKind} (hT:P.underlying T=some (.int k)) (hS:∃d,P.underlying S=some d) {x:V} {ux:Value} (hx:RV L c x ux) {v:V} {h':Hp} (ah:uQ h k x=some (v,h')):
 aJ L c w ((convert S T ux).run P w) v h':=by
 simp only[uQ] at ah
 obtain ⟨n,hn,ah⟩:=Option.bind_eq_some_iff.1 ah
 simp only[js,Option.some.injEq,Prod.mk.injEq] at ah
 obtain ⟨rfl,rfl⟩:=ah
 obtain ⟨k',rfl⟩:=iW hn hx
 obtain ⟨d,hd⟩:=hS
 refine aJ.same (u:= .int k (k.wrap n)) ?_ (bx.2 ⟨rfl,rfl⟩) hs
 simp[convert,run_underlying hT,run_underlying hd,Conv.intToInt]
theorem we (ns:List Int):strOfNums ns=⟨(ns.map fun n=> UInt8.ofNat n.toNat).toArray⟩:=by
 simp[strOfNums]
theorem P2 (hL:L.OK) (hs:bc L c h w) {S T el:TypeId} (hS:P.underlying S=some (.slice el)) (wb:P.underlying el=some (.int .u8)) (hT:P.underlying T=some .string) {x:V} {ux:Value} (hx:RV L c x ux) {v:V} {h':Hp} (ah:uR h x=some (v,h')):
 aJ L c w ((convert S T ux).run P w) v h':=by
 simp only[uR] at ah
 obtain ⟨⟨g,es⟩,he,ah⟩:=Option.bind_eq_some_iff.1 ah
 obtain ⟨l,hl,ah⟩:=Option.bind_eq_some_iff.1 ah
 simp only[js,Option.some.injEq,Prod.mk.injEq] at ah
 obtain ⟨rfl,rfl⟩:=ah
 obtain ⟨a,k,rfl,lR,bP,fy⟩:=pf hL hs hx he
 simp only at hl
 rcases fy with rfl | ⟨b,o,us,ty,fz,rfl,hg,hr⟩
 ·simp only[bytesOf,Option.some.injEq] at hl
  subst hl
  refine aJ.same (u:= .string ⟨#[]⟩) ?_ (bx.2 ⟨rfl,rfl⟩) hs
  show (convert S T (.slice a 0 k)).run P w=_
  rw[run_convert_bytes_string w S T el a 0 k hS wb hT]
  cases a <;> simp[Conv.bytesToString,loadCells,loadCellsFrom]<;> rfl
 ·obtain ⟨ns,hns,lV,rfl⟩:=jL es l _ hl hr
  have cR:es≠[]→L.az g=1:=fun cD=> by
    obtain ⟨y,hy⟩:=List.exists_mem_of_ne_nil es cD
    have:=congrArg List.length hns
    have h2:=q8z hL hr (fun q hq=>(bP q hq).1)
    have gq:0 < es.length:=List.length_pos_iff.2 cD
    rw[h2,List.length_map,lV] at this
    exact Nat.eq_of_mul_eq_mul_left gq (by omega)
  have xQ:=na hL hg hr (fun q hq=>(bP q hq).1)
  rw[hns] at xQ
  have bb:=run_convert_bytes_arg (P:=P) w S el hS wb b o es.length k ns lV (fun i hi=> by
    have:=xQ i (.int .u8 (ns.getD i 0)) (by simp[List.getD,List.getElem?_eq_getElem (show i < ns.length by omega)])
    rwa [eD] at this) T hT
  rw[we] at bb
  exact aJ.same bb (bx.2 ⟨rfl,rfl⟩) hs
theorem nP :∀(es:List V) (l:List Int) (us:List Value),nd es=some l→bV L c es us→us=l.map (Value.int .i32)∧l.length=es.length
 | [],l,us,hb,hr=> by
   simp only[nd,Option.some.injEq] at hb
   simp only[bV] at hr
   subst hb;subst hr
   exact ⟨rfl,rfl⟩
 | e::es,l,us,hb,hr=> by
   simp only[bV] at hr
   obtain ⟨u1,u2,rfl,h1,h2⟩:=hr
   unfold nd at hb
   split at hb
   ·rename_i heq
    cases heq
   ·rename_i n vs heq
    simp only[List.cons.injEq] at heq
    obtain ⟨rfl,rfl⟩:=heq
    obtain ⟨l',dv,rfl⟩:=Option.map_eq_some_iff.1 hb
    obtain ⟨rfl,h3⟩:=nP es l' u2 dv h2
    simp only[RC] at h1
    rw[h1.1]
    exact ⟨by simp,by simp[h3]⟩
   ·cases hb
theorem P3 (hL:L.OK) (hs:bc L c h w) {S T el:TypeId} (hS:P.underlying S=some (.slice el)) (hu:P.underlying el=some (.int .i32)) (hT:P.underlying T=some .string) {x:V} {ux:Value} (hx:RV L c x ux) {v:V} {h':Hp} (ah:sM h false x=some (v,h')):
 aJ L c w ((convert S T ux).run P w) v h':=by
 simp only[sM,Bool.false_eq_true,if_false] at ah
 obtain ⟨⟨g,es⟩,he,ah⟩:=Option.bind_eq_some_iff.1 ah
 obtain ⟨l,hl,ah⟩:=Option.bind_eq_some_iff.1 ah
 simp only[js,Option.some.injEq,Prod.mk.injEq] at ah
 obtain ⟨rfl,rfl⟩:=ah
 obtain ⟨a,k,rfl,lR,bP,fy⟩:=pf hL hs hx he
 simp only at hl
 rcases fy with rfl | ⟨b,o,us,ty,fz,rfl,hg,hr⟩
 ·simp only[nd,Option.some.injEq] at hl
  subst hl
  refine aJ.same (u:= .string (runesBytes [])) ?_ (bx.2 ⟨rfl,rfl⟩) hs
  show (convert S T (.slice a 0 k)).run P w=_
  cases a with
  | none=> exact run_convert_runes_nil w S T el 0 k hS hu hT
  | some a=> exact run_convert_runes w S T el a 0 k [] (Nat.le_refl _) hS hu hT (fun j hj=> absurd hj (Nat.not_lt_zero _))
 ·obtain ⟨hns,lV⟩:=nP es l _ hl hr
  have xQ:=na hL hg hr (fun q hq=>(bP q hq).1)
  rw[hns] at xQ
  have bb:=run_convert_runes (P:=P) w S T el ⟨b,o,none⟩ es.length k l (by omega) hS hu hT (fun i hi=> xQ i (.int .i32 (l.getD i 0)) (by simp[List.getD,List.getElem?_eq_getElem hi]))
  rw[List.take_of_length_le (by omega)] at bb
  exact aJ.same bb (bx.2 ⟨rfl,rfl⟩) hs
theorem P4 (hs:bc L c h w) {S T:TypeId} (hS:P.underlying S=some (.int .i32)) (hT:P.underlying T=some .string) {x:V} {ux:Value} (hx:RV L c x ux) {v:V} {h':Hp} (ah:sM h true x=some (v,h')):
 aJ L c w ((convert S T ux).run P w) v h':=by
 simp only[sM,if_true] at ah
 split at ah
 ·have:=(bx.1 hx).1
  subst this
  simp only[js,Option.some.injEq,Prod.mk.injEq] at ah
  obtain ⟨rfl,rfl⟩:=ah
  refine aJ.same (u:= .string (Utf8.encode _)) ?_ (bx.2 ⟨rfl,rfl⟩) hs
  simp[convert,run_underlying hT,run_underlying hS,Conv.intToString]
 ·cases ah
theorem yk {α:Type} (a:Array α) (x:α) (f:α→α):(a.push x).modify a.size f=a.push (f x):=by
 apply Array.ext_getElem?
 intro i
 rw[Array.getElem?_modify,Array.getElem?_push,Array.getElem?_push]
 by_cases hi:i=a.size
 ·subst hi;simp
 ·simp[hi,Ne.symm hi]
theorem Lr {S T el:TypeId} (hS:P.underlying S=some .string) (hT:P.underlying T=some (.slice el)) (wb:P.underlying el=some (.int .u8)) (s:ByteArray):
 ∃cap extra fz w',(convert S T (.string s)).run P w= .ok (.slice (some ⟨w.heap.size,0,none⟩) s.size cap) w'∧s.size≤cap∧w'=w.drew.alloc (.cells ((s.data.toList.map fun b=> Value.int .u8 b.toNat)++extra).toArray el fz)∧
  s.size+extra.length=cap∧(∀j,j < cap→¬(fz.1≤j∧j < fz.2)):=by
 let cap:=(Question.appendCap s.size 0 el).cut (w.tape w.drawn (Question.appendCap s.size 0 el))
 have fM:s.size≤cap:=Nat.le_add_right _ _
 refine ⟨cap,List.replicate (cap - s.size) (.int .u8 0),(cap,cap+1),_,?_,fM,rfl,by simp;omega,by intro j hj;simp only;omega⟩
 have cI:(s.data.map (fun b=> Value.int IntKind.u8 b.toNat)++Array.replicate (cap - s.size) (Value.int IntKind.u8 0)).size=cap:=by
   simp only[Array.size_append,Array.size_map,Array.size_replicate]
   have:s.data.size=s.size:=rfl
   omega
 have e:(((s.data.toList.map fun b=> Value.int .u8 b.toNat)++List.replicate (cap - s.size) (Value.int .u8 0)).toArray)=s.data.map (fun b=> Value.int IntKind.u8 b.toNat)++Array.replicate (cap - s.size) (Value.int IntKind.u8 0):=by
   apply Array.ext';simp
 rw[e]
 have df:((w.drew.alloc (.cells (s.data.map (fun b=> Value.int IntKind.u8 b.toNat)++Array.replicate (cap - s.size) (Value.int IntKind.u8 0)) el)).freeze ⟨w.heap.size,cap,none⟩ 1)=w.drew.alloc (.cells (s.data.map (fun b=> Value.int IntKind.u8 b.toNat)++Array.replicate (cap - s.size) (Value.int IntKind.u8 0)) el (cap,cap+1)):=by
   unfold World.freeze
   simp only[Nat.one_ne_zero,if_false]
   show World.mk _ _ _ _ _=World.mk _ _ _ _ _
   congr 1
   exact (yk _ _ _).trans (by simp)
 have sW:(w.drew.alloc (.cells (s.data.map (fun b=> Value.int IntKind.u8 b.toNat)++Array.replicate (cap - s.size) (Value.int IntKind.u8 0)) el)).shape? w.heap.size=some (el,cap):=by
   have:(w.drew.alloc (.cells (s.data.map (fun b=> Value.int IntKind.u8 b.toNat)++Array.replicate (cap - s.size) (Value.int IntKind.u8 0)) el)).heap[w.heap.size]? =some _:=iS (w:=w.drew)
   simp only[World.shape?,this,cI]
 rw[←df]
 simp only[convert,run_underlying hS,run_underlying hT,run_underlying wb,Sem.run_bind,Result.andThen_ok,Conv.stringToBytes,run_choose,Question.forced,Bool.false_eq_true,if_false,World.drew_eq,newRow,run_newObj,Sem.run_pure,markStringish,run_shape,World.alloc_eq]
 show (Sem.run P _ _).andThen _=_
 have hd:w.drew.heap.size=w.heap.size:=rfl
 simp only[hd]
 rw[show (Question.appendCap s.size 0 el).cut (w.tape w.drawn (Question.appendCap s.size 0 el))=cap from rfl,sW]
 simp
theorem P5 (hL:L.OK) (hs:bc L c h w) {S T el:TypeId} (hS:P.underlying S=some .string) (hT:P.underlying T=some (.slice el)) (wb:P.underlying el=some (.int .u8)) {lit:Bool} {x:V} {ux:Value} (hx:RV L c x ux) {v:V} {h':Hp} (ah:qH h lit x=some (v,h')):
 aJ L c w ((convert S T ux).run P w) v h':=by
 unfold qH at ah
 split at ah
 case h_2=> cases ah
 rename_i s
 obtain ⟨rfl,_⟩:=bx.1 hx
 obtain ⟨cap,extra,fz,w',bb,fM,lH,hlen,df⟩:=Lr (P:=P) (w:=w) hS hT wb s
 have hr:=qK (L:=L) (c:=c) s
 split at ah
 ·simp only[Option.some.injEq,Prod.mk.injEq] at ah
  obtain ⟨rfl,rfl⟩:=ah
  subst lH
  have hz:bc L (c.dD w.drew.heap.size _) h (w.drew.alloc _):=hs.drew.dD (.cells ((s.data.toList.map fun b=> Value.int .u8 b.toNat)++extra).toArray el fz)
  refine ⟨_,_,_,bb,?_,hz,c.kf _ _ hs.qF,(St.drew w).trans (St.alloc _ _)⟩
  refine cU.2 ⟨_,cap,by rw[eF],by rw[eF];exact fM,(fun hf=> by cases hf),mM s,Or.inr ⟨w.heap.size,0,((s.data.toList.map fun b=> Value.int .u8 b.toNat)++extra).toArray,el,fz,rfl,by simp[Ctx.dD],?_⟩⟩
  have hl:(dM s).length * L.az none=(s.data.toList.map fun b=> Value.int .u8 b.toNat).length:=by simp[dM,cq.az]
  rw[hl]
  simp only[nb,List.drop_zero,List.toList_toArray,List.take_left']
  exact hr.mono (c.kf _ _ hs.qF)
 ·split at ah
  ·cases ah
  rename_i cD
  simp only[Option.some.injEq,Prod.mk.injEq] at ah
  obtain ⟨rfl,rfl⟩:=ah
  have hml:(s.data.toList.map fun b=> Value.int IntKind.u8 (b.toNat:Int)).length=s.size:=by simp
  obtain ⟨l,hb,hc,bZ,cC,dh,hl⟩:=iY hL hs.drew hr (mM s) cap extra (by rw[hml];simp only[cq.az];omega) (by rw[eF];exact fM) el fz ⟨by
    intro j hj
    rw[List.length_append,hml,hlen] at hj
    exact df j hj,fun h=> by cases h⟩
  subst lH
  refine ⟨_,c.push l,_,bb,?_,dh,c.gJ l,(St.drew w).trans (St.alloc _ _)⟩
  have:=eS (es:=dM s) hL dh hl bZ cC cap (by rw[eF];exact fM) (by omega)
  rw[eF] at this
  rw[hb] at this
  exact this
end Go.Vm
namespace Go.Vm
variable {P : Program} {L : cq} {c : Ctx} {h : Hp} {w : World}
theorem cx {vs:List V} {u:Value}:RV L c (.bI vs) u↔∃ws:List Value,u= .tuple ws.toArray∧fC L c vs ws:=by
 have nC:∀(vs:List V) (ws:List Value),RW L c vs ws↔fC L c vs ws:=by
   intro vs
   induction vs with
   | nil=>
     intro ws
     cases ws with
     | nil=> exact ⟨fun _=> trivial,fun _=> by simp[RW]⟩
     | cons a b=> exact ⟨fun h=> by simp[RW] at h,fun h=> h.elim⟩
   | cons v vs ih=>
     intro ws
     cases ws with
     | nil=> exact ⟨fun h=> by simp[RW] at h,fun h=> h.elim⟩
     | cons a b=>
       simp only[RW,fC,List.cons.injEq]
       exact ⟨fun ⟨u,us',⟨e1,e2⟩,h1,h2⟩=> by subst e1;subst e2;exact ⟨h1,(ih b).1 h2⟩,fun ⟨h1,h2⟩=>⟨a,b,⟨rfl,rfl⟩,h1,(ih b).2 h2⟩⟩
 rw[ea rfl]
 simp only[RC,List.cons.injEq,and_true]
 exact ⟨fun ⟨ws,h1,h2⟩=>⟨ws,h1,(nC vs ws).1 h2⟩,fun ⟨ws,h1,h2⟩=>⟨ws,h1,(nC vs ws).2 h2⟩⟩
theorem Cj {f:Nat} {cap:List V} {u:Value}:RV L c (.fn f cap) u↔∃ws:List Value,u= .func (.func f) #[] ws.toArray∧fC L c cap ws:=by
 have:= @cx L c cap
 rw[ea rfl]
 simp only[RC,List.cons.injEq,and_true]
 constructor
 ·rintro ⟨ws,h1,h2⟩
  obtain ⟨ws',h3,h4⟩:=(this (u:= .tuple ws.toArray)).1 ((ea rfl).2 (by simp only[RC];exact ⟨ws,rfl,h2⟩))
  have:ws'=ws:=by simpa using (Value.tuple.inj h3).symm
  subst this
  exact ⟨_,h1,h4⟩
 ·rintro ⟨ws,h1,h2⟩
  have h3:=(ea (v:= .bI cap) rfl).1 ((this (u:= .tuple ws.toArray)).2 ⟨ws,rfl,h2⟩)
  simp only[RC,List.cons.injEq,and_true] at h3
  obtain ⟨ws',h4,h5⟩:=h3
  have:ws'=ws:=by simpa using (Value.tuple.inj h4).symm
  subst this
  exact ⟨_,h1,h5⟩
theorem yl {t:Nat} {v:V} {u:Value}:RV L c (.iface t v) u↔∃u',u= .iface t u'∧RV L c v u':=by
 rw[ea rfl]
 simp only[RC,List.cons.injEq,and_true]
 exact ⟨fun ⟨a,b,h1,h2,h3⟩=>⟨a,h1,b,h2,h3⟩,fun ⟨a,h1,b,h2,h3⟩=>⟨a,b,h1,h2,h3⟩⟩
theorem qe {x:Value} {h':Hp} {v:V} (ah:js x h=some (v,h')):v= .s x∧h'=h:=by
 simp only[js,Option.some.injEq,Prod.mk.injEq] at ah
 exact ⟨ah.1.symm,ah.2.symm⟩
theorem uZ {op:BinOp} {k:IntKind} {a b:Int} {x:Value} (hb:jN op k a b=some x):
 ((match op with
   | .add | .sub | .mul=> Op.intArith op k a b
   | .quo | .rem=> Op.intDiv op k a b
   | .and | .or | .xor | .andNot=> Op.intBits op k a b
   | _=> Op.intCmp op a b).run P w= .ok x w)∧x.oneCell'=true:=by
 cases op <;> simp only[jN] at hb <;> first
   | (cases hb;done)
   | (simp only[Option.some.injEq] at hb;subst hb;exact ⟨by simp[Op.intArith,Op.intBits,Op.intCmp],rfl⟩)
   | (split at hb
      ·cases hb
      ·rename_i cD
       simp only[Option.some.injEq] at hb;subst hb;exact ⟨by simp[Op.intDiv,cD],rfl⟩)
theorem DX {op:BinOp} {a b:ByteArray} {x:Value} (hb:p8 op a b=some x):(Op.stringOp op a b).run P w= .ok x w∧x.oneCell'=true:=by
 have V1:IntKind.i64.max=9223372036854775807:=rfl
 cases op <;> simp only[p8] at hb <;> first
   | (cases hb;done)
   | (simp only[Option.some.injEq] at hb;subst hb;exact ⟨by simp[Op.stringOp],rfl⟩)
   | (split at hb
      ·rename_i hle
       simp only[Option.some.injEq] at hb;subst hb
       refine ⟨?_,rfl⟩
       have hn:¬(((a.size+b.size:Nat):Int)> IntKind.i64.max):=by rw[V1];omega
       simp only[Op.stringOp]
       rw[if_neg hn];rfl
      ·cases hb)
theorem rD {op:BinOp} {b:Bool} {x:Value} (hb:DL op b=some x):(op= .eql∧x= .bool b)∨(op= .neq∧x= .bool !b):=by
 cases op <;> simp only[DL] at hb <;> first
   | (cases hb;done)
   | (simp only[Option.some.injEq] at hb;subst hb;first | exact Or.inl ⟨rfl,rfl⟩ | exact Or.inr ⟨rfl,rfl⟩)
theorem run_equal_bool {T:TypeId} (hT:P.underlying T=some .bool) (a b:Bool):(Op.equal T (.bool a) (.bool b)).run P w= .ok (a==b) w:=by
 have key:∀d,(Op.equalIn (d+1) T (.bool a) (.bool b)).run P w= .ok (a==b) w:=fun d=> by
   simp only[Op.equalIn,Sem.run_bind,run_underlying hT,Result.andThen_ok,Sem.run_pure]
 exact key 9999
theorem jO {T e:TypeId} (hT:P.underlying T=some (.pointer e)) (a b:Option Addr) (hab:a=none∨b=none):(Op.equal T (.pointer a) (.pointer b)).run P w= .ok (a.isNone && b.isNone) w:=by
 have key:∀d,(Op.equalIn (d+1) T (.pointer a) (.pointer b)).run P w= .ok (a.isNone && b.isNone) w:=fun d=> by
   cases a <;> cases b <;> simp only[Op.equalIn,Sem.run_bind,run_underlying hT,Result.andThen_ok,Sem.run_pure]<;> first | rfl | simp at hab
 exact key 9999
theorem tO {op:BinOp} {T:TypeId} (a b:Bool):binOp op T (.bool a) (.bool b)=match op with | .eql=>(do pure (.bool (←Op.equal T (.bool a) (.bool b)))) | .neq=>(do pure (.bool (!(←Op.equal T (.bool a) (.bool b))))) | _=> stuck "BinOp: no such operator on these operands" :=by
 cases op <;> rfl
theorem jP {T:TypeId} (a b:Option Addr):binOp .eql T (.pointer a) (.pointer b)=(do pure (.bool (←Op.equal T (.pointer a) (.pointer b)))):=rfl
theorem jQ {T:TypeId} (a b:Option Addr):binOp .neq T (.pointer a) (.pointer b)=(do pure (.bool (!(←Op.equal T (.pointer a) (.pointer b))))):=rfl
theorem P6 (hs:bc L c h w) {T:TypeId} {op:BinOp} {X Y:Operand} {x y:V} {ux uy:Value} (hx:RV L c x ux) (hy:RV L c y uy)
 {cl:Cl} (nq:match cl with | .num=> True | .tru=> P.underlying T=some .bool | .ptr=>∃e,P.underlying T=some (.pointer e))
 {v:V} {h':Hp} (ah:lK h cl op x y=some (v,h')):
 aJ L c w ((do eqGuard op T X Y ux uy;binOp op T ux uy:Sem Value).run P w) v h':=by
 simp only[lK] at ah
 obtain ⟨r,hr,ah⟩:=Option.bind_eq_some_iff.1 ah
 obtain ⟨rfl,rfl⟩:=qe ah
 suffices hh:(do eqGuard op T X Y ux uy;binOp op T ux uy:Sem Value).run P w= .ok r w∧r.oneCell'=true from aJ.same hh.1 (bx.2 ⟨rfl,hh.2⟩) hs
 have guard_ok:(∀(a b:Array Value),ux= .agg a→uy= .agg b→False)→(ux= .nilIface→False)→(eqGuard op T X Y ux uy).run P w= .ok () w:=by
   intro h1 h2
   unfold eqGuard
   cases op <;> first
     | rfl
     | (cases ux <;> first
         | (exact (h2 rfl).elim)
         | rfl
         | (cases uy <;> first | (exact (h1 _ _ rfl rfl).elim) | rfl))
 unfold vT at hr
 cases cl with
 | num=>
  simp only at hr
  split at hr
  ·rename_i k a k' b
   obtain ⟨rfl,_⟩:=bx.1 hx
   obtain ⟨rfl,_⟩:=bx.1 hy
   simp only[Sem.run_bind,guard_ok (fun _ _ h=> by cases h) (fun h=> by cases h),Result.andThen_ok]
   have shift_ok:∀(o:BinOp),mF o k a b=some r→(Op.shift o k a k' b).run P w= .ok r w∧r.oneCell'=true:=by
     intro o ho
     unfold mF at ho
     split at ho
     ·cases ho
     ·rename_i yh
      cases o <;> simp only at ho <;> first
        | (cases ho;done)
        | (simp only[Option.some.injEq] at ho;subst ho;exact ⟨by simp[Op.shift,yh],rfl⟩)
   have other:op≠ .shl→op≠ .shr→(if k=k' then jN op k a b else none)=some r→(binOp op T (.int k a) (.int k' b)).run P w= .ok r w∧r.oneCell'=true:=by
     intro h1 h2 mz
     by_cases hk:k=k'
     ·rw[if_pos hk] at mz
      have:=uZ (P:=P) (w:=w) mz
      clear hr ah hx hy
      subst hk
      cases op <;> first | (exact absurd rfl h1) | (exact absurd rfl h2) | (simpa[binOp] using this)
     ·rw[if_neg hk] at mz;cases mz
   cases op with
   | shl=> simpa[binOp] using shift_ok .shl hr
   | shr=> simpa[binOp] using shift_ok .shr hr
   | _=> exact other (by simp) (by simp) hr
  ·rename_i a b
   obtain ⟨rfl,_⟩:=bx.1 hx
   obtain ⟨rfl,_⟩:=bx.1 hy
   simp only[Sem.run_bind,guard_ok (fun _ _ h=> by cases h) (fun h=> by cases h),Result.andThen_ok]
   have:=DX (P:=P) (w:=w) hr
   cases op <;> simpa[binOp] using this
  ·cases hr
 | tru=>
  simp only at hr nq
  have hT:=nq
  split at hr
  ·rename_i a b
   obtain ⟨rfl,_⟩:=bx.1 hx
   obtain ⟨rfl,_⟩:=bx.1 hy
   simp only[Sem.run_bind,guard_ok (fun _ _ h=> by cases h) (fun h=> by cases h),Result.andThen_ok]
   rcases rD hr with ⟨rfl,rfl⟩ | ⟨rfl,rfl⟩<;> exact ⟨by simp only[tO,Sem.run_bind,run_equal_bool hT,Result.andThen_ok,Sem.run_pure],rfl⟩
  ·cases hr
 | ptr=>
  simp only at hr nq
  obtain ⟨e,hT⟩:=nq
  split at hr
  ·obtain ⟨rfl,_⟩:=bx.1 hx
   obtain ⟨rfl,_⟩:=bx.1 hy
   simp only[Sem.run_bind,guard_ok (fun _ _ h=> by cases h) (fun h=> by cases h),Result.andThen_ok]
   rcases rD hr with ⟨rfl,rfl⟩ | ⟨rfl,rfl⟩<;> exact ⟨by simp only[jP,jQ,Sem.run_bind,jO hT none none (Or.inl rfl),Result.andThen_ok,Sem.run_pure];rfl,rfl⟩
  ·obtain ⟨a,rfl,_⟩:=sR.1 hx
   obtain ⟨rfl,_⟩:=bx.1 hy
   simp only[Sem.run_bind,guard_ok (fun _ _ h=> by cases h) (fun h=> by cases h),Result.andThen_ok]
   rcases rD hr with ⟨rfl,rfl⟩ | ⟨rfl,rfl⟩<;> exact ⟨by simp only[jP,jQ,Sem.run_bind,jO hT (some a) none (Or.inr rfl),Result.andThen_ok,Sem.run_pure];rfl,rfl⟩
  ·obtain ⟨rfl,_⟩:=bx.1 hx
   obtain ⟨a,rfl,_⟩:=sR.1 hy
   simp only[Sem.run_bind,guard_ok (fun _ _ h=> by cases h) (fun h=> by cases h),Result.andThen_ok]
   rcases rD hr with ⟨rfl,rfl⟩ | ⟨rfl,rfl⟩<;> exact ⟨by simp only[jP,jQ,Sem.run_bind,jO hT none (some a) (Or.inl rfl),Result.andThen_ok,Sem.run_pure];rfl,rfl⟩
  ·cases hr
theorem V6 (hs:bc L c h w) {op:UnOp} {x:V} {ux:Value} (hx:RV L c x ux) {v:V} {h':Hp} (ah:(unV op x).bind (js · h)=some (v,h')):
 aJ L c w ((Op.unary op ux).run P w) v h':=by
 obtain ⟨r,hr,ah⟩:=Option.bind_eq_some_iff.1 ah
 obtain ⟨rfl,rfl⟩:=qe ah
 unfold unV at hr
 split at hr
 ·rename_i k n
  obtain ⟨rfl,_⟩:=bx.1 hx
  split at hr
  ·simp only[Option.some.injEq] at hr
   subst hr
   exact aJ.same (u:= .int k (k.wrap (0 - n))) (by simp[Op.unary,Op.intArith]) (bx.2 ⟨rfl,rfl⟩) hs
  ·have:=uZ (P:=P) (w:=w) hr
   exact aJ.same (u:=r) (by simpa[Op.unary] using this.1) (bx.2 ⟨rfl,this.2⟩) hs
  ·cases hr
 ·rename_i b
  obtain ⟨rfl,_⟩:=bx.1 hx
  split at hr
  ·simp only[Option.some.injEq] at hr
   subst hr
   exact aJ.same (u:= .bool !b) (by simp[Op.unary]) (bx.2 ⟨rfl,rfl⟩) hs
  ·cases hr
 ·cases hr
theorem P7 (hs:bc L c h w) {XT A:TypeId} {ok:Bool} {zero:V} (hz:ok=true→er P L A zero) (hA:∃d,P.underlying A=some d∧(match d with | .interface _=> false | _=> true)=true) {x:V} {ux:Value} (hx:RV L c x ux) {v:V} {h':Hp} (ah:uS h A ok zero x=some (v,h')):
 aJ L c w ((Instr.typeAssert ux XT A ok).run P w) v h':=by
 obtain ⟨d,hd,hdi⟩:=hA
 unfold uS at ah
 split at ah
 case h_2=> cases ah
 rename_i t' y
 obtain ⟨u,rfl,hy⟩:=yl.1 hx
 split at ah
 ·rename_i ht
  subst ht
  simp only[Option.some.injEq,Prod.mk.injEq] at ah
  obtain ⟨rfl,rfl⟩:=ah
  cases ok with
  | true=>
    refine aJ.same (u:= .tuple #[u,.bool true]) ?_ (cx.2 ⟨[u,.bool true],rfl,hy,bx.2 ⟨rfl,rfl⟩,trivial⟩) hs
    simp only[Instr.typeAssert,Sem.run_bind,run_underlying hd,Result.andThen_ok]
    cases d <;> first | (simp at hdi;done) | simp
  | false=>
    refine aJ.same (u:=u) ?_ hy hs
    simp only[Instr.typeAssert,Sem.run_bind,run_underlying hd,Result.andThen_ok]
    cases d <;> first | (simp at hdi;done) | simp
 ·rename_i ht
  cases ok with
  | false=> simp at ah
  | true=>
    simp only[if_true,Option.some.injEq,Prod.mk.injEq] at ah
    obtain ⟨rfl,rfl⟩:=ah
    obtain ⟨i,z,hi,oy,oL⟩:=hz rfl
    refine aJ.same (u:= .tuple #[z,.bool false]) ?_ (cx.2 ⟨[z,.bool false],rfl,oL c,bx.2 ⟨rfl,rfl⟩,trivial⟩) hs
    simp only[Instr.typeAssert,Sem.run_bind,run_underlying hd,Result.andThen_ok]
    cases d <;> first | (simp at hdi;done) | simp[ht,zeroValue,typeInfo,hi,oy]
theorem P8 (hs:bc L c h w) {i:Nat} {x:V} {ux:Value} (hx:RV L c x ux) {v:V} {h':Hp} (ah:uT h i x=some (v,h')):aJ L c w ((Instr.extract ux i).run P w) v h':=by
 unfold uT at ah
 split at ah
 case h_2=> cases ah
 rename_i vs
 obtain ⟨y,hy,he⟩:=Option.map_eq_some_iff.1 ah
 simp only[Prod.mk.injEq] at he
 obtain ⟨rfl,rfl⟩:=he
 obtain ⟨ws,rfl,hv⟩:=cx.1 hx
 have bW:i < ws.length:=by rw[hv.length];exact (List.getElem?_eq_some_iff.1 hy).1
 refine aJ.same (u:=ws[i]) ?_ (hv.get i y ws[i] hy (List.getElem?_eq_getElem bW)) hs
 simp[Instr.extract,bW]
theorem P9 (hs:bc L c h w) {Ts:Array TypeId} {ty:TypeId} {x y:V} {ux uy:Value} (hx:RV L c x ux) (hy:RV L c y uy) {v:V} {h':Hp} (ah:sN h false x y=some (v,h')):aJ L c w ((Builtin.min_ Ts ty #[ux,uy]).run P w) v h':=by
 unfold sN at ah
 split at ah
 case h_2=> cases ah
 obtain ⟨rfl,_⟩:=bx.1 hx
 obtain ⟨rfl,_⟩:=bx.1 hy
 obtain ⟨rfl,rfl⟩:=qe ah
 exact aJ.same (by simp[Builtin.min_,Builtin.min2]) (bx.2 ⟨rfl,rfl⟩) hs
theorem Qa (hs:bc L c h w) {Ts:Array TypeId} {ty:TypeId} {x y:V} {ux uy:Value} (hx:RV L c x ux) (hy:RV L c y uy) {v:V} {h':Hp} (ah:sN h true x y=some (v,h')):aJ L c w ((Builtin.max_ Ts ty #[ux,uy]).run P w) v h':=by
 unfold sN at ah
 split at ah
 case h_2=> cases ah
 obtain ⟨rfl,_⟩:=bx.1 hx
 obtain ⟨rfl,_⟩:=bx.1 hy
 obtain ⟨rfl,rfl⟩:=qe ah
 exact aJ.same (by simp[Builtin.max_,Builtin.max2]) (bx.2 ⟨rfl,rfl⟩) hs
theorem Ls (hs:bc L c h w) {T:TypeId} (hT:P.underlying T=some .string) {x y:V} {ux uy:Value} (hx:RV L c x ux) (hy:RV L c y uy) {v:V} {h':Hp} (ah:oz h x y=some (v,h')):
 aJ L c w ((Instr.index T ux uy).run P w) v h':=by
 unfold oz at ah
 split at ah
 case h_2=> cases ah
 rename_i s i hi
 obtain ⟨k,rfl⟩:=iW hi hy
 obtain ⟨rfl,_⟩:=bx.1 hx
 split at ah
 case isFalse=> cases ah
 rename_i h0
 split at ah
 case h_2=> cases ah
 rename_i b hb
 simp only[Option.some.injEq,Prod.mk.injEq] at ah
 obtain ⟨rfl,rfl⟩:=ah
 refine aJ.same (u:= .int .u8 b.toNat) ?_ (bx.2 ⟨rfl,rfl⟩) hs
 simp[Instr.index,asIntOf,run_underlying hT,h0,hb]
theorem Qb (hs:bc L c h w) {T:TypeId} (hT:P.concrete T=true) {x:V} {ux:Value} (hx:RV L c x ux):aJ L c w ((Instr.makeInterface T ux).run P w) (.iface T x) h:=
 aJ.same (run_makeInterface (P:=P) w T ux hT) (yl.2 ⟨ux,rfl,hx⟩) hs
theorem Qc (hs:bc L c h w) {T:TypeId} (hT:P.underlying T=some .string) {x:V} {ux:Value} (hx:RV L c x ux) {v:V} {h':Hp} (ah:xV h x=some (v,h')):
 aJ L c w ((Instr.range T ux).run P w) v h':=by
 unfold xV at ah
 split at ah
 case h_2=> cases ah
 rename_i s
 obtain ⟨rfl,_⟩:=bx.1 hx
 simp only[Option.some.injEq,Prod.mk.injEq] at ah
 obtain ⟨rfl,rfl⟩:=ah
 have dh:=hs.push (.stringIter s 0) (.fN s 0) ⟨w.heap.size,0,none,0⟩ rfl ⟨rfl,rfl,iS⟩
 have hl:(c.push ⟨w.heap.size,0,none,0⟩).loc h.length=some ⟨w.heap.size,0,none,0⟩:=by simp[Ctx.push,hs.n]
 refine ⟨.pointer (some ⟨w.heap.size,0,none⟩),_,_,?_,sS dh hl rfl rfl,dh,c.gJ _,St.alloc _ _⟩
 simp[Instr.range,run_underlying hT]
theorem Qd (hs:bc L c h w) {ty:TypeId} {x:V} {ux:Value} (hx:RV L c x ux) {v:V} {h':Hp} (ah:xW h x=some (v,h')):
 aJ L c w ((Instr.next ux true ty).run P w) v h':=by
 unfold xW at ah
 split at ah
 case h_2=> cases ah
 rename_i id
 split at ah
 case h_2=> cases ah
 rename_i s pos hk
 rcases hs.live id _ hk with ⟨l,hl⟩ | hd
 case inr=> cases hd
 obtain ⟨k,lC,hz,hb⟩:=hs.loc id l hl
 rw[hk] at lC;cases lC
 obtain ⟨h1,h2,h3⟩:=hb
 have hu:=iV hx hl h2 (o:=0) rfl
 subst hu
 have dE:(getObj l.bq).run P w= .ok (.stringIter s pos) w:=by simp[getObj,Sem.run,h3]
 split at ah
 ·rename_i bW
  simp only[Option.some.injEq,Prod.mk.injEq] at ah
  obtain ⟨rfl,rfl⟩:=ah
  have pK:(setObj l.bq (.stringIter s (pos+(Utf8.decode s pos).2))).run P w= .ok () {w with heap:=w.heap.setIfInBounds l.bq (.stringIter s (pos+(Utf8.decode s pos).2))}:=by simp[setObj,Sem.run,h3]
  have hmv:c.move id l=c:=by
    cases c with
    | mk z loc n=>
      simp only[Ctx.move]
      congr
      funext j
      by_cases hj:j=id
      ·subst hj;simp only[if_true];exact hl.symm
      ·simp[hj]
  have dh:=hs.move (l':=l) hl (w':= {w with heap:=w.heap.setIfInBounds l.bq (.stringIter s (pos+(Utf8.decode s pos).2))}) (.fN s (pos+(Utf8.decode s pos).2)) (by rw[hmv];exact Ctx.le_refl c) hz (Or.inl rfl)
    (fun b hb tI=> by simp[Array.getElem?_setIfInBounds,Ne.symm tI]) (fun o' jK=> by rw[hz] at jK;cases jK)
    ⟨h1,h2,by simp[Array.getElem?_setIfInBounds,ek h3]⟩
  rw[hmv] at dh
  refine ⟨.tuple #[.bool true,goInt pos,.int .i32 (Utf8.decode s pos).1],c,_,?_,cx.2 ⟨[.bool true,goInt pos,.int .i32 (Utf8.decode s pos).1],rfl,bx.2 ⟨rfl,rfl⟩,bx.2 ⟨rfl,rfl⟩,bx.2 ⟨rfl,rfl⟩,trivial⟩,dh,Ctx.le_refl c,⟨rfl,rfl,rfl,by simp⟩⟩
  simp only[Instr.next,Sem.run_bind,dE,Result.andThen_ok,if_pos bW,pK,Sem.run_pure]
 ·rename_i bW
  simp only[Option.some.injEq,Prod.mk.injEq] at ah
  obtain ⟨rfl,rfl⟩:=ah
  refine aJ.same (u:= .tuple #[.bool false]) ?_ (cx.2 ⟨[.bool false],rfl,bx.2 ⟨rfl,rfl⟩,trivial⟩) hs
  simp only[Instr.next,Sem.run_bind,dE,Result.andThen_ok,if_neg bW,Sem.run_pure]
end Go.Vm
namespace Go.Vm
def aC (P:Program) (t:TypeId):Option Nat:=
 match P.underlying t with
 | some (.struct _)=> some (P.underlyingId t)
 | some (.array _ _)=> some (P.underlyingId t)
 | _=> none
def ak (P:Program):cq where
 size:=P.cellsOf
 fields t:=if t < P.types.size then match P.underlying t with | some (.struct fs)=> some (fs.toList.map fun f=> aC P f.type) | _=> none else none
 arr t:=if t < P.types.size then match P.underlying t with | some (.array n e)=> some (n,aC P e) | _=> none else none
def Qe (P:Program) (t:Nat):Bool:=
 match P.underlying t with
 | some (.struct fs)=> P.cellsOf t==((fs.toList.map fun f=> aC P f.type).map (ak P).az).sum
 | some (.array n e)=> P.cellsOf t==n *(ak P).az (aC P e)
 | _=> true
def V7 (P:Program):Bool:=(List.range P.types.size).all (Qe P)
theorem GC {P:Program} (h:V7 P=true):(ak P).OK where
 st t fs hf:=by
  simp only[ak] at hf
  split at hf
  case isFalse=> cases hf
  rename_i bW
  split at hf
  ·rename_i fs' hu
   simp only[Option.some.injEq] at hf
   have h1:=List.all_eq_true.1 h t (List.mem_range.2 bW)
   simp only[Qe,hu,beq_iff_eq] at h1
   show P.cellsOf t=_
   rw[h1,hf]
  ·cases hf
 ar t n e ha:=by
  simp only[ak] at ha
  split at ha
  case isFalse=> cases ha
  rename_i bW
  split at ha
  ·rename_i n' e' hu
   simp only[Option.some.injEq,Prod.mk.injEq] at ha
   obtain ⟨rfl,rfl⟩:=ha
   have h1:=List.all_eq_true.1 h t (List.mem_range.2 bW)
   simp only[Qe,hu,beq_iff_eq] at h1
   exact h1
  ·cases ha
 no t r ha:=by
  simp only[ak] at ha ⊢
  split at ha
  case isFalse=> cases ha
  rename_i bW
  rw[if_pos bW]
  split at ha
  ·rename_i hu;simp[hu]
  ·cases ha
def nQ (P:Program) (t:TypeId):Bool:=(P.info? t).isSome &&(P.underlying t).isSome && P.cellsOf t==(ak P).az (aC P t)
theorem cB {P:Program} {t:TypeId} (h:nQ P t=true):TG P (ak P) t (aC P t):=by
 simp only[nQ,Bool.and_eq_true,beq_iff_eq] at h
 obtain ⟨⟨h1,h2⟩,h3⟩:=h
 obtain ⟨i,hi⟩:=Option.isSome_iff_exists.1 h1
 obtain ⟨d,hd⟩:=Option.isSome_iff_exists.1 h2
 refine ⟨⟨i,hi,by rw[←h3];simp[Program.cellsOf,hi]⟩,d,hd,?_⟩
 simp only[aC,hd]
 cases d <;> rfl
def zv (P:Program) (full:Bool):Nat→TypeId→Option V
 | 0,_=> none
 | n+1,t=>
   match P.underlying t with
   | some (.struct fs)=>(fs.toList.mapM fun f=> zv P full n f.type).map fun vs=> .st (P.underlyingId t) vs
   | some (.array k e)=>(zv P full n e).map fun v=> .arr (P.underlyingId t) (List.replicate k v)
   | some (.int k)=> some (.s (.int k 0))
   | some .bool=> some (.s (.bool false))
   | some .string=> some (.s (.string ByteArray.empty))
   | some (.pointer _)=> some (.s (.pointer none))
   | some (.slice e)=> some (.al full (aC P e) [])
   | some (.interface _)=> some (.s .nilIface)
   | some (.func ..)=> some (.s .nilFunc)
   | some (.map _ _)=> some (.s (.map none))
   | _=> none
def zc :V→List Value
 | .s x=> [x]
 | .al _ _ _=> [.slice none 0 0]
 | .st _ fs=> zcs fs
 | .arr _ es=> zcs es
 | _=> []
where zcs:List V→List Value
  | []=> []
  | v::vs=> zc v++zcs vs
def zOK (L:cq):V→Bool
 | .s x=> x.oneCell'
 | .al _ _ []=> true
 | .st t fs=> It fs && decide (L.fields t=some (fs.map V.ty))&& fs.all V.ax
 | .arr t es=> It es &&(match L.arr t with | some (n,e)=> n==es.length && es.all (fun x=> decide (x.ty=e)&& x.ax) | none=> false)
 | _=> false
where It:List V→Bool
  | []=> true
  | v::vs=> zOK L v && It vs
theorem Iu {L:cq} {c:Ctx}:∀(v:V),zOK L v=true→RC L c v (zc v):=by
 intro v
 induction v using V.rec (motive_2:=fun vs=> zOK.It L vs=true→bV L c vs (zc.zcs vs)) with
 | s x=> intro h;simp only[zOK] at h;simp only[RC,zc,true_and];exact h
 | al full g es=>
   intro h
   cases es with
   | nil=> exact (ea rfl).1 (eU (fun _=> rfl))
   | cons a b=> simp[zOK] at h
 | st t fs ih=>
   intro h
   simp only[zOK,Bool.and_eq_true,decide_eq_true_eq,List.all_eq_true] at h
   simp only[RC,zc]
   exact ⟨ih h.1.1,h.1.2,h.2⟩
 | arr t es ih=>
   intro h
   simp only[zOK,Bool.and_eq_true] at h
   obtain ⟨h1,h2⟩:=h
   simp only[RC,zc]
   refine ⟨ih h1,?_⟩
   split at h2
   ·rename_i n e ha
    simp only[Bool.and_eq_true,beq_iff_eq,List.all_eq_true,decide_eq_true_eq] at h2
    exact ⟨e,by rw[ha,h2.1],h2.2⟩
   ·cases h2
 | nil=> simp only[bV,zc.zcs]
 | cons v vs h1 h2=>
   rename_i h
   simp only[zOK.It,Bool.and_eq_true] at h
   simp only[bV,zc.zcs]
   exact ⟨_,_,rfl,h1 h.1,h2 h.2⟩
 | _=> intro h;simp[zOK] at h
def eqz :Value→Value→Bool
 | .bool a,.bool b=> a==b
 | .int k a,.int k' b=> decide (k=k')&& a==b
 | .string a,.string b=> decide (a=b)
 | .pointer none,.pointer none=> true
 | .slice none a b,.slice none a' b'=> a==a' && b==b'
 | .map none,.map none=> true
 | .nilFunc,.nilFunc=> true
 | .nilIface,.nilIface=> true
 | _,_=> false
theorem Qf {a b:Value} (h:eqz a b=true):a=b:=by
 unfold eqz at h
 split at h <;> simp_all
def AI :List Value→List Value→Bool
 | [],[]=> true
 | a::as,b::bs=> eqz a b && AI as bs
 | _,_=> false
theorem wg :∀ {as bs:List Value},AI as bs=true→as=bs
 | [],[],_=> rfl
 | [],_::_,h=> by simp[AI] at h
 | _::_,[],h=> by simp[AI] at h
 | a::as,b::bs,h=> by
   simp only[AI,Bool.and_eq_true] at h
   rw[Qf h.1,wg h.2]
def Iv (P:Program) (t:TypeId) (z:V):Bool:=
 zOK (ak P) z && match P.info? t with
 | some i=> match i.zero with
   | some (.agg cs)=> z.ty.isSome && AI (zc z) cs.toList
   | some x=> z.ty.isNone && AI (zc z) [x]
   | none=> false
 | none=> false
theorem Iw {P:Program} {t:TypeId} {z:V} (h:Iv P t z=true):er P (ak P) t z:=by
 simp only[Iv,Bool.and_eq_true] at h
 obtain ⟨h1,h2⟩:=h
 split at h2
 case h_2=> cases h2
 rename_i i hi
 split at h2
 ·rename_i cs hz
  simp only[Bool.and_eq_true] at h2
  obtain ⟨n,hn⟩:=Option.isSome_iff_exists.1 h2.1
  refine ⟨i,_,hi,hz,fun c=>(eV hn).2 ⟨cs.toList,by simp,?_⟩⟩
  rw[←wg h2.2];exact Iu z h1
 ·rename_i x hx hz
  simp only[Bool.and_eq_true] at h2
  have hn:z.ty=none:=by simpa using h2.1
  refine ⟨i,x,hi,hz,fun c=>(ea hn).2 ?_⟩
  rw[←wg h2.2];exact Iu z h1
 ·cases h2
def AJ (P:Program) (t:TypeId):Value→Option V
 | .bool b=> some (.s (.bool b))
 | .int k n=> some (.s (.int k n))
 | .string s=> some (.s (.string s))
 | .pointer none=> some (.s (.pointer none))
 | .nilIface=> some (.s .nilIface)
 | .nilFunc=> some (.s .nilFunc)
 | .slice none 0 0=> match P.underlying t with | some (.slice e)=> some (.al true (aC P e) []) | _=> none
 | _=> none
theorem DY {P:Program} {L:cq} {c:Ctx} {t:TypeId} {u:Value} {v:V} (h:AJ P t u=some v):RV L c v u:=by
 unfold AJ at h
 split at h <;> first
   | (simp only[Option.some.injEq] at h;subst h;exact bx.2 ⟨rfl,rfl⟩)
   | (split at h
      ·simp only[Option.some.injEq] at h;subst h;exact eU (fun _=> rfl)
      ·cases h)
   | (cases h;done)
def eu (P:Program) (t:TypeId):Operand→Option X
 | .tmp n=> some (.t n)
 | .const v=>(AJ P t v).map .c
 | .func f=> some (.c (.fn f []))
 | .global _=> none
def RF (L:cq) (c:Ctx) (fr:Fr) (a:Act):Prop:=fC L c fr a.tmps.toList
theorem fC.getD {L:cq} {c:Ctx} {vs:List V} {us:List Value} (h:fC L c vs us) (n:Nat):RV L c (vs.getD n (.bI [])) (us.getD n undef):=by
 by_cases hn:n < vs.length
 ·have uu:n < us.length:=by rw[h.length];exact hn
  have:=h.get n vs[n] us[n] (List.getElem?_eq_getElem hn) (List.getElem?_eq_getElem uu)
  simpa[List.getD,List.getElem?_eq_getElem hn,List.getElem?_eq_getElem uu] using this
 ·have uu:¬n < us.length:=by rw[h.length];exact hn
  simp only[List.getD,List.getElem?_eq_none (Nat.le_of_not_lt hn),List.getElem?_eq_none (Nat.le_of_not_lt uu),Option.getD_none]
  exact cx.2 ⟨[],rfl,trivial⟩
theorem q23z {P:Program} {L:cq} {c:Ctx} {t:TypeId} {fr:Fr} {a:Act} (hf:RF L c fr a) {o:Operand} {x:X} (h:eu P t o=some x):RV L c (x.ev fr) (a.eval o):=by
 cases o with
 | tmp n=>
   simp only[eu,Option.some.injEq] at h
   subst h
   have:=fC.getD hf n
   simpa[X.ev,Act.eval,Array.getD_eq_getD_getElem?] using this
 | const v=>
   simp only[eu] at h
   obtain ⟨y,hy,rfl⟩:=Option.map_eq_some_iff.1 h
   exact DY hy
 | func f=>
   simp only[eu,Option.some.injEq] at h
   subst h
   exact Cj.2 ⟨[],rfl,trivial⟩
 | global _=> simp[eu] at h
def cu (P:Program):List (TypeId×Operand)→Option (List X)
 | []=> some []
 | (t,o)::os=> match eu P t o,cu P os with | some x,some xs=> some (x::xs) | _,_=> none
theorem q12z {P:Program} {L:cq} {c:Ctx} {fr:Fr} {a:Act} (hf:RF L c fr a):∀ {os:List (TypeId×Operand)} {xs:List X},cu P os=some xs→fC L c (xs.map (X.ev fr)) (os.map fun p=> a.eval p.2)
 | [],xs,h=> by simp only[cu,Option.some.injEq] at h;subst h;trivial
 | (t,o)::os,xs,h=> by
   simp only[cu] at h
   split at h
   ·rename_i x xs' h1 h2
    simp only[Option.some.injEq] at h
    subst h
    exact ⟨q23z hf h1,q12z hf h2⟩
   ·cases h
end Go.Vm
