/- An abstract machine for loaded programs, part 1: what it computes is what Go computes. Conditions: none. -/
import Derived.ProofKit
import Derived.WalkKit
import Derived.Laws.Cover4
set_option linter.unusedSimpArgs false
set_option linter.unusedVariables false
set_option linter.unusedSectionVars false
namespace Go.Vm
inductive V where
 | s (x:Value)
 | ptr (id:Nat) (path:List Nat) (aw:Nat)
 | ref (id:Nat) (path:List Nat) (g:Option Nat) (off len aw:Nat)
 | al (full:Bool) (g:Option Nat) (es:List V)
 | dP (v:V)
 | st (t:Nat) (fs:List V)
 | arr (t:Nat) (es:List V)
 | bI (vs:List V)
 | iface (t:Nat) (v:V)
 | fn (f:Nat) (cap:List V)
 | mp (id:Nat)
 | top
 deriving Inhabited
def V.ty :V→Option Nat
 | .st t _=> some t
 | .arr t _=> some t
 | _=> none
def V.ax :V→Bool
 | .bI _=> false
 | .top=> false
 | _=> true
structure cu where
 size:Nat→Nat
 fields:Nat→Option (List (Option Nat))
 arr:Nat→Option (Nat×Option Nat)
def cu.az (L:cu):Option Nat→Nat
 | some t=> L.size t
 | none=> 1
structure cu.OK (L:cu):Prop where
 st:∀t fs,L.fields t=some fs→L.size t=(fs.map L.az).sum
 ar:∀t n e,L.arr t=some (n,e)→L.size t=n * L.az e
 no:∀t r,L.arr t=some r→L.fields t=none
def cu.walk (L:cu):Option Nat→List Nat→Option (Nat×Option Nat)
 | g,[]=> some (0,g)
 | none,_::_=> none
 | some t,i::p=>
   match L.fields t with
   | some fs=> match fs[i]? with
     | some g=>(L.walk g p).map fun r=>(((fs.take i).map L.az).sum+r.1,r.2)
     | none=> none
   | none=> match L.arr t with
     | some (n,e)=> if i < n then (L.walk e p).map fun r=>(i * L.az e+r.1,r.2) else none
     | none=> none
def cu.row (L:cu) (g:Option Nat):List Nat→Option (Nat×Option Nat×Option Nat)
 | []=> some (0,g,none)
 | i::p=> match L.walk g p with
   | some (o,some t)=>(L.arr t).map fun r=>(i * L.az g+o,r.2,some r.1)
   | _=> none
def cu.off (L:cu) (g:Option Nat):List Nat→Option Nat
 | []=> some 0
 | i::p=>(L.walk g p).map fun r=> i * L.az g+r.1
structure Loc where
 bu:Nat
 cap:Nat
 tag:Option Nat
 aw:Nat
structure Ctx where
 z:Nat→Option Obj
 loc:Nat→Option Loc
 n:Nat
def ng (cs:Array Value) (off n:Nat):List Value:=(cs.toList.drop off).take n
def wr :V→List Value→Value→Prop
 | .st _ _,us,u=> u= .agg us.toArray
 | .arr _ _,us,u=> u= .agg us.toArray
 | _,us,u=> us=[u]
def eM (m:Option Nat) (off len aw k cap:Nat):Prop:=
 match m with
 | none=> off+len≤aw∧aw≤off+k∧off+k≤cap
 | some n=> off+k=n
section
variable (L : cu) (c : Ctx)
mutual
def RC :V→List Value→Prop
 | .s x,us=> us=[x]∧x.oneCell'=true
 | .ptr id path aw,us=>∃a,us=[.pointer (some a)]∧id < c.n∧
     ∀l,c.loc id=some l→aw≤l.aw∧(l.aw=aw→∃o,L.off l.tag path=some o∧a=⟨l.bu,o,none⟩)
 | .ref id path g off len aw,us=>∃a k,us=[.slice (some a) len k]∧id < c.n∧len≤k∧
     ∀l,c.loc id=some l→aw≤l.aw∧(l.aw=aw→∃o m,L.row l.tag path=some (o,g,m)∧a=⟨l.bu,o+off * L.az g,none⟩∧eM m off len aw k l.cap)
 | .al full g es,us=>∃a k,us=[.slice a es.length k]∧es.length≤k∧(full=true→k=es.length)∧(∀e∈es,e.ty=g∧e.ax=true)∧
     (es=[]∨∃b off cs ty fz,a=some ⟨b,off,none⟩∧c.z b=some (.cells cs ty fz)∧bV es (ng cs off (es.length * L.az g)))
 | .dP v,us=>∃b off cs ty fz,us=[.pointer (some ⟨b,off,none⟩)]∧c.z b=some (.cells cs ty fz)∧RC v (ng cs off (L.az v.ty))
 | .st t fs,us=> bV fs us∧L.fields t=some (fs.map V.ty)∧∀f∈fs,f.ax=true
 | .arr t es,us=> bV es us∧∃e,L.arr t=some (es.length,e)∧∀x∈es,x.ty=e∧x.ax=true
 | .bI vs,us=>∃ws:List Value,us=[.tuple ws.toArray]∧RW vs ws
 | .iface t v,us=>∃u us',us=[.iface t u]∧RC v us'∧wr v us' u
 | .fn f cap,us=>∃ws:List Value,us=[.func (.func f) #[] ws.toArray]∧RW cap ws
 | .mp id,us=>∃b,us=[.map (some b)]∧id < c.n∧∀l,c.loc id=some l→l.aw=0→b=l.bu
 | .top,us=>∃u,us=[u]
def bV :List V→List Value→Prop
 | [],us=> us=[]
 | v::vs,us=>∃u1 u2,us=u1++u2∧RC v u1∧bV vs u2
def RW :List V→List Value→Prop
 | [],us=> us=[]
 | v::vs,us=>∃u us',us=u::us'∧(∃u1,RC v u1∧wr v u1 u)∧RW vs us'
end
def RV (v:V) (u:Value):Prop:=∃us,RC L c v us∧wr v us u
end
end Go.Vm
namespace Go.Vm
variable {L : cu} {c c' : Ctx}
theorem jP (hL:L.OK) {vs:List V} (ih:∀v∈vs,∀us,RC L c v us→us.length=L.az v.ty):∀us,bV L c vs us→us.length=(vs.map fun v=> L.az v.ty).sum:=by
 induction vs with
 | nil=> intro us h;simp[bV] at h;simp[h]
 | cons v vs iv=>
   intro us h
   simp only[bV] at h
   obtain ⟨u1,u2,rfl,h1,h2⟩:=h
   have:=ih v (by simp) u1 h1
   have:=iv (fun x hx=> ih x (by simp[hx])) u2 h2
   simp;omega
theorem p9 {α:Type} (l:List α) (f:α→Nat) (k:Nat) (h:∀x∈l,f x=k):(l.map f).sum=l.length * k:=by
 induction l with
 | nil=> simp
 | cons a l ih=> simp[ih (fun x hx=> h x (by simp[hx])),h a (by simp),Nat.add_mul];omega
theorem q22z (hL:L.OK):∀(v:V) (us:List Value),RC L c v us→us.length=L.az v.ty:=by
 intro v
 induction v using V.rec (motive_2:=fun vs=>∀v∈vs,∀us,RC L c v us→us.length=L.az v.ty) with
 | s x=> intro us h;simp only[RC] at h;simp[h.1,V.ty,cu.az]
 | ptr=> intro us h;simp only[RC] at h;obtain ⟨a,h,_⟩:=h;simp[h,V.ty,cu.az]
 | ref=> intro us h;simp only[RC] at h;obtain ⟨a,k,h,_⟩:=h;simp[h,V.ty,cu.az]
 | al=> intro us h;simp only[RC] at h;obtain ⟨a,k,h,_⟩:=h;simp[h,V.ty,cu.az]
 | dP=> intro us h;simp only[RC] at h;obtain ⟨_,_,_,_,_,h,_⟩:=h;simp[h,V.ty,cu.az]
 | st t fs ih=>
   intro us h
   simp only[RC] at h
   obtain ⟨h,hf,_⟩:=h
   rw[jP hL ih us h]
   simp[V.ty,cu.az,hL.st _ _ hf,List.map_map]
   rfl
 | arr t es ih=>
   intro us h
   simp only[RC] at h
   obtain ⟨h,e,ha,he⟩:=h
   rw[jP hL ih us h,p9 es _ (L.az e) (fun x hx=> by rw[(he x hx).1])]
   simp[V.ty,cu.az,hL.ar _ _ _ ha]
 | bI=> intro us h;simp only[RC] at h;obtain ⟨ws,h,_⟩:=h;simp[h,V.ty,cu.az]
 | iface=> intro us h;simp only[RC] at h;obtain ⟨u,us',h,_⟩:=h;simp[h,V.ty,cu.az]
 | fn=> intro us h;simp only[RC] at h;obtain ⟨ws,h,_⟩:=h;simp[h,V.ty,cu.az]
 | mp=> intro us h;simp only[RC] at h;obtain ⟨b,h,_⟩:=h;simp[h,V.ty,cu.az]
 | top=> intro us h;simp only[RC] at h;obtain ⟨u,h⟩:=h;simp[h,V.ty,cu.az]
 | nil=> rename_i hv _ _;exact absurd hv (by simp)
 | cons v vs h1 h2=>
   rename_i x hx us h
   rcases List.mem_cons.1 hx with rfl | hx
   ·exact h1 us h
   ·exact h2 x hx us h
theorem sC (hL:L.OK) {vs:List V} {us:List Value} (h:bV L c vs us):us.length=(vs.map fun v=> L.az v.ty).sum:=
 jP hL (fun v _=> q22z hL v) us h
theorem q8z (hL:L.OK) {vs:List V} {us:List Value} {g:Option Nat} (h:bV L c vs us) (hg:∀e∈vs,e.ty=g):us.length=vs.length * L.az g:=by
 rw[sC hL h]
 exact p9 _ _ _ (fun x hx=> by rw[hg x hx])
theorem dX {a b:List V} {us:List Value}:bV L c (a++b) us↔∃u1 u2,us=u1++u2∧bV L c a u1∧bV L c b u2:=by
 induction a generalizing us with
 | nil=> exact ⟨fun h=>⟨[],us,rfl,by simp[bV],h⟩,fun ⟨u1,u2,h1,h2,h3⟩=> by simp only[bV] at h2;subst h2;subst h1;exact h3⟩
 | cons v vs ih=>
   simp only[List.cons_append,bV]
   constructor
   ·rintro ⟨u1,u2,rfl,h1,h2⟩
    obtain ⟨x,y,rfl,h3,h4⟩:=ih.1 h2
    exact ⟨u1++x,y,by simp,⟨u1,x,rfl,h1,h3⟩,h4⟩
   ·rintro ⟨_,u2,rfl,⟨u1,x,rfl,h1,h3⟩,h4⟩
    exact ⟨u1,x++u2,by simp,h1,ih.2 ⟨x,u2,rfl,h3,h4⟩⟩
theorem nh (hL:L.OK) {vs:List V} {us:List Value} (h:bV L c vs us) {i:Nat} {v:V} (hi:vs[i]? =some v):
 RC L c v ((us.drop ((vs.take i).map fun v=> L.az v.ty).sum).take (L.az v.ty)):=by
 induction vs generalizing us i with
 | nil=> simp at hi
 | cons x xs ih=>
   simp only[bV] at h
   obtain ⟨u1,u2,rfl,h1,h2⟩:=h
   have hlen:=q22z hL x u1 h1
   cases i with
   | zero=>
     simp at hi;subst hi
     simpa[←hlen] using h1
   | succ i=>
     simp at hi
     have:=ih h2 hi
     simp only[List.take_succ_cons,List.map_cons,List.sum_cons,←hlen]
     rw[←List.drop_drop,List.drop_left]
     exact this
theorem qJ {α:Type} (f:α→Nat):∀(l:List α) (i:Nat) (v:α),l[i]? =some v→((l.take i).map f).sum+f v≤(l.map f).sum
 | [],i,v,h=> by simp at h
 | x::xs,0,v,h=> by simp at h;subst h;simp
 | x::xs,i+1,v,h=> by
   have:=qJ f xs i v (by simpa using h)
   simp only[List.take_succ_cons,List.map_cons,List.sum_cons];omega
theorem iX (hL:L.OK) {vs:List V} {us:List Value} (h:bV L c vs us) {i:Nat} {v:V} (hi:vs[i]? =some v):
 ((vs.take i).map fun v=> L.az v.ty).sum+L.az v.ty≤us.length:=by
 rw[sC hL h]
 exact qJ (fun v=> L.az v.ty) vs i v hi
theorem dJ {α:Type} (l:List α) (f:α→Nat) (k i:Nat) (h:∀x∈l,f x=k) (hi:i≤l.length):((l.take i).map f).sum=i * k:=by
 rw[p9 _ f k (fun x hx=> h x (List.mem_of_mem_take hx))]
 simp[Nat.min_eq_left hi]
theorem cR (hL:L.OK) {vs:List V} {us:List Value} {g:Option Nat} (h:bV L c vs us) (hg:∀e∈vs,e.ty=g) {i:Nat} {v:V} (hi:vs[i]? =some v):
 RC L c v ((us.drop (i * L.az g)).take (L.az g)):=by
 have hv:v.ty=g:=hg v (List.mem_of_getElem? hi)
 have bW:i < vs.length:=(List.getElem?_eq_some_iff.1 hi).1
 have:=nh hL h hi
 rw[dJ vs _ (L.az g) i (fun x hx=> by rw[hg x hx]) (by omega),hv] at this
 exact this
theorem da (hL:L.OK) {vs:List V} {us:List Value} {g:Option Nat} (h:bV L c vs us) (hg:∀e∈vs,e.ty=g) {i:Nat} {v:V} (hi:vs[i]? =some v):
 i * L.az g+L.az g≤us.length:=by
 rw[q8z hL h hg]
 have bW:i < vs.length:=(List.getElem?_eq_some_iff.1 hi).1
 have:(i+1)* L.az g≤vs.length * L.az g:=Nat.mul_le_mul_right _ (by omega)
 rw[Nat.add_mul] at this;omega
theorem eN (hL:L.OK) {vs:List V} {us:List Value} {g:Option Nat} (h:bV L c vs us) (hg:∀e∈vs,e.ty=g) (i:Nat) (hi:i≤vs.length):
 bV L c (vs.take i) (us.take (i * L.az g))∧bV L c (vs.drop i) (us.drop (i * L.az g)):=by
 have h':=h
 rw[←List.take_append_drop i vs] at h'
 obtain ⟨u1,u2,rfl,h1,h2⟩:=dX.1 h'
 have hl:=q8z hL h1 (fun e he=> hg e (List.mem_of_mem_take he))
 rw[List.length_take,Nat.min_eq_left hi] at hl
 rw[←hl,List.take_left,List.drop_left]
 exact ⟨h1,h2⟩
theorem vS (hL:L.OK) {vs:List V} {us:List Value} {g:Option Nat} (h:bV L c vs us) (hg:∀e∈vs,e.ty=g) (i n:Nat) (hi:i+n≤vs.length):
 bV L c ((vs.drop i).take n) ((us.drop (i * L.az g)).take (n * L.az g)):=by
 have h1:=(eN hL h hg i (by omega)).2
 exact (eN hL h1 (fun e he=> hg e (List.mem_of_mem_drop he)) n (by simp;omega)).1
structure Ctx.le (c c':Ctx):Prop where
 z:∀b o,c.z b=some o→c'.z b=some o
 n:c.n≤c'.n
 loc:∀id l',id < c.n→c'.loc id=some l'→∃l,c.loc id=some l∧l.tag=l'.tag∧l.aw≤l'.aw∧(l.aw=l'.aw→l'.bu=l.bu∧l'.cap=l.cap)
structure Ctx.DO (c c':Ctx):Prop where
 z:∀b cs ty fz,c.z b=some (.cells cs ty fz)→c'.z b=some (.cells cs ty fz)
 n:c.n≤c'.n
 loc:∀id l',id < c.n→c'.loc id=some l'→∃l,c.loc id=some l∧l.tag=l'.tag∧l.aw≤l'.aw∧(l.aw=l'.aw→l'.bu=l.bu∧l'.cap=l.cap)
theorem Ctx.le.DO (h:c.le c'):c.DO c':=⟨fun b cs ty fz hb=> h.z b _ hb,h.n,h.loc⟩
theorem Ctx.le_refl (c:Ctx):c.le c:=⟨fun _ _ h=> h,Nat.le_refl _,fun _ l _ h=>⟨l,h,rfl,Nat.le_refl _,fun _=>⟨rfl,rfl⟩⟩⟩
theorem Ctx.le.trans {a b d:Ctx} (h:a.le b) (h':b.le d):a.le d where
 z b o hb:=h'.z _ _ (h.z _ _ hb)
 n:=Nat.le_trans h.n h'.n
 loc id l'' hid hl:=by
   obtain ⟨l',h1,h2,h3,h4⟩:=h'.loc id l'' (Nat.lt_of_lt_of_le hid h.n) hl
   obtain ⟨l,k1,k2,k3,k4⟩:=h.loc id l' hid h1
   refine ⟨l,k1,k2.trans h2,Nat.le_trans k3 h3,fun e=> ?_⟩
   obtain ⟨x,y⟩:=h4 (by omega)
   obtain ⟨x',y'⟩:=k4 (by omega)
   exact ⟨x.trans x',y.trans y'⟩
theorem Io (hle:c.DO c'):∀v:V,(∀us,RC L c v us→RC L c' v us):=by
 intro v
 induction v using V.rec (motive_2:=fun vs=>(∀us,bV L c vs us→bV L c' vs us)∧(∀us,RW L c vs us→RW L c' vs us)) with
 | s x=> intro us h;simpa only[RC] using h
 | ptr id path aw=>
   intro us h;simp only[RC] at h ⊢
   obtain ⟨a,h,hid,hl⟩:=h
   refine ⟨a,h,Nat.lt_of_lt_of_le hid hle.n,fun l' dv=> ?_⟩
   obtain ⟨l,h1,h2,h3,h4⟩:=hle.loc id l' hid dv
   obtain ⟨k1,k2⟩:=hl l h1
   refine ⟨Nat.le_trans k1 h3,fun e=> ?_⟩
   have e1:l.aw=aw:=by omega
   obtain ⟨o,ho,ha⟩:=k2 e1
   obtain ⟨x,_⟩:=h4 (by omega)
   exact ⟨o,by rw[←h2];exact ho,by rw[x];exact ha⟩
 | ref id path g off len aw=>
   intro us h;simp only[RC] at h ⊢
   obtain ⟨a,k,h,hid,lT,hl⟩:=h
   refine ⟨a,k,h,Nat.lt_of_lt_of_le hid hle.n,lT,fun l' dv=> ?_⟩
   obtain ⟨l,h1,h2,h3,h4⟩:=hle.loc id l' hid dv
   obtain ⟨k1,k2⟩:=hl l h1
   refine ⟨Nat.le_trans k1 h3,fun e=> ?_⟩
   have e1:l.aw=aw:=by omega
   obtain ⟨o,m,hr,ha,hm⟩:=k2 e1
   obtain ⟨x,y⟩:=h4 (by omega)
   refine ⟨o,m,by rw[←h2];exact hr,by rw[x];exact ha,?_⟩
   rw[y];exact hm
 | al full g es ih=>
   intro us h;simp only[RC] at h ⊢
   obtain ⟨a,k,h,h1,h2,h3,h4⟩:=h
   refine ⟨a,k,h,h1,h2,h3,?_⟩
   rcases h4 with h4 | ⟨b,off,cs,ty,fz,ha,hz,hr⟩
   ·exact .inl h4
   ·exact .inr ⟨b,off,cs,ty,fz,ha,hle.z _ _ _ _ hz,ih.1 _ hr⟩
 | dP v ih=>
   intro us h;simp only[RC] at h ⊢
   obtain ⟨b,off,cs,ty,fz,h,hz,hr⟩:=h
   exact ⟨b,off,cs,ty,fz,h,hle.z _ _ _ _ hz,ih _ hr⟩
 | st t fs ih=> intro us h;simp only[RC] at h ⊢;exact ⟨ih.1 _ h.1,h.2⟩
 | arr t es ih=> intro us h;simp only[RC] at h ⊢;exact ⟨ih.1 _ h.1,h.2⟩
 | bI vs ih=> intro us h;simp only[RC] at h ⊢;obtain ⟨ws,h1,h2⟩:=h;exact ⟨ws,h1,ih.2 _ h2⟩
 | iface t v ih=> intro us h;simp only[RC] at h ⊢;obtain ⟨u,us',h1,h2,h3⟩:=h;exact ⟨u,us',h1,ih _ h2,h3⟩
 | fn f cap ih=> intro us h;simp only[RC] at h ⊢;obtain ⟨ws,h1,h2⟩:=h;exact ⟨ws,h1,ih.2 _ h2⟩
 | mp id=>
   intro us h;simp only[RC] at h ⊢
   obtain ⟨b,h,hid,hl⟩:=h
   refine ⟨b,h,Nat.lt_of_lt_of_le hid hle.n,fun l' dv h0=> ?_⟩
   obtain ⟨l,h1,h2,h3,h4⟩:=hle.loc id l' hid dv
   rw[hl l h1 (by omega),(h4 (by omega)).1]
 | top=> intro us h;simpa only[RC] using h
 | nil=> exact ⟨fun us h=> by simpa only[bV] using h,fun us h=> by simpa only[RW] using h⟩
 | cons v vs h1 h2=>
   refine ⟨fun us h=> ?_,fun us h=> ?_⟩
   ·simp only[bV] at h ⊢
    obtain ⟨u1,u2,rfl,k1,k2⟩:=h
    exact ⟨u1,u2,rfl,h1 _ k1,h2.1 _ k2⟩
   ·simp only[RW] at h ⊢
    obtain ⟨u,us',rfl,⟨u1,k1,k2⟩,k3⟩:=h
    exact ⟨u,us',rfl,⟨u1,h1 _ k1,k2⟩,h2.2 _ k3⟩
theorem RC.eO (hle:c.DO c') {v:V} {us:List Value} (h:RC L c v us):RC L c' v us:=Io hle v us h
theorem RC.mono (hle:c.le c') {v:V} {us:List Value} (h:RC L c v us):RC L c' v us:=h.eO hle.DO
theorem RV.eO (hle:c.DO c') {v:V} {u:Value} (h:RV L c v u):RV L c' v u:=let ⟨us,h1,h2⟩:=h;⟨us,h1.eO hle,h2⟩
theorem RV.mono (hle:c.le c') {v:V} {u:Value} (h:RV L c v u):RV L c' v u:=let ⟨us,h1,h2⟩:=h;⟨us,h1.mono hle,h2⟩
theorem bV.eO (hle:c.DO c') {vs:List V}:∀ {us:List Value},bV L c vs us→bV L c' vs us:=by
 induction vs with
 | nil=> intro us h;simpa only[bV] using h
 | cons v vs ih=>
   intro us h;simp only[bV] at h ⊢
   obtain ⟨u1,u2,rfl,k1,k2⟩:=h
   exact ⟨u1,u2,rfl,k1.eO hle,ih k2⟩
theorem bV.mono (hle:c.le c') {vs:List V}:∀ {us:List Value},bV L c vs us→bV L c' vs us:=fun h=> bV.eO hle.DO h
theorem ea {v:V} {u:Value} (hv:v.ty=none):RV L c v u↔RC L c v [u]:=by
 cases v <;> first
   | (simp[V.ty] at hv;done)
   | exact ⟨fun ⟨us,h1,h2⟩=> by simp only[wr] at h2;rw[←h2];exact h1,fun h=>⟨[u],h,rfl⟩⟩
theorem eV {v:V} {u:Value} {t:Nat} (hv:v.ty=some t):RV L c v u↔∃us,u= .agg us.toArray∧RC L c v us:=by
 cases v <;> first
   | (simp[V.ty] at hv;done)
   | exact ⟨fun ⟨us,h1,h2⟩=>⟨us,h2,h1⟩,fun ⟨us,h1,h2⟩=>⟨us,h2,h1⟩⟩
end Go.Vm
namespace Go.Vm
inductive aW where
 | cells (tag:Option Nat) (es:List V)
 | fN (s:ByteArray) (pos:Nat)
 | map (es:List (V×V×Nat)) (clock:Nat)
 | lit (tag:Option Nat) (es:List V)
 | dead
 deriving Inhabited
abbrev Hp :=List aW
abbrev Fr :=List V
def aW.tag :aW→Option Nat
 | .cells g _=> g
 | _=> none
def aW.aw :aW→Nat
 | .cells _ es=> es.length
 | _=> 0
inductive X where
 | t (n:Nat)
 | c (v:V)
 deriving Inhabited
def X.ev (fr:Fr):X→V
 | .t n=> fr.getD n (.bI [])
 | .c v=> v
def V.ground :V→Bool
 | .s _=> true
 | .ptr _ _ _=> false
 | .ref _ _ _ _ _ _=> false
 | .al _ _ es=> all es
 | .dP v=> v.ground
 | .st _ fs=> all fs
 | .arr _ es=> all es
 | .bI vs=> all vs
 | .iface _ v=> v.ground
 | .fn _ vs=> all vs
 | .mp _=> false
 | .top=> false
where all:List V→Bool
  | []=> true
  | v::vs=> v.ground && all vs
def nodeAt :List Nat→V→Option V
 | [],v=> some v
 | i::p,.st _ fs=> match fs[i]? with | some v=> nodeAt p v | none=> none
 | i::p,.arr _ es=> match es[i]? with | some v=> nodeAt p v | none=> none
 | _::_,_=> none
def putAt (y:V):List Nat→V→Option V
 | [],_=> some y
 | i::p,.st t fs=> match fs[i]? with | some v=>(putAt y p v).map fun v'=> .st t (fs.set i v') | none=> none
 | i::p,.arr t es=> match es[i]? with | some v=>(putAt y p v).map fun v'=> .arr t (es.set i v') | none=> none
 | _::_,_=> none
def rowOf (h:Hp) (id aw:Nat):Option (Option Nat×List V):=
 match h[id]? with
 | some (.cells g es)=> if es.length=aw then some (g,es) else none
 | _=> none
def node (h:Hp) (id:Nat) (path:List Nat) (aw:Nat):Option V:=
 match rowOf h id aw,path with
 | some (_,es),i::p=> match es[i]? with | some v=> nodeAt p v | none=> none
 | _,_=> none
def rowAt (h:Hp) (id:Nat) (path:List Nat) (aw:Nat):Option (List V):=
 match path with
 | []=>(rowOf h id aw).map (·.2)
 | _=> match node h id path aw with | some (.arr _ es)=> some es | _=> none
def store (h:Hp) (id:Nat) (path:List Nat) (aw:Nat) (y:V):Option Hp:=
 match rowOf h id aw,path with
 | some (g,es),i::p=> match es[i]? with
   | some v=>(putAt y p v).map fun v'=> h.set id (.cells g (es.set i v'))
   | none=> none
 | _,_=> none
def elems (h:Hp):V→Option (Option Nat×List V)
 | .al _ g es=> some (g,es)
 | .ref id path g off len aw=>(rowAt h id path aw).map fun es=>(g,(es.drop off).take len)
 | _=> none
def jQ (op:BinOp) (k:IntKind) (a b:Int):Option Value:=
 match op with
 | .add=> some (.int k (k.wrap (a+b)))
 | .sub=> some (.int k (k.wrap (a - b)))
 | .mul=> some (.int k (k.wrap (a * b)))
 | .quo=> if b=0 then none else some (.int k (k.wrap (a.tdiv b)))
 | .rem=> if b=0 then none else some (.int k (a.tmod b))
 | .and=> some (.int k (k.wrap (BitVec.ofInt k.bits a &&& BitVec.ofInt k.bits b).toNat))
 | .or=> some (.int k (k.wrap (BitVec.ofInt k.bits a ||| BitVec.ofInt k.bits b).toNat))
 | .xor=> some (.int k (k.wrap (BitVec.ofInt k.bits a ^^^ BitVec.ofInt k.bits b).toNat))
 | .andNot=> some (.int k (k.wrap (BitVec.ofInt k.bits a &&& ~~~(BitVec.ofInt k.bits b)).toNat))
 | .eql=> some (.bool (a==b))
 | .neq=> some (.bool (a !=b))
 | .lss=> some (.bool (decide (a < b)))
 | .leq=> some (.bool (decide (a≤b)))
 | .gtr=> some (.bool (decide (b < a)))
 | .geq=> some (.bool (decide (b≤a)))
 | _=> none
def mH (op:BinOp) (k:IntKind) (a b:Int):Option Value:=
 if b < 0 then none else
 match op with
 | .shl=> some (.int k (k.wrap (a * 2 ^(min b.toNat k.bits))))
 | .shr=> some (.int k (a.fdiv (2 ^(min b.toNat k.bits))))
 | _=> none
def qa (op:BinOp) (x y:ByteArray):Option Value:=
 match op with
 | .add=> if x.size+y.size≤9223372036854775807 then some (.string (x++y)) else none
 | .eql=> some (.bool (x.toList==y.toList))
 | .neq=> some (.bool !(x.toList==y.toList))
 | .lss=> some (.bool (Op.bytesLess x.toList y.toList))
 | .leq=> some (.bool (Op.bytesLess x.toList y.toList || x.toList==y.toList))
 | .gtr=> some (.bool !(Op.bytesLess x.toList y.toList || x.toList==y.toList))
 | .geq=> some (.bool !(Op.bytesLess x.toList y.toList))
 | _=> none
def ints (k:IntKind):List V→Option (List Int)
 | []=> some []
 | .s (.int k' n)::vs=> if k'=k then (ints k vs).map (n:: ·) else none
 | _::_=> none
def DP (op:BinOp) (b:Bool):Option Value:=
 match op with
 | .eql=> some (.bool b)
 | .neq=> some (.bool !b)
 | _=> none
inductive Cl where
 | num | tru | ptr
 deriving Inhabited
def vT (cl:Cl) (op:BinOp) (x y:V):Option Value:=
 match cl with
 | .num=> match x,y with
   | .s (.int k a),.s (.int k' b)=> match op with
     | .shl | .shr=> mH op k a b
     | _=> if k=k' then jQ op k a b else none
   | .s (.string a),.s (.string b)=> qa op a b
   | _,_=> none
 | .tru=> match x,y with
   | .s (.bool a),.s (.bool b)=> DP op (a==b)
   | _,_=> none
 | .ptr=> match x,y with
   | .s (.pointer none),.s (.pointer none)=> DP op true
   | .ptr _ _ _,.s (.pointer none)=> DP op false
   | .s (.pointer none),.ptr _ _ _=> DP op false
   | _,_=> none
def unV (op:UnOp):V→Option Value
 | .s (.int k n)=> match op with
   | .neg=> some (.int k (k.wrap (0 - n)))
   | .xor=> jQ .xor k (if k.signed then -1 else k.max) n
   | _=> none
 | .s (.bool b)=> match op with | .not=> some (.bool !b) | _=> none
 | _=> none
def bytesOf :List V→Option (List UInt8)
 | []=> some []
 | .s (.int .u8 n)::vs=>(bytesOf vs).map (UInt8.ofNat n.toNat:: ·)
 | _::_=> none
def aa (b:UInt8):V:= .s (.int .u8 b.toNat)
def bD :List V→List (Nat×V)→Option (List V)
 | es,[]=> some es
 | es,(i,y)::ps=> match es[i]? with
   | some o=> if o.ty=y.ty∧y.ax=true then bD (es.set i y) ps else none
   | none=> none
inductive LK where
 | i (k:IntKind)
 | b
 | s
 deriving Inhabited,DecidableEq
inductive O where
 | mv
 | pick
 | bin (cl:Cl) (op:BinOp)
 | zg (t:Nat) (k:IntKind) (neg:Bool)
 | eqs (t:Nat) (ks:List LK) (neg:Bool)
 | un (op:UnOp)
 | aN
 | fa (t i:Nat)
 | CM (t i:Nat)
 | jl (t:Nat)
 | di (g:Option Nat)
 | idx (t:Nat)
 | DQ
 | ld (g:Option Nat)
 | bg (g:Option Nat)
 | box (g:Option Nat)
 | eK (g:Option Nat) (zero:V)
 | dE (t:Nat) (zero:List V) (places:List Nat)
 | jh (t:Nat) (zero:List V) (places:List Nat)
 | jd (g:Option Nat) (zero:List V) (places:List Nat)
 | q8
 | mks (g:Option Nat) (zero:V)
 | ji (g:Option Nat) (lo hi mx:Bool)
 | qt (t:Nat) (g:Option Nat) (lo hi:Bool)
 | sls (lo hi:Bool)
 | len
 | DS
 | app (g:Option Nat) (bytes:Nat)
 | cpy (g:Option Nat)
 | clr (g:Option Nat) (zero:V)
 | ik (k:IntKind)
 | Fz
 | r2s (one:Bool)
 | s2b (lit:Bool)
 | mki (t:Nat)
 | tas (t:Nat) (ok:Bool) (zero:V)
 | ext (i:Nat)
 | min
 | max
 | rng
 | nxt
 | call (f:Nat)
 | lZ
 | mkf (f:Nat)
 | nop
 | fzp (g:Option Nat)
 | ij (f:Nat)
 | FA (g:Option Nat) (zero:List V) (places:List Nat)
 | apx (g:Option Nat) (bytes:Nat)
 | bsx (g:Option Nat) (zero:List V) (places:List Nat)
 | mkm
 | lku (kc:Option (Nat×IntKind)) (ok:Bool) (zero:V)
 | mup (kc:Option (Nat×IntKind)) (g:Option Nat)
 | mpe (kc:Option (Nat×IntKind)) (zero:V)
 | ens (g:Option Nat)
 | mln
 | s2a (t:Nat) (g:Option Nat) (n:Nat)
 | apz (g:Option Nat) (bytes:Nat) (zero:V)
 | cap
 | bad
 deriving Inhabited
def O.bR :O→Bool
 | .bg _ | .box _ | .eK _ _ | .mks _ _ | .app _ _ | .cpy _ | .clr _ _ | .rng | .nxt | .call _ | .lZ=> true
 | .jd _ zero _=> !zero.isEmpty
 | .q8=> true
 | .apx _ _=> true
 | .bsx _ _ _=> true
 | .mkm | .mup _ _ | .mpe _ _ | .ens _ | .s2a _ _ _ | .apz _ _ _=> true
 | .s2b lit=> !lit
 | _=> false
structure G where
 dst:Option Nat
 op:O
 xs:List X
 guard:Option (Nat×Bool)
 deriving Inhabited
def jv (v:Value) (h:Hp):Option (V×Hp):=some (.s v,h)
def bP (base id:Nat) (v:V):Bool:=decide (base≤id) || v.ground
def aL (lo hi:Bool) (xs:List V):Option (Option V×Option V):=
 match lo,hi,xs with
 | true,true,[a,b]=> some (some a,some b)
 | true,false,[a]=> some (some a,none)
 | false,true,[b]=> some (none,some b)
 | false,false,[]=> some (none,none)
 | _,_,_=> none
def cM :Option V→Nat→Option Nat
 | none,d=> some d
 | some (.s (.int _ n)),_=> if 0≤n then some n.toNat else none
 | some _,_=> none
def dw (h:Hp) (g:Option Nat) (x:V) (l hi:Nat):Option V:=
 if l≤hi then
  match x with
  | .al full g' es=> if g'=g∧hi≤es.length then some (.al (full && hi==es.length) g ((es.drop l).take (hi - l))) else none
  | .ref id path g' off len aw=> match rowAt h id path aw with
    | some es=> if g'=g∧(hi≤len∨off+hi≤es.length) then (if l=0∨l < hi then some (.ref id path g (off+l) (hi - l) aw) else some (.al false g [])) else none
    | none=> none
  | _=> none
 else none
def rB (h:Hp) (g:Option Nat) (x:V) (l hi mx:Nat):Option V:=
 if l≤hi∧hi≤mx then
  match x with
  | .al full g' es=> if g'=g∧mx≤es.length then some (.al (mx==hi) g ((es.drop l).take (hi - l))) else none
  | .ref id path g' off len aw=> match rowAt h id path aw with
    | some es=> if mx≤len∨off+mx≤es.length then (if l=mx then some (.al true g []) else some .top) else none
    | none=> none
  | _=> none
 else none
def fq :V→Option Nat
 | .al _ _ es=> some es.length
 | .ref _ _ _ _ len _=> some len
 | _=> none
def cU (base:Nat) (g:Option Nat) (bytes:Nat) (h:Hp) (x:V) (gy:Option Nat) (ys:List V):Option (V×Hp):=
 if ys=[] then (fq x).map fun _=>(x,h) else
 if gy=g then
  match x with
  | .al true g' es=>
    if g'=g∧(es.length+ys.length)* bytes≤140737488355328 then some (.ref h.length [] g 0 (es.length+ys.length) (es.length+ys.length),h++[.cells g (es++ys)])
    else none
  | .ref id [] g' off len aw=> match rowOf h id aw with
    | some (g'',es)=>
      if g'=g∧g''=g∧ys.all (bP base id) then
       if off+len+ys.length≤aw then
        some (.ref id [] g off (len+ys.length) aw,h.set id (.cells g (es.take (off+len)++ys++es.drop (off+len+ys.length))))
       else if off=0∧len=aw∧(len+ys.length)* bytes≤140737488355328 then
         some (.ref id [] g 0 (len+ys.length) (aw+ys.length),h.set id (.cells g (es++ys)))
       else none
      else none
    | none=> none
  | _=> none
 else none
def dK (s:ByteArray):List V:=s.data.toList.map aa
def source (h:Hp):V→Option (Option Nat×List V)
 | .s (.string s)=> some (none,dK s)
 | x=> elems h x
def copyV (base:Nat) (g:Option Nat) (h:Hp) (x:V) (gy:Option Nat) (ys:List V):Option (V×Hp):=
 match x with
 | .ref id [] g' off len aw=> match rowOf h id aw with
   | some (g'',es)=>
     let n:=min ys.length len
     if gy=g∧g'=g∧g''=g∧off+len≤aw∧ys.all (bP base id) then
      some (.s (.int .i64 n),h.set id (.cells g (es.take off++ys.take n++es.drop (off+n))))
     else none
   | none=> none
 | _=> none
def xS (base:Nat) (g:Option Nat) (h:Hp) (x:V) (gy:Option Nat) (ys:List V):Option (V×Hp):=
 match x with
 | .ref id (i::p) g' off len aw=> match node h id (i::p) aw with
   | some (.arr t es)=>
     if gy=g∧g'=g∧off+len≤es.length∧ys.all (bP base id) then
      (store h id (i::p) aw (.arr t (es.take off++ys.take (min ys.length len)++es.drop (off+min ys.length len)))).map fun h'=>(.s (.int .i64 (min ys.length len:Nat)),h')
     else none
   | _=> none
 | x=> copyV base g h x gy ys
def sD (h:Hp) (c a b:V):Option (V×Hp):=
 match c with
 | .s (.bool c)=> some (if c then a else b,h)
 | _=> none
def lM (h:Hp) (cl:Cl) (op:BinOp) (x y:V):Option (V×Hp):=(vT cl op x y).bind (jv · h)
def sE (h:Hp) (t:Nat) (k:IntKind) (neg:Bool) (x y:V):Option (V×Hp):=
 match x,y with
 | .arr t1 es,.arr t2 fs=>
   if t1=t∧t2=t then match ints k es,ints k fs with | some a,some b=> jv (.bool (if neg then !(a==b) else a==b)) h | _,_=> none else none
 | _,_=> none
def V.flat :V→Option (List Value)
 | .s x=> some [x]
 | .st _ fs=> all fs
 | .arr _ es=> all es
 | _=> none
where all:List V→Option (List Value)
  | []=> some []
  | v::vs=> match v.flat,all vs with | some a,some b=> some (a++b) | _,_=> none
def Ip :LK→Value→Bool
 | .i k,.int q n=> decide (q=k∧k.min≤n∧n≤k.max)
 | .b,.bool _=> true
 | .s,.string s=> decide (s.size≤140737488351232)
 | _,_=> false
def sF :List LK→List Value→Bool
 | [],[]=> true
 | k::ks,v::vs=> Ip k v && sF ks vs
 | _,_=> false
def sG :Value→Value→Bool
 | .int _ a,.int _ b=> a==b
 | .bool a,.bool b=> a==b
 | .string a,.string b=> a.data.toList==b.data.toList
 | _,_=> false
def fO :List Value→List Value→Bool
 | [],[]=> true
 | a::as,b::bs=> sG a b && fO as bs
 | _,_=> false
def uJ (h:Hp) (t:Nat) (ks:List LK) (neg:Bool) (x y:V):Option (V×Hp):=
 match x,y with
 | .st t1 fs,.st t2 gs=>
   if t1=t∧t2=t then match V.flat.all fs,V.flat.all gs with
    | some us,some ws=> if sF ks us=true∧sF ks ws=true then jv (.bool (if neg then !fO us ws else fO us ws)) h else none
    | _,_=> none
   else none
 | _,_=> none
def xT (h:Hp) (x:V):Option (V×Hp):=
 match x with
 | .ptr _ _ _=> some (x,h)
 | .dP _=> some (x,h)
 | .fn _ _=> some (x,h)
 | _=> none
def DT (h:Hp) (t i:Nat) (x:V):Option (V×Hp):=
 match x with
 | .ptr id path aw=> match node h id path aw with
   | some (.st t' fs)=> if t'=t∧i < fs.length then some (.ptr id (path++[i]) aw,h) else none
   | _=> none
 | .dP (.st t' fs)=> if t'=t then (fs[i]?).map fun v=>(.dP v,h) else none
 | _=> none
def sH (h:Hp) (t i:Nat) (x:V):Option (V×Hp):=
 match x with
 | .st t' fs=> if t'=t then (fs[i]?).map fun v=>(v,h) else none
 | _=> none
def numOf :V→Option Int
 | .s (.int _ n)=> some n
 | _=> none
def uK (h:Hp) (t:Nat) (x y:V):Option (V×Hp):=
 match numOf y with
 | some i=>
   match x with
   | .ptr id path aw=> match node h id path aw with
     | some (.arr t' es)=> if t'=t∧0≤i∧i < es.length then some (.ptr id (path++[i.toNat]) aw,h) else none
     | _=> none
   | .dP (.arr t' es)=> if t'=t∧0≤i∧i < es.length then (es[i.toNat]?).map fun v=>(.dP v,h) else none
   | _=> none
 | none=> none
def uL (h:Hp) (g:Option Nat) (x y:V):Option (V×Hp):=
 match numOf y with
 | some i=>
   match x with
   | .ref id path g' off len aw=> match rowAt h id path aw with
     | some es=> if g'=g∧0≤i∧i < len∧off+i.toNat < es.length then some (.ptr id (path++[off+i.toNat]) aw,h) else none
     | none=> none
   | .al _ g' es=> if g'=g∧0≤i then (es[i.toNat]?).map fun v=>(.dP v,h) else none
   | _=> none
 | none=> none
def qC (h:Hp) (t:Nat) (x y:V):Option (V×Hp):=
 match x,numOf y with
 | .arr t' es,some i=> if t'=t∧0≤i then (es[i.toNat]?).map fun v=>(v,h) else none
 | _,_=> none
def oB (h:Hp) (x y:V):Option (V×Hp):=
 match x,numOf y with
 | .s (.string s),some i=> if 0≤i then match s[i.toNat]? with | some b=> some (aa b,h) | none=> none else none
 | _,_=> none
def rj (h:Hp) (g:Option Nat) (x:V):Option (V×Hp):=
 match x with
 | .ptr id path aw=> match node h id path aw with
   | some v=> if v.ty=g then some (v,h) else none
   | none=> none
 | .dP v=> if v.ty=g then some (v,h) else none
 | _=> none
def xU (base:Nat) (h:Hp) (g:Option Nat) (x y:V):Option (V×Hp):=
 match x with
 | .ptr id path aw=> match node h id path aw with
   | some v=> if v.ty=g∧y.ty=g∧y.ax=true∧bP base id y=true then (store h id path aw y).map fun h'=>(.bI [],h') else none
   | none=> none
 | _=> none
def sI (h:Hp) (g:Option Nat) (x:V):Option (V×Hp):=
 if x.ty=g∧x.ax=true then some (.ptr h.length [0] 1,h++[.cells g [x]]) else none
def qb (h:Hp) (t:Nat) (zero:List V) (places:List Nat) (xs:List V):Option (V×Hp):=
 if places.length=xs.length then (bD zero (places.zip xs)).map fun fs=>(.st t fs,h) else none
def qc (h:Hp) (t:Nat) (zero:List V) (places:List Nat) (xs:List V):Option (V×Hp):=
 if places.length=xs.length then (bD zero (places.zip xs)).map fun es=>(.arr t es,h) else none
def nO (h:Hp) (g:Option Nat) (zero:List V) (places:List Nat) (xs:List V):Option (V×Hp):=
 if places.length=xs.length then match bD zero (places.zip xs) with
  | some es=> if es.isEmpty then some (.al true g [],h) else some (.ref h.length [] g 0 es.length es.length,h++[.cells g es])
  | none=> none
 else none
def Iq (h:Hp) (id:Nat) (g':Option Nat) (len aw:Nat):Option (V×Hp):=
 match h[id]? with
 | some (.lit g es)=> if len=aw∧es.length=aw∧g'=g then some (.al true g es,h.set id .dead) else none
 | _=> none
def uM (h:Hp) (x:V):Option (V×Hp):=
 match x with
 | .ref id [] g' 0 len aw=> match rowOf h id aw with
   | some (g,es)=> if len=aw∧g'=g then some (.al false g es,h.set id .dead) else none
   | none=> Iq h id g' len aw
 | _=> none
def qA (r:V×Hp):Option (V×Hp):=
 match r.1 with
 | .al _ g es=> some (.al false g es,r.2)
 | .ref id [] g' 0 len aw=> match rowOf r.2 id aw with
   | some (g,es)=> if len=aw∧g'=g then some (.al false g es,r.2.set id .dead) else none
   | none=> none
 | _=> none
def uN (h:Hp) (x:V):Option (V×Hp):=
 match x with
 | .al true _ es=> jv (.int .i64 es.length) h
 | _=> none
def uo (h:Hp) (t:Nat) (g:Option Nat) (n:Nat) (x:V):Option (V×Hp):=
 (qA (x,h)).bind fun r=> match r.1 with
   | .al _ g' es=> if g'=g∧0 < n∧n≤es.length then some (.dP (.arr t (es.take n)),r.2) else none
   | _=> none
def sJ (h:Hp) (g:Option Nat) (zero:List V) (places:List Nat) (xs:List V):Option (V×Hp):=
 if places.length=xs.length then match bD zero (places.zip xs) with
  | some es=> if es.isEmpty then none else some (.ref h.length [] g 0 es.length es.length,h++[.lit g es])
  | none=> none
 else none
def uO (h:Hp) (g:Option Nat) (zero x y:V):Option (V×Hp):=
 match numOf x,numOf y with
 | some n,some m=>
   if n=m∧0≤n∧n≤16777216 then
    (if n=0 then some (.al true g [],h) else some (.ref h.length [] g 0 n.toNat n.toNat,h++[.cells g (List.replicate n.toNat zero)]))
   else none
 | _,_=> none
def fZ (h:Hp) (g:Option Nat) (lo hi mx:Bool) (x:V) (bs:List V):Option (V×Hp):=
 match fq x with
 | some len=>
   match lo,hi,mx,bs with
   | lo,hi,false,bs=> match aL lo hi bs with
     | some (a,b)=> match cM a 0,cM b len with | some l,some r=>(dw h g x l r).map fun v=>(v,h) | _,_=> none
     | none=> none
   | false,true,true,[b,m]=> match cM (some b) 0,cM (some m) 0 with | some r,some m=>(rB h g x 0 r m).map fun v=>(v,h) | _,_=> none
   | true,true,true,[a,b,m]=> match cM (some a) 0,cM (some b) 0,cM (some m) 0 with | some l,some r,some m=>(rB h g x l r m).map fun v=>(v,h) | _,_,_=> none
   | _,_,_,_=> none
 | none=> none
def qy (h:Hp) (t:Nat) (g:Option Nat) (lo hi:Bool) (x:V) (bs:List V):Option (V×Hp):=
 match aL lo hi bs with
 | some (a,b)=> match x with
   | .ptr id path aw=> match node h id path aw with
     | some (.arr t' es)=> if t'=t then match cM a 0,cM b es.length with | some l,some r=> if l≤r∧r≤es.length then (if l=0∨l < es.length then some (.ref id path g l (r - l) aw,h) else some (.al true g [],h)) else none | _,_=> none else none
     | _=> none
   | .dP (.arr t' es)=> if t'=t then match cM a 0,cM b es.length with | some l,some r=> if l≤r∧r≤es.length then some (.al (r==es.length) g ((es.drop l).take (r - l)),h) else none | _,_=> none else none
   | _=> none
 | none=> none
def uP (h:Hp) (lo hi:Bool) (x:V) (bs:List V):Option (V×Hp):=
 match x,aL lo hi bs with
 | .s (.string s),some (a,b)=> match cM a 0,cM b s.size with | some l,some r=> if l≤r∧r≤s.size then jv (.string (s.extract l r)) h else none | _,_=> none
 | _,_=> none
def sK (h:Hp) (x:V):Option (V×Hp):=(fq x).bind fun n=> jv (.int .i64 n) h
def qd (h:Hp) (x:V):Option (V×Hp):=
 match x with
 | .s (.string s)=> jv (.int .i64 s.size) h
 | _=> none
def nI (base:Nat) (h:Hp) (g:Option Nat) (bytes:Nat) (x y:V):Option (V×Hp):=(source h y).bind fun r=> cU base g bytes h x r.1 r.2
def ub (base:Nat) (h:Hp) (g:Option Nat) (bytes:Nat) (zero x y:V):Option (V×Hp):=
 match y with
 | .s (.int .i64 k)=> if 0≤k∧k.toNat * bytes≤140737488355328 then cU base g bytes h x g (List.replicate k.toNat zero) else none
 | _=> none
def Nq (base:Nat) (h:Hp) (g:Option Nat) (bytes:Nat) (x y:V):Option (V×Hp):=(nI base h g bytes x y).bind qA
def Ir (base:Nat) (h:Hp) (g:Option Nat) (x y:V):Option (V×Hp):=(source h y).bind fun r=> xS base g h x r.1 r.2
def xV (base:Nat) (h:Hp) (g:Option Nat) (zero x:V):Option (V×Hp):=
 match fq x with
 | some 0=> some (.bI [],h)
 | some n=>(copyV base g h x g (List.replicate n zero)).map fun r=>(.bI [],r.2)
 | none=> none
def uQ (h:Hp) (k:IntKind) (x:V):Option (V×Hp):=(numOf x).bind fun n=> jv (.int k (k.wrap n)) h
def ni :List V→Option (List Int)
 | []=> some []
 | .s (.int .i32 n)::vs=>(ni vs).map (n:: ·)
 | _::_=> none
def sL (h:Hp) (one:Bool) (x:V):Option (V×Hp):=
 if one then match x with
  | .s (.int .i32 n)=> jv (.string (Utf8.encode n)) h
  | _=> none
 else (elems h x).bind fun r=>(ni r.2).bind fun l=> jv (.string (runesBytes l)) h
def uR (h:Hp) (x:V):Option (V×Hp):=(elems h x).bind fun r=>(bytesOf r.2).bind fun l=> jv (.string ⟨l.toArray⟩) h
def qK (h:Hp) (lit:Bool) (x:V):Option (V×Hp):=
 match x with
 | .s (.string s)=> if lit then some (.al false none (dK s),h) else if s.size=0 then none else some (.ref h.length [] none 0 s.size s.size,h++[.cells none (dK s)])
 | _=> none
def uS (h:Hp) (t:Nat) (ok:Bool) (zero x:V):Option (V×Hp):=
 match x with
 | .iface t' y=> if t'=t then some (if ok then .bI [y,.s (.bool true)] else y,h) else if ok then some (.bI [zero,.s (.bool false)],h) else none
 | _=> none
def uT (h:Hp) (i:Nat) (x:V):Option (V×Hp):=
 match x with
 | .bI vs=>(vs[i]?).map fun v=>(v,h)
 | _=> none
def sM (h:Hp) (mx:Bool) (x y:V):Option (V×Hp):=
 match x,y with
 | .s (.int k a),.s (.int _ b)=> jv (.int k (if mx then (if b > a then b else a) else (if b < a then b else a))) h
 | _,_=> none
def xW (h:Hp) (x:V):Option (V×Hp):=
 match x with
 | .s (.string s)=> some (.ptr h.length [] 0,h++[.fN s 0])
 | _=> none
def xX (h:Hp) (x:V):Option (V×Hp):=
 match x with
 | .ptr id [] 0=> match h[id]? with
   | some (.fN s pos)=>
     if pos < s.size then some (.bI [.s (.bool true),.s (.int .i64 pos),.s (.int .i32 (Utf8.decode s pos).1)],h.set id (.fN s (pos+(Utf8.decode s pos).2)))
     else some (.bI [.s (.bool false)],h)
   | _=> none
 | _=> none
def qL (h:Hp) (g:Option Nat) (x:V):Option (V×Hp):=
 if x.ty=g∧x.ax=true then some (.dP x,h) else none
open Classical in
noncomputable def sN (r:Option (V×Hp)) (h:Hp):Option (V×Hp):=
 match r with
 | some (v,h')=> if h'=h then some (v,h) else none
 | none=> none
def sO (h:Hp) (g:Option Nat) (zero:List V) (places:List Nat) (xs:List V):Option (V×Hp):=
 if places.length=xs.length then (bD zero (places.zip xs)).map fun es=>(.al true g es,h) else none
def mI (kc:Option (Nat×IntKind)) (x y:V):Option Bool:=
 match kc,x,y with
 | none,.s (.int k a),.s (.int k' b)=> if k=k' then some (a==b) else none
 | some (t,k),.arr t1 es,.arr t2 fs=> if t1=t∧t2=t then match ints k es,ints k fs with | some a,some b=> some (a==b) | _,_=> none else none
 | _,_,_=> none
def gV (kc:Option (Nat×IntKind)) (x:V):List (V×V×Nat)→Nat→Option (Option (Nat×V×Nat))
 | [],_=> some none
 | e::es,i=> match mI kc x e.1 with
   | some true=> some (some (i,e.2))
   | some false=> gV kc x es (i+1)
   | none=> none
def pj (kc:Option (Nat×IntKind)) (x:V) (es:List (V×V×Nat)):Option (Option (Nat×V×Nat)):=if mI kc x x=some true then gV kc x es 0 else none
def V0 (ok:Bool) (zero:V):Option (Nat×V×Nat)→V
 | some (_,v,_)=> if ok then .bI [v,.s (.bool true)] else v
 | none=> if ok then .bI [zero,.s (.bool false)] else zero
def xY (h:Hp) (kc:Option (Nat×IntKind)) (ok:Bool) (zero x k:V):Option (V×Hp):=
 match x with
 | .mp id=> match h[id]? with
   | some (.map es _)=>(pj kc k es).map fun r=>(V0 ok zero r,h)
   | _=> none
 | _=> none
def xZ (base:Nat) (h:Hp) (kc:Option (Nat×IntKind)) (g:Option Nat) (x k v:V):Option (V×Hp):=
 match x with
 | .mp id=> if (bP base id v && k.ground && v.ax && decide (v.ty=g))=true then match h[id]? with
   | some (.map es cl)=>(pj kc k es).map fun r=> match r with
     | some (i,_,b)=>(.bI [],h.set id (.map (es.set i (k,v,b)) cl))
     | none=>(.bI [],h.set id (.map (es++[(k,v,cl)]) (cl+1)))
   | _=> none
   else none
 | _=> none
def x9 (base:Nat) (h:Hp) (kc:Option (Nat×IntKind)) (zero x k:V):Option (V×Hp):=
 match x with
 | .mp id=> if (bP base id zero && k.ground)=true then match h[id]? with
   | some (.map es cl)=>(pj kc k es).map fun r=> match r with
     | some (i,v,b)=>(.bI [v,.s (.int .i64 b)],h.set id (.map (es.set i (k,v,b)) cl))
     | none=>(.bI [zero,.s (.int .i64 cl)],h.set id (.map (es++[(k,zero,cl)]) (cl+1)))
   | _=> none
   else none
 | _=> none
def ya (n:Int) (v:V):List (V×V×Nat)→Option (List (V×V×Nat))
 | []=> none
 | e::es=> if (e.2.2:Int)=n then some ((e.1,v,e.2.2)::es) else (ya n v es).map (e:: ·)
def yb (base:Nat) (h:Hp) (g:Option Nat) (x k v:V):Option (V×Hp):=
 match x,k with
 | .mp id,.s (.int _ n)=> if (bP base id v && v.ax && decide (v.ty=g))=true then match h[id]? with
   | some (.map es cl)=>(ya n v es).map fun es'=>(.bI [],h.set id (.map es' cl))
   | _=> none
   else none
 | _,_=> none
def yc (h:Hp) (x:V):Option (V×Hp):=
 match x with
 | .mp id=> match h[id]? with
   | some (.map es _)=> some (.s (.int .i64 es.length),h)
   | _=> none
 | _=> none
noncomputable def aB (cf:Nat→List V→Hp→Option (V×Hp)) (base:Nat) (h:Hp):O→List V→Option (V×Hp)
 | .mv,[x]=> some (x,h)
 | .pick,[c,a,b]=> sD h c a b
 | .bin cl op,[x,y]=> lM h cl op x y
 | .zg t k neg,[x,y]=> sE h t k neg x y
 | .eqs t ks neg,[x,y]=> uJ h t ks neg x y
 | .un op,[x]=>(unV op x).bind (jv · h)
 | .aN,[x]=> xT h x
 | .fa t i,[x]=> DT h t i x
 | .CM t i,[x]=> sH h t i x
 | .jl t,[x,y]=> uK h t x y
 | .di g,[x,y]=> uL h g x y
 | .idx t,[x,y]=> qC h t x y
 | .DQ,[x,y]=> oB h x y
 | .ld g,[x]=> rj h g x
 | .bg g,[x,y]=> xU base h g x y
 | .box g,[x]=> sI h g x
 | .eK g zero,[]=> sI h g zero
 | .dE t zero places,xs=> qb h t zero places xs
 | .jh t zero places,xs=> qc h t zero places xs
 | .jd g zero places,xs=> nO h g zero places xs
 | .q8,[x]=> uM h x
 | .mks g zero,[x,y]=> uO h g zero x y
 | .ji g lo hi mx,x::bs=> fZ h g lo hi mx x bs
 | .qt t g lo hi,x::bs=> qy h t g lo hi x bs
 | .sls lo hi,x::bs=> uP h lo hi x bs
 | .len,[x]=> sK h x
 | .DS,[x]=> qd h x
 | .app g bytes,[x,y]=> nI base h g bytes x y
 | .cpy g,[x,y]=> Ir base h g x y
 | .clr g zero,[x]=> xV base h g zero x
 | .ik k,[x]=> uQ h k x
 | .Fz,[x]=> uR h x
 | .r2s one,[x]=> sL h one x
 | .s2b lit,[x]=> qK h lit x
 | .mki t,[x]=> some (.iface t x,h)
 | .tas t ok zero,[x]=> uS h t ok zero x
 | .ext i,[x]=> uT h i x
 | .min,[x,y]=> sM h false x y
 | .max,[x,y]=> sM h true x y
 | .rng,[x]=> xW h x
 | .nxt,[x]=> xX h x
 | .call f,xs=> cf f xs h
 | .lZ,.fn f cap::xs=> cf f (xs++cap) h
 | .mkf f,xs=> some (.fn f xs,h)
 | .nop,[]=> some (.bI [],h)
 | .fzp g,[x]=> qL h g x
 | .ij f,xs=> sN (cf f xs h) h
 | .FA g zero places,xs=> sO h g zero places xs
 | .apx g bytes,[x,y]=> Nq base h g bytes x y
 | .bsx g zero places,xs=> sJ h g zero places xs
 | .mkm,[]=> some (.mp h.length,h++[.map [] 0])
 | .lku kc ok zero,[x,k]=> xY h kc ok zero x k
 | .mup kc g,[x,k,v]=> xZ base h kc g x k v
 | .mpe kc zero,[x,k]=> x9 base h kc zero x k
 | .ens g,[x,k,v]=> yb base h g x k v
 | .mln,[x]=> yc h x
 | .s2a t g n,[x]=> uo h t g n x
 | .apz g bytes z,[x,y]=> ub base h g bytes z x y
 | .cap,[x]=> uN h x
 | _,_=> none
def want (fr:Fr) (g:G):Option Bool:=
 match g.guard with
 | none=> some true
 | some (t,b)=> match fr.getD t .top with
   | .s (.bool b')=> some (b'==b)
   | .bI []=> some false
   | _=> none
noncomputable def stepG (cf:Nat→List V→Hp→Option (V×Hp)) (base:Nat) (fr:Fr) (h:Hp) (g:G):Option (V×Hp):=
 match want fr g with
 | some true=> aB cf base h g.op (g.xs.map (X.ev fr))
 | some false=> some (.bI [],h)
 | none=> none
def gv (fr:Fr) (d:Option Nat) (v:V):Fr:=
 match d with
 | some t=> fr.set t v
 | none=> fr
noncomputable def jY (cf:Nat→List V→Hp→Option (V×Hp)) (base:Nat):List G→Fr→Hp→Option (Fr×Hp)
 | [],fr,h=> some (fr,h)
 | g::gs,fr,h=> match stepG cf base fr h g with
   | some (v,h')=> jY cf base gs (gv fr g.dst v) h'
   | none=> none
structure GD where
 g:G
 lo:Nat
 hi:Nat
 deriving Inhabited
def oC (cf:Nat→List V→Hp→Option (V×Hp)) (base:Nat) (fr:Fr) (g:G) (v:V):List Hp→Prop
 | []=> True
 | h::hs=> stepG cf base fr h g=some (v,h)∧oC cf base fr g v hs
structure Seen where
 d:GD
 fr:Fr
 v:V
def nj (cf:Nat→List V→Hp→Option (V×Hp)) (base:Nat) (hs:List Hp):List Seen→Prop
 | []=> True
 | x::xs=> oC cf base x.fr x.d.g x.v ((hs.drop x.d.lo).take (x.d.hi+1 - x.d.lo))∧nj cf base hs xs
noncomputable def mJ (cf:Nat→List V→Hp→Option (V×Hp)) (base:Nat):List GD→Fr→Hp→List Hp→List Seen→Option (Fr×Hp×List Hp×List Seen)
 | [],fr,h,hs,xs=> some (fr,h,hs++[h],xs)
 | d::ds,fr,h,hs,xs=> match stepG cf base fr h d.g with
   | some (v,h')=> if d.g.op.bR then mJ cf base ds (gv fr d.g.dst v) h' (hs++[h]) xs else mJ cf base ds (gv fr d.g.dst v) h hs (xs++[⟨d,fr,v⟩])
   | none=> none
def inB (n:Nat) (ds:List GD):Prop:=∀d∈ds,∀t,d.g.dst=some t→t < n
open Classical in
noncomputable def bM (cf:Nat→List V→Hp→Option (V×Hp)) (base:Nat) (ds:List GD) (fr:Fr) (h:Hp):Option (Fr×Hp):=
 match mJ cf base ds fr h [] [] with
 | some (fr',h',hs,xs)=> if inB fr.length ds∧nj cf base hs xs then some (fr',h') else none
 | none=> none
inductive C where
 | skip
 | af (gs:List G)
 | bM (ds:List GD)
 | seq (a b:C)
 | cond (c:X) (a b:C)
 | block (id:Nat) (a:C)
 | loop (a:C)
 | exit (id:Nat)
 | ret
 deriving Inhabited
inductive Ex where
 | normal
 | exit (id:Nat)
 | ret
 deriving Inhabited,DecidableEq
abbrev Out :=Option (Ex×Fr×Hp)
def iter (f:Fr→Hp→Out):Nat→Fr→Hp→Out
 | 0,_,_=> none
 | n+1,fr,h=> match f fr h with
   | some (.normal,fr',h')=> iter f n fr' h'
   | r=> r
theorem yd {f:Fr→Hp→Out}:∀ {n m:Nat} {fr:Fr} {h:Hp} {r r':Ex×Fr×Hp},iter f n fr h=some r→iter f m fr h=some r'→r=r'
 | 0,_,_,_,_,_,h1,_=> by simp[iter] at h1
 | _+1,0,_,_,_,_,_,h2=> by simp[iter] at h2
 | n+1,m+1,fr,h,r,r',h1,h2=> by
   simp only[iter] at h1 h2
   split at h1
   ·rename_i fr1 h1' he
    rw[he] at h2
    exact yd h1 h2
   ·rename_i cE
    cases hf:f fr h with
    | none=> rw[hf] at h1;cases h1
    | some q=>
      rw[hf] at h1 h2
      obtain ⟨e,a,b⟩:=q
      cases e with
      | normal=> exact absurd hf (cE a b)
      | exit id=> simp only[Option.some.injEq] at h1 h2;rw[←h1,←h2]
      | ret=> simp only[Option.some.injEq] at h1 h2;rw[←h1,←h2]
open Classical in
noncomputable def Is (f:Fr→Hp→Out) (fr:Fr) (h:Hp):Out:=
 if hx:∃r n,iter f n fr h=some r then some hx.choose else none
theorem gz {f:Fr→Hp→Out} {fr:Fr} {h:Hp} {r:Ex×Fr×Hp}:Is f fr h=some r↔∃n,iter f n fr h=some r:=by
 unfold Is
 constructor
 ·intro hr
  split at hr
  ·rename_i hx
   simp only[Option.some.injEq] at hr
   rw[←hr]
   exact hx.choose_spec
  ·cases hr
 ·rintro ⟨n,hn⟩
  have hx:∃r n,iter f n fr h=some r:=⟨r,n,hn⟩
  rw[dif_pos hx]
  obtain ⟨m,hm⟩:=hx.choose_spec
  rw[yd hm hn]
noncomputable def exec (cf:Nat→List V→Hp→Option (V×Hp)) (base:Nat):C→Fr→Hp→Out
 | .skip,fr,h=> some (.normal,fr,h)
 | .af gs,fr,h=>(jY cf base gs fr h).map fun r=>(.normal,r.1,r.2)
 | .bM ds,fr,h=>(Vm.bM cf base ds fr h).map fun r=>(.normal,r.1,r.2)
 | .seq a b,fr,h=> match exec cf base a fr h with
   | some (.normal,fr',h')=> exec cf base b fr' h'
   | r=> r
 | .cond c a b,fr,h=> match c.ev fr with
   | .s (.bool true)=> exec cf base a fr h
   | .s (.bool false)=> exec cf base b fr h
   | _=> none
 | .block id a,fr,h=> match exec cf base a fr h with
   | some (.exit id',fr',h')=> if id'=id then some (.normal,fr',h') else some (.exit id',fr',h')
   | r=> r
 | .loop a,fr,h=> Is (exec cf base a) fr h
 | .exit id,fr,h=> some (.exit id,fr,h)
 | .ret,fr,h=> some (.ret,fr,h)
inductive Rs where
 | t (n:Nat)
 | cell (n:Nat) (g:Option Nat)
 deriving Inhabited
structure Fn where
 nt:Nat
 body:C
 res:List Rs
 pure:Bool
 deriving Inhabited
def Lr (fr:Fr) (h:Hp):Rs→Option V
 | .t n=> some (fr.getD n (.bI []))
 | .cell n g=>(rj h g (fr.getD n (.bI []))).map (·.1)
def jX (fr:Fr) (h:Hp):List Rs→Option (List V)
 | []=> some []
 | r::rs=> match Lr fr h r,jX fr h rs with | some v,some vs=> some (v::vs) | _,_=> none
def oD :List V→V
 | [v]=> v
 | vs=> .bI vs
def V.low (n:Nat):V→Bool
 | .s _=> true
 | .ptr id _ _=> decide (id < n)
 | .ref id _ _ _ _ _=> decide (id < n)
 | .al _ _ es=> all es
 | .dP v=> v.low n
 | .st _ fs=> all fs
 | .arr _ es=> all es
 | .bI vs=> all vs
 | .iface _ v=> v.low n
 | .fn _ vs=> all vs
 | .mp id=> decide (id < n)
 | .top=> true
where all:List V→Bool
  | []=> true
  | v::vs=> v.low n && all vs
def bB (base:Nat) (h:Hp):V→Option V
 | .ref id path g off len aw=>
   if id < base then some (.ref id path g off len aw) else
   match path with
   | []=> match rowOf h id aw with
     | some (g',es)=> if g'=g∧off+len≤aw∧V.low.all base ((es.drop off).take len)=true then some (.al false g ((es.drop off).take len)) else none
     | none=> none
   | _=> none
 | .al _ g es=>(all es).map fun es'=> .al false g es'
 | .st t fs=>(all fs).map fun fs'=> .st t fs'
 | .arr t es=>(all es).map fun es'=> .arr t es'
 | .bI vs=>(all vs).map fun vs'=> .bI vs'
 | .iface t v=>(bB base h v).map fun v'=> .iface t v'
 | v=> if v.low base then some v else none
where all:List V→Option (List V)
  | []=> some []
  | v::vs=> match bB base h v,all vs with | some v',some vs'=> some (v'::vs') | _,_=> none
def lN (F:Fn) (args:List V):Fr:=args++List.replicate (F.nt - args.length) (.bI [])
noncomputable def kg (cf:Nat→Nat→List V→Hp→Option (V×Hp)) (base:Nat) (F:Fn) (args:List V) (h:Hp):Option (V×Hp):=
 if F.pure then
  match exec (cf h.length) h.length F.body (lN F args) h with
  | some (.exit _,_,_)=> none
  | some (_,fr,h')=> match jX fr h' F.res with
    | some vs=> match bB h.length h' (oD vs) with
      | some v=> some (v,h'.take h.length)
      | none=> none
    | none=> none
  | none=> none
 else
   match exec (cf base) base F.body (lN F args) h with
   | some (.exit _,_,_)=> none
   | some (_,fr,h')=> match jX fr h' F.res with
     | some vs=> some (oD vs,h')
     | none=> none
   | none=> none
noncomputable def den (fns:Nat→Option Fn) (pr:Nat→List V→Hp→Option (V×Hp)):Nat→Nat→Nat→List V→Hp→Option (V×Hp)
 | 0,_,_,_,_=> none
 | d+1,base,f,args,h=> match fns f with
   | some F=> kg (den fns pr d) base F args h
   | none=> pr f args h
end Go.Vm
namespace Go.Vm
structure St (w w':World):Prop where
 os:w'.os=w.os
 tape:w'.tape=w.tape
 output:w'.output=w.output
 size:w.heap.size≤w'.heap.size
theorem St.refl (w:World):St w w:=⟨rfl,rfl,rfl,Nat.le_refl _⟩
theorem St.trans {a b c:World} (h:St a b) (k:St b c):St a c:=⟨k.os.trans h.os,k.tape.trans h.tape,k.output.trans h.output,Nat.le_trans h.size k.size⟩
def Im (g:Option Nat) (n:Nat) (fz:Nat×Nat):Prop:=(∀j,j < n→¬(fz.1≤j∧j < fz.2))∧(g.isSome=true→fz=(0,0))
def kZ (L:cu) (c:Ctx):List (V×V×Nat)→List MapEntry→Prop
 | [],[]=> True
 | e::es,m::ms=>(RV L c e.1 m.key∧RV L c e.2.1 m.val∧e.2.2=m.born)∧kZ L c es ms
 | _,_=> False
def pk (L:cu) (c:Ctx) (w:World) (l:Loc):aW→Prop
 | .cells g es=> l.tag=g∧l.aw=es.length∧es.length≤l.cap∧(∀e∈es,e.ty=g∧e.ax=true)∧
     ∃us ty fz,w.heap[l.bu]? =some (.cells us ty fz)∧us.size=l.cap * L.az g∧Im g us.size fz∧bV L c es (us.toList.take (es.length * L.az g))
 | .lit g es=> l.tag=g∧l.aw=es.length∧es.length=l.cap∧(∀e∈es,e.ty=g∧e.ax=true)∧
     ∃us ty fz,w.heap[l.bu]? =some (.cells us ty fz)∧us.size=l.cap * L.az g∧Im g us.size fz∧bV L c es (us.toList.take (es.length * L.az g))
 | .map es cl=> l.tag=none∧l.aw=0∧∃ms:Array MapEntry,w.heap[l.bu]? =some (.map ms cl)∧kZ L c es ms.toList
 | .fN s pos=> l.tag=none∧l.aw=0∧w.heap[l.bu]? =some (.stringIter s pos)
 | .dead=> False
def real :Obj→Obj
 | .pending cs ty=> match cs.back? with
   | some (.bool false)=> .cells cs.pop ty (0,0)
   | _=> .pending cs.pop ty
 | o=> o
abbrev ye (cs:Array Value) (ty:TypeId):Obj:= .pending (cs.push (.bool false)) ty
def kept :Obj→Obj
 | .pending cs ty=> .pending (cs.push (.bool true)) ty
 | o=> o
theorem uU (cs:Array Value) (ty:TypeId):real (ye cs ty)= .cells cs ty (0,0):=by simp[real]
theorem uV (o:Obj):real (kept o)=o:=by cases o <;> simp[kept,real]
structure bf (L:cu) (c:Ctx) (h:Hp) (w:World):Prop where
 z:∀b o,c.z b=some o→w.heap[b]? =some (real o)
 n:c.n=h.length
 loc:∀id l,c.loc id=some l→∃k,h[id]? =some k∧c.z l.bu=none∧pk L c w l k
 live:∀id k,h[id]? =some k→(∃l,c.loc id=some l)∨k= .dead
 inj:∀i j li lj,c.loc i=some li→c.loc j=some lj→li.bu=lj.bu→i=j
variable {L : cu} {c c' : Ctx} {h : Hp} {w : World}
theorem kZ.eO (hle:c.DO c'):∀ {es:List (V×V×Nat)} {ms:List MapEntry},kZ L c es ms→kZ L c' es ms
 | [],[],_=> trivial
 | e::es,m::ms,h=>⟨⟨h.1.1.eO hle,h.1.2.1.eO hle,h.1.2.2⟩,kZ.eO hle h.2⟩
 | [],_::_,h=> h.elim
 | _::_,[],h=> h.elim
theorem pk.eO (hle:c.DO c') {w':World} {l:Loc} {k:aW} (hw:w'.heap[l.bu]? =w.heap[l.bu]?) (hb:pk L c w l k):pk L c' w' l k:=by
 cases k with
 | cells g es=>
   obtain ⟨h1,h2,h3,h4,us,ty,fz,h5,h6,h7,h8⟩:=hb
   exact ⟨h1,h2,h3,h4,us,ty,fz,by rw[hw];exact h5,h6,h7,h8.eO hle⟩
 | lit g es=>
   obtain ⟨h1,h2,h3,h4,us,ty,fz,h5,h6,h7,h8⟩:=hb
   exact ⟨h1,h2,h3,h4,us,ty,fz,by rw[hw];exact h5,h6,h7,h8.eO hle⟩
 | map es cl=> obtain ⟨h1,h2,ms,h3,h4⟩:=hb;exact ⟨h1,h2,ms,by rw[hw];exact h3,h4.eO hle⟩
 | fN s pos=> exact ⟨hb.1,hb.2.1,by rw[hw];exact hb.2.2⟩
 | dead=> exact hb
theorem pk.mono (hle:c.le c') {w':World} {l:Loc} {k:aW} (hw:w'.heap[l.bu]? =w.heap[l.bu]?) (hb:pk L c w l k):pk L c' w' l k:=hb.eO hle.DO hw
theorem pk.real {l:Loc} {k:aW} (hb:pk L c w l k) {o:Obj} (ho:w.heap[l.bu]? =some o):real o=o:=by
 cases k with
 | cells g es=> obtain ⟨_,_,_,_,us,ty,fz,h5,_⟩:=hb;rw[h5] at ho;cases ho;rfl
 | lit g es=> obtain ⟨_,_,_,_,us,ty,fz,h5,_⟩:=hb;rw[h5] at ho;cases ho;rfl
 | map es cl=> obtain ⟨_,_,ms,h3,_⟩:=hb;rw[h3] at ho;cases ho;rfl
 | fN s pos=> rw[hb.2.2] at ho;cases ho;rfl
 | dead=> exact hb.elim
theorem pk.lt {l:Loc} {k:aW} (hb:pk L c w l k):l.bu < w.heap.size:=by
 cases k with
 | cells g es=> obtain ⟨_,_,_,_,us,ty,fz,h5,_⟩:=hb;exact (Array.getElem?_eq_some_iff.1 h5).1
 | lit g es=> obtain ⟨_,_,_,_,us,ty,fz,h5,_⟩:=hb;exact (Array.getElem?_eq_some_iff.1 h5).1
 | map es cl=> obtain ⟨_,_,ms,h3,_⟩:=hb;exact (Array.getElem?_eq_some_iff.1 h3).1
 | fN s pos=> exact (Array.getElem?_eq_some_iff.1 hb.2.2).1
 | dead=> exact hb.elim
theorem bf.drew (hs:bf L c h w):bf L c h w.drew:=⟨hs.z,hs.n,fun id l hl=> let ⟨k,h1,h2,h3⟩:=hs.loc id l hl;⟨k,h1,h2,h3.mono (Ctx.le_refl c) rfl⟩,hs.live,hs.inj⟩
theorem St.drew (w:World):St w w.drew:=⟨rfl,rfl,rfl,Nat.le_refl _⟩
theorem gU {w:World} {o:Obj} {b:Nat} (hb:b < w.heap.size):(w.alloc o).heap[b]? =w.heap[b]? :=RowKit.Below.heap_alloc w o b hb
theorem iV {w:World} {o:Obj}:(w.alloc o).heap[w.heap.size]? =some o:=heap_alloc_new w o
theorem St.alloc (w:World) (o:Obj):St w (w.alloc o):=⟨rfl,rfl,rfl,by simp⟩
theorem ek {w:World} {b:Nat} {o:Obj} (hb:w.heap[b]? =some o):b < w.heap.size:=(Array.getElem?_eq_some_iff.1 hb).1
theorem bf.Cd (hs:bf L c h w) (o:Obj):bf L c h (w.alloc o) where
 z b x hb:=by rw[gU (ek (hs.z b x hb))];exact hs.z b x hb
 n:=hs.n
 loc id l hl:=by
   obtain ⟨k,h1,h2,h3⟩:=hs.loc id l hl
   exact ⟨k,h1,h2,h3.mono (Ctx.le_refl c) (gU h3.lt)⟩
 live:=hs.live
 inj:=hs.inj
def Ctx.push (c:Ctx) (l:Loc):Ctx:= {c with loc:=fun i=> if i=c.n then some l else c.loc i,n:=c.n+1}
theorem Ctx.gK (c:Ctx) (l:Loc):c.le (c.push l) where
 z _ _ hb:=hb
 n:=by simp[Ctx.push]
 loc id l' hid hl:=by
   simp only[Ctx.push,if_neg (Nat.ne_of_lt hid)] at hl
   exact ⟨l',hl,rfl,Nat.le_refl _,fun _=>⟨rfl,rfl⟩⟩
theorem bf.Nr (hs:bf L c h w) {id:Nat} {l:Loc} (hl:c.loc id=some l):id < c.n:=by
 obtain ⟨k,h1,_⟩:=hs.loc id l hl
 rw[hs.n];exact (List.getElem?_eq_some_iff.1 h1).1
theorem bf.push (hs:bf L c h w) (o:Obj) (k:aW) (l:Loc) (hl:l.bu=w.heap.size) (hk:pk L (c.push l) (w.alloc o) l k):
 bf L (c.push l) (h++[k]) (w.alloc o) where
 z b x hb:=by rw[gU (ek (hs.z b x hb))];exact hs.z b x hb
 n:=by simp[Ctx.push,hs.n]
 loc id l' dv:=by
   simp only[Ctx.push] at dv
   by_cases hid:id=c.n
   ·simp only[hid,if_true,Option.some.injEq] at dv
    subst dv
    refine ⟨k,by rw[hid,hs.n];simp,?_,hk⟩
    cases hz:c.z l.bu with
    | none=> exact hz
    | some x=> have:=ek (hs.z _ _ hz);omega
   ·simp only[hid,if_false] at dv
    obtain ⟨k',h1,h2,h3⟩:=hs.loc id l' dv
    exact ⟨k',by rw[List.getElem?_append_left (List.getElem?_eq_some_iff.1 h1).1];exact h1,h2,h3.mono (c.gK l) (gU h3.lt)⟩
 live id k' lF:=by
   by_cases hid:id=c.n
   ·exact .inl ⟨l,by simp[Ctx.push,hid]⟩
   ·have bW:id < h.length:=by
      have:=(List.getElem?_eq_some_iff.1 lF).1
      simp at this
      have:=hs.n
      omega
    rw[List.getElem?_append_left bW] at lF
    rcases hs.live id k' lF with ⟨l',dv⟩ | rfl
    ·exact .inl ⟨l',by simp[Ctx.push,hid,dv]⟩
    ·exact .inr rfl
 inj i j li lj hi hj he:=by
   simp only[Ctx.push] at hi hj
   by_cases h1:i=c.n <;> by_cases h2:j=c.n
   ·omega
   ·simp only[h1,if_true,h2,if_false,Option.some.injEq] at hi hj
    obtain ⟨k',_,_,h3⟩:=hs.loc j lj hj
    have:=h3.lt;subst hi;omega
   ·simp only[h1,if_false,h2,if_true,Option.some.injEq] at hi hj
    obtain ⟨k',_,_,h3⟩:=hs.loc i li hi
    have:=h3.lt;subst hj;omega
   ·simp only[h1,if_false,h2] at hi hj
    exact hs.inj i j li lj hi hj he
def Ctx.dC (c:Ctx) (b:Nat) (o:Obj):Ctx:= {c with z:=fun i=> if i=b then some o else c.z i}
theorem Ctx.kh (c:Ctx) (b:Nat) (o:Obj) (hb:c.z b=none):c.le (c.dC b o) where
 z i x hi:=by
   simp only[Ctx.dC]
   by_cases e:i=b
   ·rw[e,hb] at hi;cases hi
   ·rw[if_neg e];exact hi
 n:=Nat.le_refl _
 loc id l' hid hl:=⟨l',hl,rfl,Nat.le_refl _,fun _=>⟨rfl,rfl⟩⟩
theorem Ctx.qe (c:Ctx) (b:Nat) (o:Obj) (hb:∀cs ty fz,c.z b≠some (.cells cs ty fz)):c.DO (c.dC b o) where
 z i cs ty fz hi:=by
   simp only[Ctx.dC]
   by_cases e:i=b
   ·rw[e] at hi;exact absurd hi (hb _ _ _)
   ·rw[if_neg e];exact hi
 n:=Nat.le_refl _
 loc id l' hid hl:=⟨l',hl,rfl,Nat.le_refl _,fun _=>⟨rfl,rfl⟩⟩
theorem bf.qI (hs:bf L c h w):c.z w.heap.size=none:=by
 cases hz:c.z w.heap.size with
 | none=> rfl
 | some x=> have:=ek (hs.z _ _ hz);omega
theorem bf.It (hs:bf L c h w) (o o':Obj) (hr:real o=o'):bf L (c.dC w.heap.size o) h (w.alloc o') where
 z b x hb:=by
   simp only[Ctx.dC] at hb
   by_cases e:b=w.heap.size
   ·simp only[e,if_true,Option.some.injEq] at hb;subst hb;rw[e,iV,hr]
   ·rw[if_neg e] at hb;rw[gU (ek (hs.z b x hb))];exact hs.z b x hb
 n:=hs.n
 loc id l hl:=by
   obtain ⟨k,h1,h2,h3⟩:=hs.loc id l hl
   refine ⟨k,h1,?_,h3.mono (c.kh _ _ hs.qI) (gU h3.lt)⟩
   have:=h3.lt
   simp only[Ctx.dC]
   rw[if_neg (by omega)];exact h2
 live:=hs.live
 inj:=hs.inj
theorem bf.dC (hs:bf L c h w) (o:Obj) (hr:real o=o:=by rfl):bf L (c.dC w.heap.size o) h (w.alloc o):=hs.It o o hr
theorem bf.fill (hs:bf L c h w) {b:Nat} {cs cs':Array Value} {ty ty':TypeId} (hb:c.z b=some (.pending cs ty)) {w':World} (hold:∀x,x≠b→w'.heap[x]? =w.heap[x]?) (kU:w'.heap[b]? =some (.cells cs' ty' (0,0))):
 bf L (c.dC b (.cells cs' ty' (0,0))) h w' where
 z x o ho:=by
   simp only[Ctx.dC] at ho
   by_cases e:x=b
   ·simp only[e,if_true,Option.some.injEq] at ho;subst ho;rw[e,kU];rfl
   ·rw[if_neg e] at ho;rw[hold x e];exact hs.z x o ho
 n:=hs.n
 loc id l hl:=by
   obtain ⟨k,h1,h2,h3⟩:=hs.loc id l hl
   have cE:l.bu≠b:=fun e=> by rw[e,hb] at h2;cases h2
   refine ⟨k,h1,?_,h3.eO (c.qe b _ (by rw[hb];intro _ _ _ h;cases h)) (hold _ cE)⟩
   simp only[Ctx.dC];rw[if_neg cE];exact h2
 live:=hs.live
 inj:=hs.inj
def Ctx.die (c:Ctx) (id:Nat) (b:Nat) (o:Obj):Ctx:= {c with z:=fun i=> if i=b then some o else c.z i,loc:=fun i=> if i=id then none else c.loc i}
theorem Ctx.oE (c:Ctx) (id b:Nat) (o:Obj) (hb:c.z b=none):c.le (c.die id b o) where
 z i x hi:=by
   simp only[Ctx.die]
   by_cases e:i=b
   ·rw[e,hb] at hi;cases hi
   ·rw[if_neg e];exact hi
 n:=Nat.le_refl _
 loc i l' hid hl:=by
   simp only[Ctx.die] at hl
   by_cases e:i=id
   ·simp[e] at hl
   ·rw[if_neg e] at hl;exact ⟨l',hl,rfl,Nat.le_refl _,fun _=>⟨rfl,rfl⟩⟩
theorem bf.die (hs:bf L c h w) {id:Nat} {l:Loc} (hl:c.loc id=some l) {w':World} (hold:∀b,b≠l.bu→w'.heap[b]? =w.heap[b]?) {o:Obj} (ho:w'.heap[l.bu]? =some o) (hr:real o=o:=by rfl):bf L (c.die id l.bu o) (h.set id .dead) w' where
 z b x hb:=by
   simp only[Ctx.die] at hb
   by_cases e:b=l.bu
   ·simp only[e,if_true,Option.some.injEq] at hb;subst hb;rw[e,ho,hr]
   ·rw[if_neg e] at hb;rw[hold b e];exact hs.z b x hb
 n:=by simp[Ctx.die,hs.n]
 loc i l' dv:=by
   simp only[Ctx.die] at dv
   by_cases e:i=id
   ·simp[e] at dv
   ·rw[if_neg e] at dv
    obtain ⟨k,h1,h2,h3⟩:=hs.loc i l' dv
    obtain ⟨_,_,hz,_⟩:=hs.loc id l hl
    have cE:l'.bu≠l.bu:=fun he=> e (hs.inj i id l' l dv hl he)
    refine ⟨k,by rw[List.getElem?_set_ne (Ne.symm e)];exact h1,?_,h3.mono (c.oE _ _ _ hz) (hold _ cE)⟩
    simp only[Ctx.die]
    rw[if_neg cE];exact h2
 live i k hk:=by
   by_cases e:i=id
   ·subst e
    right
    rw[List.getElem?_set] at hk
    simp only[if_true] at hk
    split at hk <;> simp_all
   ·rw[List.getElem?_set_ne (Ne.symm e)] at hk
    rcases hs.live i k hk with ⟨l',h1⟩ | rfl
    ·exact .inl ⟨l',by simp[Ctx.die,e,h1]⟩
    ·exact .inr rfl
 inj i j li lj hi hj he:=by
   simp only[Ctx.die] at hi hj
   by_cases e1:i=id
   ·simp[e1] at hi
   ·by_cases e2:j=id
    ·simp[e2] at hj
    ·rw[if_neg e1] at hi;rw[if_neg e2] at hj;exact hs.inj i j li lj hi hj he
def Ctx.move (c:Ctx) (id:Nat) (l':Loc):Ctx:= {c with loc:=fun i=> if i=id then some l' else c.loc i}
theorem Ctx.vQ (c:Ctx) (id:Nat) (l l':Loc) (hl:c.loc id=some l) (bZ:l.tag=l'.tag) (cD:l.aw≤l'.aw) (Ce:l.aw=l'.aw→l'.bu=l.bu∧l'.cap=l.cap):c.le (c.move id l') where
 z _ _ hb:=hb
 n:=Nat.le_refl _
 loc i l'' hid hl'':=by
   simp only[Ctx.move] at hl''
   by_cases e:i=id
   ·simp only[e,if_true,Option.some.injEq] at hl''
    subst hl'';subst e
    exact ⟨l,hl,bZ,cD,Ce⟩
   ·rw[if_neg e] at hl'';exact ⟨l'',hl'',rfl,Nat.le_refl _,fun _=>⟨rfl,rfl⟩⟩
theorem bf.move (hs:bf L c h w) {id:Nat} {l l':Loc} (hl:c.loc id=some l) {w':World} (k:aW)
 (hle:c.le (c.move id l')) (hz:c.z l'.bu=none) (vU:l'.bu=l.bu∨w.heap.size≤l'.bu)
 (hold:∀b,b < w.heap.size→b≠l.bu→w'.heap[b]? =w.heap[b]?) (V1:∀o,c.z l.bu=some o→w'.heap[l.bu]? =some (real o))
 (hk:pk L (c.move id l') w' l' k):bf L (c.move id l') (h.set id k) w' where
 z b x hb:=by
   have h1:w.heap[b]? =some (real x):=hs.z b x hb
   by_cases e:b=l.bu
   ·subst e;exact V1 x hb
   ·rw[hold b (ek h1) e];exact h1
 n:=by simp[Ctx.move,hs.n]
 loc i li hli:=by
   simp only[Ctx.move] at hli
   by_cases e:i=id
   ·simp only[e,if_true,Option.some.injEq] at hli
    subst hli;subst e
    obtain ⟨k0,h1,_⟩:=hs.loc i l hl
    exact ⟨k,by rw[List.getElem?_set];simp[(List.getElem?_eq_some_iff.1 h1).1],hz,hk⟩
   ·rw[if_neg e] at hli
    obtain ⟨k',h1,h2,h3⟩:=hs.loc i li hli
    refine ⟨k',by rw[List.getElem?_set_ne (Ne.symm e)];exact h1,h2,h3.mono hle (hold _ h3.lt ?_)⟩
    exact fun he=> e (hs.inj i id li l hli hl he)
 live i k' lF:=by
   by_cases e:i=id
   ·exact .inl ⟨l',by simp[Ctx.move,e]⟩
   ·rw[List.getElem?_set_ne (Ne.symm e)] at lF
    rcases hs.live i k' lF with ⟨l'',h1⟩ | rfl
    ·exact .inl ⟨l'',by simp[Ctx.move,e,h1]⟩
    ·exact .inr rfl
 inj i j li lj hi hj he:=by
   simp only[Ctx.move] at hi hj
   by_cases e1:i=id <;> by_cases e2:j=id
   ·omega
   ·simp only[e1,if_true,e2,if_false,Option.some.injEq] at hi hj
    subst hi
    obtain ⟨k',_,_,h3⟩:=hs.loc j lj hj
    rcases vU with hb | hb
    ·exact absurd (hs.inj j id lj l hj hl (by omega)) e2
    ·have:=h3.lt;omega
   ·simp only[e1,if_false,e2,if_true,Option.some.injEq] at hi hj
    subst hj
    obtain ⟨k',_,_,h3⟩:=hs.loc i li hi
    rcases vU with hb | hb
    ·exact absurd (hs.inj i id li l hi hl (by omega)) e1
    ·have:=h3.lt;omega
   ·simp only[e1,if_false,e2] at hi hj
    exact hs.inj i j li lj hi hj he
theorem uW (hL:L.OK):∀(p:List Nat) (v x:V) (us:List Value),RC L c v us→nodeAt p v=some x→
 ∃o,L.walk v.ty p=some (o,x.ty)∧RC L c x ((us.drop o).take (L.az x.ty))∧o+L.az x.ty≤us.length:=by
 intro p
 induction p with
 | nil=>
   intro v x us hr hn
   simp only[nodeAt,Option.some.injEq] at hn
   subst hn
   have:=q22z hL v us hr
   exact ⟨0,by simp[cu.walk],by simpa[←this] using hr,by omega⟩
 | cons i p ih=>
   intro v x us hr hn
   cases v with
   | st t fs=>
     simp only[RC] at hr
     obtain ⟨hr,hf,eP⟩:=hr
     simp only[nodeAt] at hn
     split at hn
     ·rename_i y hy
      have h1:=nh hL hr hy
      have hle:=iX hL hr hy
      obtain ⟨o,h2,h3,h4⟩:=ih y x _ h1 hn
      have hlen:=q22z hL y _ h1
      refine ⟨((fs.take i).map fun v=> L.az v.ty).sum+o,?_,?_,?_⟩
      ·show L.walk (some t) (i::p)=_
       simp only[cu.walk,hf,List.getElem?_map,hy,Option.map_some,h2,←List.map_take,List.map_map]
       rfl
      ·rw[List.drop_take,List.take_take,List.drop_drop] at h3
       rw[List.length_take] at h4
       rwa [Nat.min_eq_left (by omega)] at h3
      ·simp only[List.length_take,List.length_drop] at h4 hlen
       omega
     ·cases hn
   | arr t es=>
     simp only[RC] at hr
     obtain ⟨hr,e,ha,he⟩:=hr
     simp only[nodeAt] at hn
     split at hn
     ·rename_i y hy
      have h1:=cR hL hr (fun z hz=>(he z hz).1) hy
      have hle:=da hL hr (fun z hz=>(he z hz).1) hy
      obtain ⟨o,h2,h3,h4⟩:=ih y x _ h1 hn
      have hlen:=q22z hL y _ h1
      have FK:y.ty=e:=(he y (List.mem_of_getElem? hy)).1
      have hi:=(List.getElem?_eq_some_iff.1 hy).1
      refine ⟨i * L.az e+o,?_,?_,?_⟩
      ·show L.walk (some t) (i::p)=_
       simp only[cu.walk,hL.no _ _ ha,ha,if_pos hi,←FK,h2,Option.map_some]
      ·rw[List.drop_take,List.take_take,List.drop_drop] at h3
       rw[List.length_take] at h4
       rwa [Nat.min_eq_left (by omega)] at h3
      ·simp only[List.length_take,List.length_drop] at h4 hlen
       omega
     ·cases hn
   | _=> simp[nodeAt] at hn
def lay (us:List Value) (o:Nat) (ys:List Value):List Value:=us.take o++(ys++us.drop (o+ys.length))
theorem dW (us ys:List Value) (o:Nat) (hl:o+ys.length≤us.length):(lay us o ys).length=us.length:=by simp[lay];omega
theorem lO (a b ys:List Value) (o:Nat) (hl:o+ys.length≤a.length):lay (a++b) o ys=lay a o ys++b:=by
 simp only[lay]
 rw[List.take_append_of_le_length (by omega),List.drop_append_of_le_length (by omega)]
 simp
theorem kj (a b ys:List Value) (o:Nat):lay (a++b) (a.length+o) ys=a++lay b o ys:=by
 simp only[lay]
 rw[List.take_append,List.drop_append]
 simp[Nat.add_assoc,List.drop_of_length_le,List.take_of_length_le]
theorem mF (us ys:List Value) (o n:Nat) (h1:o+ys.length≤n) (h2:n≤us.length):(lay us o ys).take n=lay (us.take n) o ys:=by
 obtain ⟨a,b,rfl,ha⟩:∃a b,us=a++b∧a.length=n:=⟨us.take n,us.drop n,(List.take_append_drop _ _).symm,by simp;omega⟩
 rw[lO _ _ _ _ (by omega),List.take_append_of_le_length (by rw[dW _ _ _ (by omega)];omega),
  List.take_of_length_le (by rw[dW _ _ _ (by omega)];omega),List.take_append_of_le_length (by omega),List.take_of_length_le (by omega)]
theorem rC (us ys:List Value) (k n o:Nat) (hk:k+n≤us.length) (hl:o+ys.length≤n):
 lay us (k+o) ys=lay us k (lay ((us.drop k).take n) o ys):=by
 have e1:us=us.take k++((us.drop k).take n++us.drop (k+n)):=by
   conv=> lhs;rw[←List.take_append_drop k us,←List.take_append_drop n (us.drop k)]
   rw[List.drop_drop]
 have lk:(us.take k).length=k:=by simp;omega
 have ln:((us.drop k).take n).length=n:=by simp;omega
 have hlen:(lay ((us.drop k).take n) o ys).length=n:=by rw[dW _ _ _ (by omega),ln]
 have e2:lay us k (lay ((us.drop k).take n) o ys)=us.take k++(lay ((us.drop k).take n) o ys++us.drop (k+n)):=by
   simp only[lay] at hlen ⊢
   rw[hlen]
 rw[e2]
 conv=> lhs;rw[e1]
 have:=kj (us.take k) ((us.drop k).take n++us.drop (k+n)) ys o
 rw[lk] at this
 rw[this,lO _ _ _ _ (by omega)]
theorem rD (hL:L.OK) {y:V} {ys:List Value} (hy:RC L c y ys):∀(vs:List V) (us:List Value) (i:Nat) (v:V),bV L c vs us→vs[i]? =some v→y.ty=v.ty→
 bV L c (vs.set i y) (lay us (((vs.take i).map fun v=> L.az v.ty).sum) ys):=by
 intro vs
 induction vs with
 | nil=> intro us i v _ hi;simp at hi
 | cons x xs ih=>
   intro us i v hr hi du
   simp only[bV] at hr
   obtain ⟨u1,u2,rfl,h1,h2⟩:=hr
   have hlen:=q22z hL x u1 h1
   have V2:=q22z hL y ys hy
   cases i with
   | zero=>
     simp at hi;subst hi
     rw[du] at V2
     simp only[List.set_cons_zero,bV,List.take_zero,List.map_nil,List.sum_nil]
     refine ⟨ys,u2,?_,hy,h2⟩
     simp only[lay,List.take_zero,List.nil_append,Nat.zero_add]
     rw[show ys.length=u1.length by omega,List.drop_left]
   | succ i=>
     simp at hi
     simp only[List.set_cons_succ,bV,List.take_succ_cons,List.map_cons,List.sum_cons]
     refine ⟨u1,_,?_,h1,ih u2 i v h2 hi du⟩
     rw[←hlen,kj]
theorem Iu (hL:L.OK) {y:V} {ys:List Value} (hy:RC L c y ys) (hys:y.ax=true):∀(p:List Nat) (v v' dO:V) (us:List Value),RC L c v us→nodeAt p v=some dO→putAt y p v=some v'→y.ty=dO.ty→
 ∃o,L.walk v.ty p=some (o,dO.ty)∧RC L c v' (lay us o ys)∧v'.ty=v.ty∧o+ys.length≤us.length∧v'.ax=true:=by
 intro p
 induction p with
 | nil=>
   intro v v' dO us hr hn hp du
   simp only[nodeAt,Option.some.injEq] at hn
   simp only[putAt,Option.some.injEq] at hp
   subst hn;subst hp
   have h1:=q22z hL v us hr
   have h2:=q22z hL y ys hy
   rw[du] at h2
   refine ⟨0,by simp[cu.walk],?_,du,by omega,hys⟩
   simp only[lay,List.take_zero,List.nil_append,Nat.zero_add]
   rw[List.drop_of_length_le (by omega),List.append_nil];exact hy
 | cons i p ih=>
   intro v v' dO us hr hn hp du
   cases v with
   | st t fs=>
     simp only[RC] at hr
     obtain ⟨hr,hf,eP⟩:=hr
     simp only[nodeAt] at hn
     simp only[putAt] at hp
     split at hn
     ·rename_i x hx
      rw[hx] at hp
      obtain ⟨x',hx',rfl⟩:=Option.map_eq_some_iff.1 hp
      have h1:=nh hL hr hx
      have hle:=iX hL hr hx
      obtain ⟨o,h2,h3,h4,h5,h6⟩:=ih x x' dO _ h1 hn hx' du
      have hlen:=q22z hL x _ h1
      refine ⟨((fs.take i).map fun v=> L.az v.ty).sum+o,?_,?_,rfl,by omega,rfl⟩
      ·show L.walk (some t) (i::p)=_
       simp only[cu.walk,hf,List.getElem?_map,hx,Option.map_some,h2,←List.map_take,List.map_map]
       rfl
      ·rw[rC us ys _ (L.az x.ty) o (by omega) (by omega)]
       simp only[RC]
       refine ⟨rD hL h3 fs us i x hr hx h4,?_,fun z hz=> ?_⟩
       ·rw[List.map_set,h4,hf]
        congr 1
        refine List.ext_getElem? fun j=> ?_
        by_cases e:j=i
        ·subst e
         rw[List.getElem?_set,List.getElem?_map,hx]
         simp[(List.getElem?_eq_some_iff.1 hx).1]
        ·rw[List.getElem?_set_ne (Ne.symm e)]
       ·rcases List.mem_or_eq_of_mem_set hz with hz | rfl
        ·exact eP z hz
        ·exact h6
     ·cases hn
   | arr t es=>
     simp only[RC] at hr
     obtain ⟨hr,e,ha,he⟩:=hr
     simp only[nodeAt] at hn
     simp only[putAt] at hp
     split at hn
     ·rename_i x hx
      rw[hx] at hp
      obtain ⟨x',hx',rfl⟩:=Option.map_eq_some_iff.1 hp
      have Av:x.ty=e:=(he x (List.mem_of_getElem? hx)).1
      have h1:=nh hL hr hx
      have hle:=iX hL hr hx
      have hi:=(List.getElem?_eq_some_iff.1 hx).1
      have vV:((es.take i).map fun v=> L.az v.ty).sum=i * L.az e:=dJ es _ _ i (fun z hz=> by rw[(he z hz).1]) (by omega)
      obtain ⟨o,h2,h3,h4,h5,h6⟩:=ih x x' dO _ h1 hn hx' du
      have hlen:=q22z hL x _ h1
      refine ⟨i * L.az e+o,?_,?_,rfl,by omega,rfl⟩
      ·show L.walk (some t) (i::p)=_
       simp only[cu.walk,hL.no _ _ ha,ha,if_pos hi,←Av,h2,Option.map_some]
      ·rw[←vV,rC us ys _ (L.az x.ty) o (by omega) (by omega)]
       simp only[RC]
       refine ⟨rD hL h3 es us i x hr hx h4,e,by simpa using ha,fun z hz=> ?_⟩
       rcases List.mem_or_eq_of_mem_set hz with hz | rfl
       ·exact he z hz
       ·exact ⟨by rw[h4,Av],h6⟩
     ·cases hn
   | _=> simp[nodeAt] at hn
def mK (us:List Value):Prop:=∀u∈us,u.oneCell'=true
theorem qf (w:World) (b i:Nat) (us:Array Value) (ty:TypeId) (fz:Nat×Nat) (v:Value) (hg:w.heap[b]? =some (.cells us ty fz)):
 (w.setCell ⟨b,i,none⟩ v).heap[b]? =some (.cells (us.setIfInBounds i v) ty fz):=by
 simp[World.setCell,Array.getElem?_modify,hg]
theorem dx (b:Nat) (ty:TypeId) (fz:Nat×Nat):∀(vs:List Value) (o:Nat) (us:Array Value) (w:World),w.heap[b]? =some (.cells us ty fz)→o+vs.length≤us.size→
 (w.setCells b o vs).heap[b]? =some (.cells (lay us.toList o vs).toArray ty fz)
 | [],o,us,w,hg,_=> by simp[World.setCells,lay,hg]
 | v::r,o,us,w,hg,hl=> by
   simp only[World.setCells]
   simp at hl
   rw[dx b ty fz r (o+1) _ _ (qf w b o us ty fz v hg) (by simp;omega)]
   congr 2
   simp only[lay,Array.toList_setIfInBounds]
   rw[List.take_set,List.drop_set]
   have h1:(us.toList.take (o+1)).set o v=us.toList.take o++[v]:=by
     rw[List.take_succ_eq_append_getElem (by simp;omega)]
     rw[List.set_append_right _ _ (by simp;exact Nat.min_le_left _ _)]
     simp[Nat.min_eq_left (show o≤us.size by omega),List.set_cons_zero]
   rw[h1,if_pos (by omega)]
   simp[Nat.add_assoc,Nat.add_comm 1]
theorem q13z (b:Nat):∀(vs:List Value) (o:Nat) (w:World) (k:Nat),k≠b→(w.setCells b o vs).heap[k]? =w.heap[k]?
 | [],_,_,_,_=> rfl
 | v::r,o,w,k,hk=> by
   simp only[World.setCells]
   rw[q13z b r _ _ k hk]
   exact RowKit.Below.heap_setCell w ⟨b,o,none⟩ v k hk
theorem St.setCells (b:Nat):∀(vs:List Value) (o:Nat) (w:World),St w (w.setCells b o vs)
 | [],_,w=> St.refl w
 | v::r,o,w=> by
   simp only[World.setCells]
   exact St.trans (show St w (w.setCell ⟨b,o,none⟩ v) from ⟨rfl,rfl,rfl,by simp⟩) (St.setCells b r (o+1) _)
theorem q15z {w:World} {b j:Nat} {us:Array Value} {ty:TypeId} {fz:Nat×Nat} (hg:w.heap[b]? =some (.cells us ty fz)):w.cell? ⟨b,j,none⟩=us[j]? :=by
 simp[World.cell?,hg]
theorem eo {w:World} {b j:Nat} {us:Array Value} {ty:TypeId} {fz:Nat×Nat} (hg:w.heap[b]? =some (.cells us ty fz)) (hf:∀j,j < us.size→¬(fz.1≤j∧j < fz.2)) (hj:j < us.size):w.frozen? ⟨b,j,none⟩=false:=by
 have:=hf j hj
 simp only[World.frozen?,hg]
 simp only[not_and] at this
 simp only[Bool.and_eq_false_iff,decide_eq_false_iff_not]
 by_cases h1:fz.1≤j
 ·exact .inr (this h1)
 ·exact .inl h1
theorem q16z {h:Hp} {id aw:Nat} {g:Option Nat} {es:List V} (hr:rowOf h id aw=some (g,es)):h[id]? =some (.cells g es)∧es.length=aw:=by
 unfold rowOf at hr
 split at hr
 ·rename_i g' es' he
  split at hr
  ·rename_i hlen
   simp only[Option.some.injEq,Prod.mk.injEq] at hr
   obtain ⟨rfl,rfl⟩:=hr
   exact ⟨he,hlen⟩
  ·cases hr
 ·cases hr
theorem bf.row (hs:bf L c h w) {id aw:Nat} {g:Option Nat} {es:List V} (hr:rowOf h id aw=some (g,es)):
 ∃l,c.loc id=some l∧l.aw=aw∧l.tag=g∧c.z l.bu=none∧pk L c w l (.cells g es):=by
 obtain ⟨h1,h2⟩:=q16z hr
 rcases hs.live id _ h1 with ⟨l,hl⟩ | hd
 ·obtain ⟨k,h3,h4,h5⟩:=hs.loc id l hl
  rw[h1] at h3;cases h3
  exact ⟨l,hl,by rw[h5.2.1,h2],h5.1,h4,h5⟩
 ·cases hd
theorem bf.node (hL:L.OK) (hs:bf L c h w) {id aw:Nat} {path:List Nat} {v:V} (hn:node h id path aw=some v):
 ∃l o us ty fz,c.loc id=some l∧l.aw=aw∧L.off l.tag path=some o∧w.heap[l.bu]? =some (.cells us ty fz)∧(∀j,j < us.size→¬(fz.1≤j∧j < fz.2))∧
  o+L.az v.ty≤us.size∧RC L c v ((us.toList.drop o).take (L.az v.ty)):=by
 unfold Vm.node at hn
 split at hn
 ·rename_i g es i p hr
  obtain ⟨l,hl,cD,bZ,hz,_,_,fM,cO,us,ty,fz,hg,cJ,df,fp⟩:=hs.row hr
  split at hn
  ·rename_i e he
   have uI:=fun x hx=>(cO x hx).1
   have h1:=cR hL fp uI he
   have h1le:=da hL fp uI he
   have za:e.ty=g:=uI e (List.mem_of_getElem? he)
   obtain ⟨o,h2,h3,h4⟩:=uW hL p e v _ h1 hn
   have hlen:=q22z hL e _ h1
   rw[za] at hlen
   have eI:(us.toList.take (es.length * L.az g)).length≤us.size:=by simp;omega
   refine ⟨l,i * L.az g+o,us,ty,fz,hl,cD,?_,hg,df.1,by omega,?_⟩
   ·simp only[cu.off,bZ,←za,h2,Option.map_some]
   ·have hil:=(List.getElem?_eq_some_iff.1 he).1
    have hb:(i+1)* L.az g≤es.length * L.az g:=Nat.mul_le_mul_right _ (by omega)
    rw[Nat.add_mul,Nat.one_mul] at hb
    rw[List.drop_take,List.take_take,List.drop_drop,List.drop_take,List.take_take] at h3
    rw[hlen] at h4
    rw[Nat.min_eq_left (by omega),Nat.min_eq_left (by omega)] at h3
    exact h3
  ·cases hn
 ·cases hn
theorem dr {vs:List V} (ih:∀v∈vs,v.ax=true→∀us,RC L c v us→mK us) (hs:∀v∈vs,v.ax=true):∀us,bV L c vs us→mK us:=by
 induction vs with
 | nil=> intro us h;simp only[bV] at h;subst h;intro u hu;simp at hu
 | cons v vs iv=>
   intro us h
   simp only[bV] at h
   obtain ⟨u1,u2,rfl,h1,h2⟩:=h
   intro u hu
   rcases List.mem_append.1 hu with hu | hu
   ·exact ih v (by simp) (hs v (by simp)) u1 h1 u hu
   ·exact iv (fun x hx=> ih x (by simp[hx])) (fun x hx=> hs x (by simp[hx])) u2 h2 u hu
theorem dt {u:Value} (hu:u.oneCell'=true):mK [u]:=by intro x hx;simp at hx;subst hx;exact hu
theorem dR :∀(v:V),v.ax=true→∀us,RC L c v us→mK us:=by
 intro v
 induction v using V.rec (motive_2:=fun vs=>∀v∈vs,v.ax=true→∀us,RC L c v us→mK us) with
 | s x=> intro _ us h;simp only[RC] at h;rw[h.1];exact dt h.2
 | ptr=> intro _ us h;simp only[RC] at h;obtain ⟨a,h,_⟩:=h;rw[h];exact dt rfl
 | ref=> intro _ us h;simp only[RC] at h;obtain ⟨a,k,h,_⟩:=h;rw[h];exact dt rfl
 | al=> intro _ us h;simp only[RC] at h;obtain ⟨a,k,h,_⟩:=h;rw[h];exact dt rfl
 | dP=> intro _ us h;simp only[RC] at h;obtain ⟨_,_,_,_,_,h,_⟩:=h;rw[h];exact dt rfl
 | st t fs ih=> intro _ us h;simp only[RC] at h;exact dr ih h.2.2 us h.1
 | arr t es ih=> intro _ us h;simp only[RC] at h;obtain ⟨h,e,_,he⟩:=h;exact dr ih (fun x hx=>(he x hx).2) us h
 | bI=> intro h;cases h
 | iface=> intro _ us h;simp only[RC] at h;obtain ⟨u,us',h,_⟩:=h;rw[h];exact dt rfl
 | fn=> intro _ us h;simp only[RC] at h;obtain ⟨ws,h,_⟩:=h;rw[h];exact dt rfl
 | mp=> intro _ us h;simp only[RC] at h;obtain ⟨b,h,_⟩:=h;rw[h];exact dt rfl
 | top=> intro h;cases h
 | nil=> rename_i hv _ _ _;exact absurd hv (by simp)
 | cons v vs h1 h2=>
   rename_i x hx hs us h
   rcases List.mem_cons.1 hx with rfl | hx
   ·exact h1 hs us h
   ·exact h2 x hx hs us h
end Go.Vm
namespace Go.Vm
def Yv :TypeDesc→Bool
 | .struct _=> true
 | .array _ _=> true
 | _=> false
structure TG (P:Program) (L:cu) (ty:TypeId) (g:Option Nat):Prop where
 info:∃i,P.info? ty=some i∧i.size=L.az g
 under:∃d,P.underlying ty=some d∧Yv d=g.isSome
variable {P : Program} {L : cu} {c : Ctx} {h : Hp} {w : World} {ty : TypeId} {g : Option Nat}
theorem TG.isAgg (ht:TG P L ty g) (w:World):(isAgg ty).run P w= .ok g.isSome w:=by
 obtain ⟨d,h1,h2⟩:=ht.under
 simp only[Go.isAgg,underlying,Sem.run_bind,run_program,Result.andThen_ok,h1,Sem.run_pure]
 rw[←h2]
 cases d <;> rfl
theorem TG.sizeOf (ht:TG P L ty g) (w:World):(Go.sizeOf ty).run P w= .ok (L.az g) w:=by
 obtain ⟨i,h1,h2⟩:=ht.info
 simp[Go.sizeOf,typeInfo,h1,h2]
theorem eC (b o n:Nat):(⟨b,o,none⟩:Addr).add n=⟨b,o+n,none⟩:=by unfold Addr.add;split <;> simp_all
theorem k8 {v:V} {us:List Value} {u:Value} (hv:v.ty=none):wr v us u↔us=[u]:=by
 cases v <;> first | (simp[V.ty] at hv;done) | exact Iff.rfl
theorem k9 {v:V} {t:Nat} {us:List Value} {u:Value} (hv:v.ty=some t):wr v us u↔u= .agg us.toArray:=by
 cases v <;> first | (simp[V.ty] at hv;done) | exact Iff.rfl
theorem fQ (hL:L.OK) {v:V} (ht:TG P L ty v.ty) {b o:Nat} {us:Array Value} {e:TypeId} {fz:Nat×Nat} (hg:w.heap[b]? =some (.cells us e fz))
 (hr:RC L c v ((us.toList.drop o).take (L.az v.ty))):∃u,(loadVar ty ⟨b,o,none⟩).run P w= .ok u w∧RV L c v u:=by
 have hlen:=q22z hL v _ hr
 cases hv:v.ty with
 | none=>
   rw[hv] at hlen hr ht
   simp only[cu.az] at hlen hr
   obtain ⟨u,hu⟩:=List.length_eq_one_iff.1 hlen
   have h0:us[o]? =some u:=by
     have:((us.toList.drop o).take 1)[0]? =some u:=by rw[hu];rfl
     simpa using this
   refine ⟨u,?_,⟨_,hr,(k8 hv).2 hu⟩⟩
   simp only[loadVar,Sem.run_bind,ht.isAgg,Option.isSome_none,Result.andThen_ok,Bool.false_eq_true,if_false,run_load,q15z hg,h0]
 | some t=>
   rw[hv] at hlen hr ht
   refine ⟨.agg ((us.toList.drop o).take (L.az (some t))).toArray,?_,⟨_,hr,(k9 hv).2 rfl⟩⟩
   have hl:(loadCells ⟨b,o,none⟩ ((us.toList.drop o).take (L.az (some t))).length).run P w= .ok ((us.toList.drop o).take (L.az (some t))).toArray w:=
     run_loadCells_list (P:=P) w ⟨b,o,none⟩ _ (fun j v hj=> by
       rw[eC,q15z hg]
       have uk:=(List.getElem?_eq_some_iff.1 hj).1
       rw[List.getElem?_take,if_pos (by rw[hlen] at uk;exact uk),List.getElem?_drop] at hj
       simpa using hj)
   rw[hlen] at hl
   simp only[loadVar,Sem.run_bind,ht.isAgg,Option.isSome_some,Result.andThen_ok,if_true,ht.sizeOf,hl,Sem.run_pure]
theorem qM (hL:L.OK) {v:V} (ht:TG P L ty v.ty) {o:Nat} {us:List Value} (hr:RC L c v ((us.drop o).take (L.az v.ty))):
 ∃u,(part ty us.toArray o).run P w= .ok u w∧RV L c v u:=by
 have hlen:=q22z hL v _ hr
 cases hv:v.ty with
 | none=>
   rw[hv] at hlen hr ht
   simp only[cu.az] at hlen hr
   obtain ⟨u,hu⟩:=List.length_eq_one_iff.1 hlen
   have h0:us[o]? =some u:=by
     have:((us.drop o).take 1)[0]? =some u:=by rw[hu];rfl
     simpa using this
   refine ⟨u,?_,⟨_,hr,(k8 hv).2 hu⟩⟩
   simp only[part,Sem.run_bind,ht.isAgg,Option.isSome_none,Result.andThen_ok,Bool.false_eq_true,if_false]
   have:us.toArray[o]? =some u:=by simpa using h0
   rw[this];rfl
 | some t=>
   rw[hv] at hlen hr ht
   refine ⟨.agg ((us.drop o).take (L.az (some t))).toArray,?_,⟨_,hr,(k9 hv).2 rfl⟩⟩
   simp only[part,Sem.run_bind,ht.isAgg,Option.isSome_some,Result.andThen_ok,if_true,ht.sizeOf,Sem.run_pure]
   congr 2
   apply Array.ext'
   simp[List.extract]
theorem RV.cells {v:V} {u:Value} (eP:v.ax=true) (hv:RV L c v u):RC L c v u.cells.toList∧wr v u.cells.toList u:=by
 obtain ⟨us,h1,h2⟩:=hv
 cases ht:v.ty with
 | none=>
   have h3:=(k8 ht).1 h2
   subst h3
   have h4:=dR v eP _ h1 u (by simp)
   cases u <;> first | (simp[Value.oneCell'] at h4;done) | exact ⟨h1,by rw[k8 ht];rfl⟩
 | some t=>
   have h3:=(k9 ht).1 h2
   subst h3
   exact ⟨by simpa[Value.cells] using h1,by rw[k9 ht];simp[Value.cells]⟩
theorem lP (hL:L.OK) {v:V} (ht:TG P L ty v.ty) {u:Value} (eP:v.ax=true) (hv:RV L c v u) {b o:Nat} {us:Array Value} {e:TypeId} {fz:Nat×Nat} (hg:w.heap[b]? =some (.cells us e fz))
 (df:∀j,j < us.size→¬(fz.1≤j∧j < fz.2)) (hle:o+L.az v.ty≤us.size):
 (storeVar ty ⟨b,o,none⟩ u).run P w= .ok () (w.setCells b o u.cells.toList):=by
 obtain ⟨h1,h2⟩:=hv.cells eP
 have hlen:=q22z hL v _ h1
 simp at hlen
 have vW:=dR v eP _ h1
 have:=run_storeCells_cells (P:=P) b o u.cells.toList 0 w
   (fun j hj=> by rw[q15z hg];simp at hj ⊢;omega)
   (fun j hj=> eo hg df (by simp at hj;omega)) vW
 simp only[storeVar,Sem.run_bind,ht.sizeOf,Result.andThen_ok,hlen]
 simpa using this
theorem RV.aR (hL:L.OK) {v:V} {u:Value} (eP:v.ax=true) (hv:RV L c v u):u.cells.toList.length=L.az v.ty:=q22z hL v _ (hv.cells eP).1
theorem DU {g:Option Nat} {i:Nat}:∀ {p:List Nat} {o:Nat} {g':Option Nat} {r:Nat×Option Nat},L.walk g p=some (o,g')→L.walk g' [i]=some r→L.walk g (p++[i])=some (o+r.1,r.2):=by
 intro p
 induction p generalizing g with
 | nil=> intro o g' r h1 h2;simp only[cu.walk,Option.some.injEq,Prod.mk.injEq] at h1;obtain ⟨rfl,rfl⟩:=h1;simpa using h2
 | cons j p ih=>
   intro o g' r h1 h2
   cases g with
   | none=> simp[cu.walk] at h1
   | some t=>
     simp only[List.cons_append,cu.walk] at h1 ⊢
     cases hf:L.fields t with
     | some fs=>
       simp only[hf] at h1 ⊢
       cases hj:fs[j]? with
       | none=> simp[hj] at h1
       | some x=>
         simp only[hj] at h1 ⊢
         obtain ⟨⟨o1,g1⟩,h3,h4⟩:=Option.map_eq_some_iff.1 h1
         simp only[Prod.mk.injEq] at h4
         obtain ⟨rfl,rfl⟩:=h4
         rw[ih h3 h2]
         simp[Nat.add_assoc]
     | none=>
       simp only[hf] at h1 ⊢
       cases ha:L.arr t with
       | none=> simp[ha] at h1
       | some ne=>
         obtain ⟨n,e⟩:=ne
         simp only[ha] at h1 ⊢
         by_cases hjn:j < n
         ·simp only[if_pos hjn] at h1 ⊢
          obtain ⟨⟨o1,g1⟩,h3,h4⟩:=Option.map_eq_some_iff.1 h1
          simp only[Prod.mk.injEq] at h4
          obtain ⟨rfl,rfl⟩:=h4
          rw[ih h3 h2]
          simp[Nat.add_assoc]
         ·simp[hjn] at h1
theorem sP {g g':Option Nat} {i j:Nat} {p:List Nat} {o:Nat} {r:Nat×Option Nat} (h1:L.off g (j::p)=some o) (h3:∃o',L.walk g p=some (o',g')) (h2:L.walk g' [i]=some r):L.off g (j::p++[i])=some (o+r.1):=by
 obtain ⟨o',h3⟩:=h3
 simp only[cu.off,h3,Option.map_some,Option.some.injEq] at h1
 subst h1
 simp only[List.cons_append,cu.off,DU h3 h2,Option.map_some,Nat.add_assoc]
theorem Az {t i:Nat} {fs:List (Option Nat)} {x:Option Nat} (hf:L.fields t=some fs) (hi:fs[i]? =some x):L.walk (some t) [i]=some (((fs.take i).map L.az).sum,x):=by
 simp[cu.walk,hf,hi]
theorem uX (hL:L.OK) {t i n:Nat} {e:Option Nat} (ha:L.arr t=some (n,e)) (hi:i < n):L.walk (some t) [i]=some (i * L.az e,e):=by
 simp[cu.walk,hL.no _ _ ha,ha,hi]
theorem bf.nodeAt (hL:L.OK) (hs:bf L c h w) {id aw:Nat} {path:List Nat} {v:V} (hn:Vm.node h id path aw=some v):
 ∃l j p o us e fz,path=j::p∧c.loc id=some l∧l.aw=aw∧L.off l.tag path=some o∧(∃o',L.walk l.tag p=some (o',v.ty))∧w.heap[l.bu]? =some (.cells us e fz)∧c.z l.bu=none∧
  (∀j,j < us.size→¬(fz.1≤j∧j < fz.2))∧o+L.az v.ty≤us.size∧RC L c v ((us.toList.drop o).take (L.az v.ty)):=by
 obtain ⟨l,o,us,e,fz,hl,cD,ig,hg,df,hle,hr⟩:=hs.node hL hn
 obtain ⟨k,hk,hz,_⟩:=hs.loc id l hl
 have uu:=hn
 unfold Vm.node at uu
 split at uu
 ·rename_i g es i p ck
  obtain ⟨l',dv,_,bZ,_,_,_,_,cO,us',ty',fz',FL,Zl,_,fp⟩:=hs.row ck
  rw[hl] at dv;cases dv
  split at uu
  ·rename_i x hx
   have h1:=cR hL fp (fun y hy=>(cO y hy).1) hx
   obtain ⟨o',h2,_⟩:=uW hL p x v _ h1 uu
   have Av:x.ty=g:=(cO x (List.mem_of_getElem? hx)).1
   exact ⟨l,i,p,o,us,e,fz,rfl,hl,cD,ig,⟨o',by rw[bZ,←Av];exact h2⟩,hg,hz,df,hle,hr⟩
  ·cases uu
 ·cases uu
end Go.Vm
namespace Go.Vm
variable {P : Program} {L : cu} {c : Ctx} {h : Hp} {w : World}
def aJ (L:cu) (c:Ctx) (w:World) (r:Result Value) (v:V) (h':Hp):Prop:=
 ∃u c' w',r= .ok u w'∧RV L c' v u∧bf L c' h' w'∧c.le c'∧St w w'
theorem aJ.same {r:Result Value} {v:V} {u:Value} (hr:r= .ok u w) (hv:RV L c v u) (hs:bf L c h w):aJ L c w r v h:=
 ⟨u,c,w,hr,hv,hs,Ctx.le_refl c,St.refl w⟩
theorem sQ {id:Nat} {path:List Nat} {aw:Nat} {u:Value}:RV L c (.ptr id path aw) u↔∃a,u= .pointer (some a)∧id < c.n∧
 ∀l,c.loc id=some l→aw≤l.aw∧(l.aw=aw→∃o,L.off l.tag path=some o∧a=⟨l.bu,o,none⟩):=by
 rw[ea rfl]
 simp only[RC,List.cons.injEq,and_true]
theorem fR {v:V} {u:Value}:RV L c (.dP v) u↔∃b off cs ty fz,u= .pointer (some ⟨b,off,none⟩)∧c.z b=some (.cells cs ty fz)∧RC L c v (ng cs off (L.az v.ty)):=by
 rw[ea rfl]
 simp only[RC,List.cons.injEq,and_true]
theorem bx {x u:Value}:RV L c (.s x) u↔u=x∧x.oneCell'=true:=by
 rw[ea rfl]
 simp only[RC,List.cons.injEq,and_true]
theorem iY {id aw:Nat} {path:List Nat} {u:Value} {l:Loc} {o:Nat} (hp:RV L c (.ptr id path aw) u) (hl:c.loc id=some l) (ht:l.aw=aw) (ho:L.off l.tag path=some o):u= .pointer (some ⟨l.bu,o,none⟩):=by
 obtain ⟨a,hu,_,cK⟩:=sQ.1 hp
 obtain ⟨_,hx⟩:=cK l hl
 obtain ⟨o',h1,h2⟩:=hx ht
 rw[ho] at h1;cases h1
 rw[hu,h2]
theorem sR (hs:bf L c h w) {id aw:Nat} {path:List Nat} {l:Loc} {o:Nat} (hl:c.loc id=some l) (ht:l.aw=aw) (ho:L.off l.tag path=some o):RV L c (.ptr id path aw) (.pointer (some ⟨l.bu,o,none⟩)):=by
 refine sQ.2 ⟨_,rfl,hs.Nr hl,fun l' dv=> ?_⟩
 rw[hl] at dv;cases dv
 exact ⟨by omega,fun _=>⟨o,ho,rfl⟩⟩
theorem V3 (hL:L.OK) (hs:bf L c h w) {T t i:Nat} {fields:Array Field} {f:Field} {gs:List (Option Nat)} (hu:P.underlying T=some (.struct fields)) (hf:fields[i]? =some f)
 (cJ:P.cellsOf f.type≠0) (iq:L.fields t=some gs) (ig:f.offset=((gs.take i).map L.az).sum) {x:V} {ux:Value} (hx:RV L c x ux) {v:V} {h':Hp}
 (ah:DT h t i x=some (v,h')):aJ L c w ((Instr.fieldAt T ux i).run P w) v h':=by
 have V4:∃j,P.info? f.type=some j∧j.size≠0:=by
   cases hj:P.info? f.type with
   | none=> simp[Program.cellsOf,hj] at cJ
   | some j=> exact ⟨j,rfl,by simpa[Program.cellsOf,hj] using cJ⟩
 obtain ⟨j,hj,hj0⟩:=V4
 have bd:∀b o,(Instr.fieldAt T (.pointer (some ⟨b,o,none⟩)) i).run P w= .ok (.pointer (some ⟨b,o+f.offset,none⟩)) w:=by
   intro b o
   simp[Instr.fieldAt,underlying,hu,hf,Instr.sureAddr,fieldPlace,Go.sizeOf,typeInfo,hj,hj0,eC]
 simp only[DT] at ah
 split at ah
 ·rename_i id path aw
  split at ah
  ·rename_i t' fs hn
   split at ah
   ·rename_i hc
    obtain ⟨rfl,hi⟩:=hc
    simp only[Option.some.injEq,Prod.mk.injEq] at ah
    obtain ⟨rfl,rfl⟩:=ah
    obtain ⟨l,j',p,o,us,e,fz,rfl,hl,ht,ho,lK,hg,hz,df,hle,hr⟩:=hs.nodeAt hL hn
    have DV:=iY hx hl ht ho
    subst DV
    have Yw:i < gs.length:=by
      simp only[RC] at hr
      have:=hr.2.1
      rw[iq] at this
      simp only[Option.some.injEq] at this
      rw[this];simpa using hi
    have h1:=sP (i:=i) ho lK (Az iq (List.getElem?_eq_getElem Yw))
    rw[bd,ig]
    exact aJ.same rfl (sR hs hl ht h1) hs
   ·cases ah
  ·cases ah
 ·rename_i t' fs
  split at ah
  ·rename_i hc;subst hc
   obtain ⟨y,hy,he⟩:=Option.map_eq_some_iff.1 ah
   simp only[Prod.mk.injEq] at he
   obtain ⟨rfl,rfl⟩:=he
   obtain ⟨b,off,cs,ty,fz,rfl,hz,hr⟩:=fR.1 hx
   simp only[RC] at hr
   obtain ⟨hr,hf',eP⟩:=hr
   rw[iq] at hf'
   simp only[Option.some.injEq] at hf'
   have h1:=nh hL hr hy
   have h2:=iX hL hr hy
   have vV:((fs.take i).map fun v=> L.az v.ty).sum=f.offset:=by
     rw[ig,hf',←List.map_take,List.map_map];rfl
   rw[vV] at h1 h2
   rw[bd]
   refine aJ.same rfl (fR.2 ⟨b,off+f.offset,cs,ty,fz,rfl,hz,?_⟩) hs
   simp only[ng] at h1 h2 ⊢
   rw[List.drop_take,List.take_take,List.drop_drop] at h1
   rw[List.length_take] at h2
   rwa [Nat.min_eq_left (by simp only[V.ty] at h2 ⊢;omega)] at h1
  ·cases ah
 ·cases ah
theorem PH (hL:L.OK) (hs:bf L c h w) {T t i:Nat} {fields:Array Field} {f:Field} {gs:List (Option Nat)} {g:Option Nat} (hu:P.underlying T=some (.struct fields)) (hf:fields[i]? =some f)
 (iq:L.fields t=some gs) (hg:gs[i]? =some g) (jg:TG P L f.type g) (ig:f.offset=((gs.take i).map L.az).sum) {x:V} {ux:Value} (hx:RV L c x ux) {v:V} {h':Hp}
 (ah:sH h t i x=some (v,h')):aJ L c w ((Instr.field T ux i).run P w) v h':=by
 simp only[sH] at ah
 split at ah
 ·rename_i t' fs
  split at ah
  case isFalse=> cases ah
  rename_i hc
  subst hc
  obtain ⟨y,hy,he⟩:=Option.map_eq_some_iff.1 ah
  simp only[Prod.mk.injEq] at he
  obtain ⟨rfl,rfl⟩:=he
  obtain ⟨us,rfl,hr⟩:=(eV rfl).1 hx
  simp only[RC] at hr
  obtain ⟨hr,hf',eP⟩:=hr
  rw[iq] at hf'
  simp only[Option.some.injEq] at hf'
  have Cf:y.ty=g:=by
    rw[hf',List.getElem?_map,hy] at hg
    simpa using hg
  have h1:=nh hL hr hy
  have vV:((fs.take i).map fun v=> L.az v.ty).sum=f.offset:=by
    rw[ig,hf',←List.map_take,List.map_map];rfl
  rw[vV] at h1
  obtain ⟨u,bd,hv⟩:=qM (P:=P) (w:=w) hL (by rw[Cf];exact jg) h1
  refine aJ.same (u:=u) ?_ hv hs
  simp[Instr.field,underlying,hu,hf,asAgg,bd]
 ·cases ah
theorem iZ {y:V} {i:Int} (hn:numOf y=some i) {u:Value} (hy:RV L c y u):∃k,u= .int k i:=by
 unfold numOf at hn
 split at hn
 ·rename_i k n
  simp only[Option.some.injEq] at hn
  subst hn
  exact ⟨k,(bx.1 hy).1⟩
 ·cases hn
theorem n9 {id:Nat} {path:List Nat} {g:Option Nat} {off len aw:Nat} {u:Value}:RV L c (.ref id path g off len aw) u↔∃a k,u= .slice (some a) len k∧id < c.n∧len≤k∧
 ∀l,c.loc id=some l→aw≤l.aw∧(l.aw=aw→∃o m,L.row l.tag path=some (o,g,m)∧a=⟨l.bu,o+off * L.az g,none⟩∧eM m off len aw k l.cap):=by
 rw[ea rfl]
 simp only[RC,List.cons.injEq,and_true]
theorem cV {full:Bool} {g:Option Nat} {es:List V} {u:Value}:RV L c (.al full g es) u↔∃a k,u= .slice a es.length k∧es.length≤k∧(full=true→k=es.length)∧(∀e∈es,e.ty=g∧e.ax=true)∧
 (es=[]∨∃b off cs ty fz,a=some ⟨b,off,none⟩∧c.z b=some (.cells cs ty fz)∧bV L c es (ng cs off (es.length * L.az g))):=by
 rw[ea rfl]
 simp only[RC,List.cons.injEq,and_true]
theorem bf.rowAt (hL:L.OK) (hs:bf L c h w) {id aw:Nat} {path:List Nat} {es:List V} (hn:Vm.rowAt h id path aw=some es):
 ∃l o e m us ty fz,c.loc id=some l∧l.aw=aw∧L.row l.tag path=some (o,e,m)∧w.heap[l.bu]? =some (.cells us ty fz)∧c.z l.bu=none∧(∀j,j < us.size→¬(fz.1≤j∧j < fz.2))∧
  o+es.length * L.az e≤us.size∧bV L c es ((us.toList.drop o).take (es.length * L.az e))∧(∀x∈es,x.ty=e∧x.ax=true)∧
  (m=none→es.length=aw∧path=[]∧o=0∧e=l.tag∧us.size=l.cap * L.az e∧aw≤l.cap)∧(∀n,m=some n→n=es.length)∧(∀i,i < es.length→L.off l.tag (path++[i])=some (o+i * L.az e)):=by
 unfold Vm.rowAt at hn
 split at hn
 ·obtain ⟨⟨g,es'⟩,hr,he⟩:=Option.map_eq_some_iff.1 hn
  simp only at he
  subst he
  obtain ⟨l,hl,cD,bZ,hz,_,hle,fM,cO,us,ty,fz,hg,cJ,df,fp⟩:=hs.row hr
  have hlen:=(q16z hr).2
  have hc:es'.length * L.az g≤l.cap * L.az g:=Nat.mul_le_mul_right _ fM
  refine ⟨l,0,g,none,us,ty,fz,hl,cD,by simp[cu.row,bZ],hg,hz,df.1,by omega,by simpa using fp,cO,fun _=>⟨hlen,rfl,rfl,bZ.symm,cJ,by omega⟩,fun n hn=> by simp at hn,fun i hi=> ?_⟩
  simp[cu.off,cu.walk,bZ]
 ·rename_i cE
  split at hn
  ·rename_i t es' nP
   simp only[Option.some.injEq] at hn
   subst hn
   obtain ⟨l,j,p,o,us,ty,fz,rfl,hl,cD,ig,⟨o',lK⟩,hg,hz,df,hle,hr⟩:=hs.nodeAt hL nP
   simp only[RC] at hr
   obtain ⟨hr,e,ha,cO⟩:=hr
   have cJ:L.az (V.ty (.arr t es'))=es'.length * L.az e:=by simp[V.ty,cu.az,hL.ar _ _ _ ha]
   rw[cJ] at hr hle
   have Iv:o=j * L.az l.tag+o':=by
     simp only[cu.off,lK,Option.map_some,Option.some.injEq] at ig
     omega
   refine ⟨l,o,e,some es'.length,us,ty,fz,hl,cD,?_,hg,hz,df,hle,hr,cO,fun hm=> by simp at hm,fun n hn=> by simpa using hn.symm,fun i hi=> ?_⟩
   ·simp only[cu.row,lK,V.ty,ha,Option.map_some,Iv]
   ·exact sP ig ⟨o',lK⟩ (uX hL ha hi)
  ·cases hn
theorem dI {id aw off len:Nat} {path:List Nat} {g:Option Nat} {u:Value} {l:Loc} {o:Nat} {e:Option Nat} {m:Option Nat} (hp:RV L c (.ref id path g off len aw) u) (hl:c.loc id=some l) (ht:l.aw=aw) (ho:L.row l.tag path=some (o,e,m)):
 e=g∧∃k,u= .slice (some ⟨l.bu,o+off * L.az g,none⟩) len k∧len≤k∧eM m off len aw k l.cap:=by
 obtain ⟨a,k,hu,_,lT,cK⟩:=n9.1 hp
 obtain ⟨_,hx⟩:=cK l hl
 obtain ⟨o',m',h1,h2,h3⟩:=hx ht
 rw[ho] at h1
 simp only[Option.some.injEq,Prod.mk.injEq] at h1
 obtain ⟨rfl,rfl,rfl⟩:=h1
 exact ⟨rfl,k,by rw[hu,h2],lT,h3⟩
theorem mG (hs:bf L c h w) {id aw off len k:Nat} {path:List Nat} {l:Loc} {o:Nat} {e:Option Nat} {m:Option Nat} (hl:c.loc id=some l) (ht:l.aw=aw) (ho:L.row l.tag path=some (o,e,m)) (lT:len≤k)
 (hm:eM m off len aw k l.cap):RV L c (.ref id path e off len aw) (.slice (some ⟨l.bu,o+off * L.az e,none⟩) len k):=by
 refine n9.2 ⟨_,k,rfl,hs.Nr hl,lT,fun l' dv=> ?_⟩
 rw[hl] at dv;cases dv
 exact ⟨by omega,fun _=>⟨o,m,ho,rfl,hm⟩⟩
theorem PI (hL:L.OK) (hs:bf L c h w) {T t n:Nat} {el:TypeId} {e:Option Nat} (hu:P.underlying T=some (.array n el)) (bQ:TG P L el e) (ha:L.arr t=some (n,e))
 {x y:V} {ux uy:Value} (hx:RV L c x ux) (hy:RV L c y uy) {v:V} {h':Hp} (ah:uK h t x y=some (v,h')):aJ L c w ((Instr.indexAt T ux uy).run P w) v h':=by
 have bd:∀b o k (i:Int),0≤i→i < n→(Instr.indexAt T (.pointer (some ⟨b,o,none⟩)) (.int k i)).run P w= .ok (.pointer (some ⟨b,o+i.toNat * L.az e,none⟩)) w:=by
   intro b o k i h0 h1
   simp only[Instr.indexAt,asIntOf,underlying,Sem.run_bind,Sem.run_pure,Result.andThen_ok,run_program,hu,Instr.sureAddr,if_pos (And.intro h0 h1),bQ.sizeOf,eC]
 simp only[uK] at ah
 split at ah
 case h_2=> cases ah
 rename_i i hi
 obtain ⟨k,rfl⟩:=iZ hi hy
 split at ah
 ·rename_i id path aw
  split at ah
  ·rename_i t' es hn
   split at ah
   ·rename_i hc
    obtain ⟨rfl,h0,h1⟩:=hc
    simp only[Option.some.injEq,Prod.mk.injEq] at ah
    obtain ⟨rfl,rfl⟩:=ah
    obtain ⟨l,j',p,o,us,ty,fz,rfl,hl,ht,ho,lK,hg,hz,df,hle,hr⟩:=hs.nodeAt hL hn
    have DV:=iY hx hl ht ho
    subst DV
    simp only[RC] at hr
    obtain ⟨e',oM,_⟩:=hr.2
    rw[ha] at oM
    simp only[Option.some.injEq,Prod.mk.injEq] at oM
    obtain ⟨uu,rfl⟩:=oM
    have h2:=sP (i:=i.toNat) ho lK (uX hL ha (by omega))
    rw[bd _ _ _ _ h0 (by omega)]
    exact aJ.same rfl (sR hs hl ht h2) hs
   ·cases ah
  ·cases ah
 ·rename_i t' es
  split at ah
  ·rename_i hc
   obtain ⟨rfl,h0,h1⟩:=hc
   obtain ⟨y,FM,he⟩:=Option.map_eq_some_iff.1 ah
   simp only[Prod.mk.injEq] at he
   obtain ⟨rfl,rfl⟩:=he
   obtain ⟨b,off,cs,ty,fz,rfl,hz,hr⟩:=fR.1 hx
   simp only[RC] at hr
   obtain ⟨hr,e',oM,cO⟩:=hr
   rw[ha] at oM
   simp only[Option.some.injEq,Prod.mk.injEq] at oM
   obtain ⟨uu,rfl⟩:=oM
   have h2:=cR hL hr (fun z hz=>(cO z hz).1) FM
   have h3:=da hL hr (fun z hz=>(cO z hz).1) FM
   have FK:y.ty=e:=(cO y (List.mem_of_getElem? FM)).1
   rw[bd _ _ _ _ h0 (by omega)]
   refine aJ.same rfl (fR.2 ⟨b,off+i.toNat * L.az e,cs,ty,fz,rfl,hz,?_⟩) hs
   simp only[ng] at h2 h3 ⊢
   rw[List.drop_take,List.take_take,List.drop_drop] at h2
   rw[List.length_take] at h3
   rw[FK]
   rwa [Nat.min_eq_left (by simp only[V.ty] at h3 ⊢;omega)] at h2
  ·cases ah
 ·cases ah
theorem PJ (hL:L.OK) (hs:bf L c h w) {T:Nat} {el:TypeId} {g:Option Nat} (hu:P.underlying T=some (.slice el)) (bQ:TG P L el g)
 {x y:V} {ux uy:Value} (hx:RV L c x ux) (hy:RV L c y uy) {v:V} {h':Hp} (ah:uL h g x y=some (v,h')):aJ L c w ((Instr.indexAt T ux uy).run P w) v h':=by
 have bd:∀b o n cp k (i:Int),0≤i→i <(n:Nat)→(Instr.indexAt T (.slice (some ⟨b,o,none⟩) n cp) (.int k i)).run P w= .ok (.pointer (some ⟨b,o+i.toNat * L.az g,none⟩)) w:=by
   intro b o n cp k i h0 h1
   simp only[Instr.indexAt,asIntOf,underlying,Sem.run_bind,Sem.run_pure,Result.andThen_ok,run_program,hu,if_pos (And.intro h0 h1),bQ.sizeOf,eC]
 simp only[uL] at ah
 split at ah
 case h_2=> cases ah
 rename_i i hi
 obtain ⟨k,rfl⟩:=iZ hi hy
 split at ah
 ·rename_i id path g' off len aw
  split at ah
  case h_2=> cases ah
  rename_i es ck
  split at ah
  case isFalse=> cases ah
  rename_i hc
  obtain ⟨rfl,h0,h1,bW⟩:=hc
  simp only[Option.some.injEq,Prod.mk.injEq] at ah
  obtain ⟨rfl,rfl⟩:=ah
  obtain ⟨l,o,e,m,us,ty,fz,hl,ht,ou,hg,hz,df,hle,hr,cO,qz,qx,ig⟩:=hs.rowAt hL ck
  obtain ⟨rfl,kk,rfl,lT,hm⟩:=dI hx hl ht ou
  rw[bd _ _ _ _ _ _ h0 (by omega)]
  have h2:=ig (off+i.toNat) bW
  rw[Nat.add_mul,←Nat.add_assoc] at h2
  exact aJ.same rfl (sR hs hl ht h2) hs
 ·rename_i full g' es
  split at ah
  case isFalse=> cases ah
  rename_i hc
  obtain ⟨rfl,h0⟩:=hc
  obtain ⟨y',FM,he⟩:=Option.map_eq_some_iff.1 ah
  simp only[Prod.mk.injEq] at he
  obtain ⟨rfl,rfl⟩:=he
  have bW:=(List.getElem?_eq_some_iff.1 FM).1
  obtain ⟨a,kk,rfl,lT,Cg,cO,fy⟩:=cV.1 hx
  rcases fy with rfl | ⟨b,off,cs,ty,fz,rfl,hz,hr⟩
  ·simp at bW
  have Cf:=(cO y' (List.mem_of_getElem? FM)).1
  have h2:=cR hL hr (fun z hz=>(cO z hz).1) FM
  have h3:=da hL hr (fun z hz=>(cO z hz).1) FM
  rw[bd _ _ _ _ _ _ h0 (by omega)]
  refine aJ.same rfl (fR.2 ⟨b,off+i.toNat * L.az g',cs,ty,fz,rfl,hz,?_⟩) hs
  simp only[ng] at h2 h3 ⊢
  rw[List.drop_take,List.take_take,List.drop_drop] at h2
  rw[List.length_take] at h3
  rw[Cf]
  rwa [Nat.min_eq_left (by omega)] at h2
 ·cases ah
theorem PK (hL:L.OK) (hs:bf L c h w) {T t n:Nat} {el:TypeId} {e:Option Nat} (hu:P.underlying T=some (.array n el)) (bQ:TG P L el e) (ha:L.arr t=some (n,e))
 {x y:V} {ux uy:Value} (hx:RV L c x ux) (hy:RV L c y uy) {v:V} {h':Hp} (ah:qC h t x y=some (v,h')):aJ L c w ((Instr.index T ux uy).run P w) v h':=by
 simp only[qC] at ah
 split at ah
 case h_2=> cases ah
 rename_i t' es i hi
 obtain ⟨k,rfl⟩:=iZ hi hy
 split at ah
 case isFalse=> cases ah
 rename_i hc
 obtain ⟨rfl,h0⟩:=hc
 obtain ⟨y',FM,he⟩:=Option.map_eq_some_iff.1 ah
 simp only[Prod.mk.injEq] at he
 obtain ⟨rfl,rfl⟩:=he
 obtain ⟨us,rfl,hr⟩:=(eV rfl).1 hx
 simp only[RC] at hr
 obtain ⟨hr,e',oM,cO⟩:=hr
 rw[ha] at oM
 simp only[Option.some.injEq,Prod.mk.injEq] at oM
 obtain ⟨uu,rfl⟩:=oM
 have bW:=(List.getElem?_eq_some_iff.1 FM).1
 have h2:=cR hL hr (fun z hz=>(cO z hz).1) FM
 have FK:y'.ty=e:=(cO y' (List.mem_of_getElem? FM)).1
 obtain ⟨u,bd,hv⟩:=qM (P:=P) (w:=w) hL (ty:=el) (v:=y') (by rw[FK];exact bQ) (by rw[FK];exact h2)
 refine aJ.same (u:=u) ?_ hv hs
 simp only[Instr.index,asIntOf,underlying,Sem.run_bind,Sem.run_pure,Result.andThen_ok,run_program,hu,if_pos (And.intro h0 (show i <(n:Int) by omega)),bQ.sizeOf,bd]
theorem Ns (hL:L.OK) (hs:bf L c h w) {T:Nat} {g:Option Nat} (hT:TG P L T g) {x:V} {ux:Value} (hx:RV L c x ux) {v:V} {h':Hp} (ah:rj h g x=some (v,h')):
 aJ L c w ((Instr.loadAt T ux).run P w) v h':=by
 simp only[rj] at ah
 split at ah
 ·rename_i id path aw
  split at ah
  case h_2=> cases ah
  rename_i y hn
  split at ah
  case isFalse=> cases ah
  rename_i Cf
  simp only[Option.some.injEq,Prod.mk.injEq] at ah
  obtain ⟨rfl,rfl⟩:=ah
  obtain ⟨l,o,us,ty,fz,hl,ht,ho,hg,df,hle,hr⟩:=hs.node hL hn
  have DV:=iY hx hl ht ho
  subst DV
  obtain ⟨u,bd,hv⟩:=fQ (P:=P) hL (ty:=T) (by rw[Cf];exact hT) hg hr
  exact aJ.same (by simpa[Instr.loadAt,Instr.sureAddr] using bd) hv hs
 ·rename_i y
  split at ah
  case isFalse=> cases ah
  rename_i Cf
  simp only[Option.some.injEq,Prod.mk.injEq] at ah
  obtain ⟨rfl,rfl⟩:=ah
  obtain ⟨b,off,cs,ty,fz,rfl,hz,hr⟩:=fR.1 hx
  obtain ⟨u,bd,hv⟩:=fQ (P:=P) hL (ty:=T) (by rw[Cf];exact hT) (hs.z _ _ hz) hr
  exact aJ.same (by simpa[Instr.loadAt,Instr.sureAddr] using bd) hv hs
 ·cases ah
end Go.Vm
namespace Go.Vm
variable {P : Program} {L : cu} {c : Ctx} {h : Hp} {w : World}
theorem tM {es:List V} {i:Nat} {x:V} {g:Option Nat} (cO:∀y∈es,y.ty=g∧y.ax=true) (hx:x.ty=g∧x.ax=true):∀y∈es.set i x,y.ty=g∧y.ax=true:=fun y hy=> by
 rcases List.mem_or_eq_of_mem_set hy with hy | rfl
 ·exact cO y hy
 ·exact hx
theorem Ch (hL:L.OK) (hs:bf L c h w) {id:Nat} {path:List Nat} {aw:Nat} {dO y:V} {h1:Hp} (hn:Vm.node h id path aw=some dO) (aP:Vm.store h id path aw y=some h1) {ys:List Value} (hyr:RC L c y ys) (eP:y.ax=true) (du:y.ty=dO.ty)
 {l:Loc} {o:Nat} {us:Array Value} {ty:TypeId} {fz:Nat×Nat} (hl:c.loc id=some l) (ho:L.off l.tag path=some o) (hg:w.heap[l.bu]? =some (.cells us ty fz)) (df:∀j,j < us.size→¬(fz.1≤j∧j < fz.2)) (hle:o+L.az dO.ty≤us.size)
 {w':World} (i4:w'.heap[l.bu]? =some (.cells (lay us.toList o ys).toArray ty fz)) (Pr:∀k,k≠l.bu→w'.heap[k]? =w.heap[k]?):bf L c h1 w':=by
 have hlen:ys.length=L.az y.ty:=q22z hL y ys hyr
 unfold Vm.store at aP
 unfold Vm.node at hn
 split at aP
 case h_2=> cases aP
 rename_i g' es i p ck
 split at aP
 case h_2=> cases aP
 rename_i e he
 obtain ⟨e',hpe,rfl⟩:=Option.map_eq_some_iff.1 aP
 simp only[ck,he] at hn
 obtain ⟨l',dv,cD,bZ,hz,jg,htt,fM,cO,us',ty',fz',FL,cJ,Yx,fp⟩:=hs.row ck
 rw[hl] at dv;cases dv
 rw[hg] at FL
 simp only[Option.some.injEq,Obj.cells.injEq] at FL
 obtain ⟨rfl,rfl,rfl⟩:=FL
 have uI:=fun z hz=>(cO z hz).1
 have heg:e.ty=g':=uI e (List.mem_of_getElem? he)
 have r1:=cR hL fp uI he
 have r1le:=da hL fp uI he
 obtain ⟨o',h2,h3,h4,h5,h6⟩:=Iu hL hyr eP p e e' dO _ r1 hn hpe du
 have ig:o=i * L.az g'+o':=by
   simp only[cu.off,bZ,←heg,h2,Option.map_some,Option.some.injEq] at ho
   rw[←heg];omega
 have Nt:=q22z hL e _ r1
 have Zm:=(List.getElem?_eq_some_iff.1 he).1
 have hb:(i+1)* L.az g'≤es.length * L.az g':=Nat.mul_le_mul_right _ (by omega)
 rw[Nat.add_mul,Nat.one_mul] at hb
 have fS:es.length * L.az g'≤l.cap * L.az g':=Nat.mul_le_mul_right _ fM
 have vV:((es.take i).map fun v=> L.az v.ty).sum=i * L.az g':=dJ es _ _ i (fun z hz=> by rw[uI z hz]) (by omega)
 have kU:=rD hL h3 es _ i e fp he h4
 rw[vV] at kU
 have V5:lay (us.toList.take (es.length * L.az g')) (i * L.az g') (lay ((us.toList.take (es.length * L.az g')).drop (i * L.az g') |>.take (L.az g')) o' ys)=(lay us.toList o ys).take (es.length * L.az g'):=by
   rw[heg] at Nt
   rw[Nt,hlen,du] at h5
   rw[←rC _ _ _ (L.az g') o' (by simp;omega) (by rw[hlen,du];exact h5),←ig]
   exact (mF _ _ _ _ (by rw[hlen,du];omega) (by simp;omega)).symm
 rw[V5] at kU
 have po:(lay us.toList o ys).length=us.size:=by rw[dW _ _ _ (by rw[hlen,du];simpa using hle)];simp
 have hmv:c.move id l=c:=by
   cases c with
   | mk z loc n=>
     simp only[Ctx.move]
     congr
     funext j
     by_cases hj:j=id
     ·subst hj;simp only[if_true];exact hl.symm
     ·simp[hj]
 have:=hs.move (l':=l) hl (w':=w') (.cells g' (es.set i e')) (by rw[hmv];exact Ctx.le_refl c) hz (.inl rfl)
   (fun b hb tI=> Pr b tI) (fun o' jN=> by rw[hz] at jN;cases jN)
   (by
     rw[hmv]
     refine ⟨bZ,by simp[htt],by simpa using fM,tM cO ⟨by rw[h4,heg],h6⟩,_,ty,fz,i4,by simp[po,cJ],⟨fun j hj=> df j (by simpa[po] using hj),Yx.2⟩,by simpa using kU⟩)
 rw[hmv] at this
 exact this
theorem PL (hL:L.OK) (hs:bf L c h w) {T:Nat} {g:Option Nat} (hT:TG P L T g) {x y:V} {ux uy:Value} (hx:RV L c x ux) (hy:RV L c y uy) {base:Nat} {v:V} {h':Hp} (ah:xU base h g x y=some (v,h')):
 ∃w',(Instr.storeAt T ux uy).run P w= .ok () w'∧v= .bI []∧bf L c h' w'∧St w w':=by
 simp only[xU] at ah
 split at ah
 case h_2=> cases ah
 rename_i id path aw
 split at ah
 case h_2=> cases ah
 rename_i dO hn
 split at ah
 case isFalse=> cases ah
 rename_i hc
 obtain ⟨hog,Cf,eP,fk⟩:=hc
 obtain ⟨h1,aP,he⟩:=Option.map_eq_some_iff.1 ah
 simp only[Prod.mk.injEq] at he
 obtain ⟨rfl,rfl⟩:=he
 obtain ⟨l,o,us,ty,fz,hl,ht,ho,hg,df,hle,hr⟩:=hs.node hL hn
 have DV:=iY hx hl ht ho
 subst DV
 have du:y.ty=dO.ty:=by rw[Cf,hog]
 have bd:=lP (P:=P) hL (ty:=T) (by rw[Cf];exact hT) eP hy hg df (by rw[du];exact hle)
 have gB:=hy.cells eP
 have hlen:=hy.aR hL eP
 refine ⟨w.setCells l.bu o uy.cells.toList,by simpa[Instr.storeAt,Instr.sureAddr] using bd,rfl,?_,St.setCells _ _ _ _⟩
 exact Ch hL hs hn aP gB.1 eP du hl ho hg df hle (dx l.bu ty fz uy.cells.toList o us w hg (by rw[hlen,du];exact hle)) (fun k hk=> q13z l.bu _ _ _ k hk)
theorem i5 (hL:L.OK) (hs:bf L c h w) {g:Option Nat} {es:List V} {us:List Value} (hr:bV L c es us) (cO:∀x∈es,x.ty=g∧x.ax=true) (cap:Nat) (extra:List Value) (fM:us.length+extra.length=cap * L.az g) (hle:es.length≤cap)
 (ty:TypeId) (fz:Nat×Nat) (df:Im g (us++extra).length fz):
 ∃l,l.bu=w.heap.size∧l.cap=cap∧l.tag=g∧l.aw=es.length∧bf L (c.push l) (h++[.cells g es]) (w.alloc (.cells (us++extra).toArray ty fz))∧(c.push l).loc h.length=some l:=by
 refine ⟨⟨w.heap.size,cap,g,es.length⟩,rfl,rfl,rfl,rfl,?_,by simp[Ctx.push,hs.n]⟩
 refine hs.push _ _ _ rfl ⟨rfl,rfl,hle,cO,(us++extra).toArray,ty,fz,iV,by simpa using fM,by simpa using df,?_⟩
 have hlen:=q8z hL hr (fun x hx=>(cO x hx).1)
 rw[←hlen]
 simpa using hr.mono (c.gK _)
theorem Iw (hL:L.OK) (hs:bf L c h w) {T:Nat} {g:Option Nat} {x:V} {ux:Value} (hx:RV L c x ux) {v:V} {h':Hp} (ah:sI h g x=some (v,h')):
 aJ L c w ((Instr.box T ux).run P w) v h':=by
 simp only[sI] at ah
 split at ah
 case isFalse=> cases ah
 rename_i hc
 obtain ⟨hxg,eP⟩:=hc
 simp only[Option.some.injEq,Prod.mk.injEq] at ah
 obtain ⟨rfl,rfl⟩:=ah
 have gB:=(hx.cells eP).1
 have hlen:=hx.aR hL eP
 obtain ⟨l,hb,fM,bZ,cD,dh,hl⟩:=i5 hL hs (g:=g) (es:=[x]) (us:=ux.cells.toList) (by simp only[bV];exact ⟨_,[],by simp,gB,rfl⟩) (by simp[hxg,eP]) 1 [] (by simp only[List.length_nil];rw[hlen,hxg];omega) (by simp) T (0,0) ⟨by intro j hj;omega,fun _=> rfl⟩
 refine ⟨.pointer (some ⟨w.heap.size,0,none⟩),c.push l,w.alloc (.cells ux.cells T),?_,?_,by simpa using dh,c.gK l,St.alloc _ _⟩
 ·simp[Instr.box,newVar,newRow]
 ·have hn:h.length=c.n:=hs.n.symm
  rw[←hb]
  exact sR dh hl (by simp[cD]) (by simp[cu.off,cu.walk])
def er (P:Program) (L:cu) (T:TypeId) (zero:V):Prop:=∃i z,P.info? T=some i∧i.zero=some z∧∀c:Ctx,RV L c zero z
theorem PM (hL:L.OK) (hs:bf L c h w) {T:Nat} {g:Option Nat} {zero:V} (hz:er P L T zero) {v:V} {h':Hp} (ah:sI h g zero=some (v,h')):
 aJ L c w ((Instr.alloc T true (.tuple #[])).run P w) v h':=by
 obtain ⟨i,z,h1,h2,h3⟩:=hz
 have:=Iw (P:=P) (T:=T) hL hs (h3 c) ah
 have e:(Instr.alloc T true (.tuple #[])).run P w=(Instr.box T z).run P w:=by
   simp[Instr.alloc,Instr.box,zeroValue,typeInfo,h1,h2]
 rw[e];exact this
theorem yf :∀(ys:List Value) (us:Array Value) (o k:Nat),o+k+ys.length≤us.size→
 ((ys.zipIdx k).foldl (fun cs (p:Value×Nat)=> cs.setIfInBounds (o+p.2) p.1) us).toList=lay us.toList (o+k) ys
 | [],us,o,k,_=> by simp[lay]
 | y::ys,us,o,k,hl=> by
   simp only[List.length_cons] at hl
   simp only[List.zipIdx_cons,List.foldl_cons]
   rw[yf ys _ o (k+1) (by simp;omega)]
   simp only[lay,Array.toList_setIfInBounds]
   rw[List.take_set,List.drop_set]
   have h1:(us.toList.take (o+(k+1))).set (o+k) y=us.toList.take (o+k)++[y]:=by
     rw[show o+(k+1)=(o+k)+1 by omega,List.take_succ_eq_append_getElem (by simp;omega)]
     rw[List.set_append_right _ _ (by simp;exact Nat.min_le_left _ _)]
     simp[Nat.min_eq_left (show o+k≤us.size by omega),List.set_cons_zero]
   rw[h1,if_pos (by omega)]
   simp[Nat.add_assoc,Nat.add_comm 1]
def mL (L:cu) (place:Nat→Option (Nat×Nat)) (gs:List (Option Nat)):Prop:=
 ∀i g,gs[i]? =some g→place i=some (((gs.take i).map L.az).sum,L.az g)
theorem mM (hL:L.OK) {place:Nat→Option (Nat×Nat)}:∀(ps:List (Nat×V)) (qs:List (Nat×Value)) (es es':List V) (us:Array Value),
 mL L place (es.map V.ty)→bV L c es us.toList→bD es ps=some es'→ps.map (·.1)=qs.map (·.1)→(∀(i:Nat) (p:Nat×V) (q:Nat×Value),ps[i]? =some p→qs[i]? =some q→RV L c p.2 q.2)→
 ∃us',Instr.fill place us qs=some us'∧bV L c es' us'.toList∧es'.map V.ty=es.map V.ty∧((∀x∈es,x.ax=true)→∀x∈es',x.ax=true)∧us'.size=us.size
 | [],qs,es,es',us,hp,hr,fk,hpq,hv=> by
   simp only[bD,Option.some.injEq] at fk
   subst fk
   cases qs with
   | nil=> exact ⟨us,rfl,hr,rfl,fun h=> h,rfl⟩
   | cons q qs=> simp at hpq
 | (i,y)::ps,qs,es,es',us,hp,hr,fk,hpq,hv=> by
   cases qs with
   | nil=> simp at hpq
   | cons q qs=>
     obtain ⟨i',u⟩:=q
     simp only[List.map_cons,List.cons.injEq] at hpq
     obtain ⟨rfl,hpq⟩:=hpq
     simp only[bD] at fk
     split at fk
     case h_2=> cases fk
     rename_i o ho
     split at fk
     case isFalse=> cases fk
     rename_i hc
     obtain ⟨du,eP⟩:=hc
     have hy:RV L c y u:=hv 0 (i,y) (i,u) rfl rfl
     have gB:=(hy.cells eP).1
     have hlen:=hy.aR hL eP
     have vV:(((es.map V.ty).take i).map L.az).sum=((es.take i).map fun v=> L.az v.ty).sum:=by rw[←List.map_take,List.map_map];rfl
     have rh:=hp i o.ty (by rw[List.getElem?_map,ho];rfl)
     rw[vV] at rh
     have hle:=iX hL hr ho
     simp only[Array.length_toList] at hle hlen
     have kU:=rD hL gB es us.toList i o hr ho du.symm
     have V6:(es.set i y).map V.ty=es.map V.ty:=by
       rw[List.map_set]
       refine List.ext_getElem? fun j=> ?_
       by_cases e:j=i
       ·subst e
        rw[List.getElem?_set,List.getElem?_map,ho]
        simp[(List.getElem?_eq_some_iff.1 ho).1,du]
       ·rw[List.getElem?_set_ne (Ne.symm e)]
     have Nu:=yf u.cells.toList us (((es.take i).map fun v=> L.az v.ty).sum) 0 (by simp only[Array.length_toList];rw[hlen,←du];omega)
     obtain ⟨us',h1,h2,h3,h4,h5⟩:=mM hL ps qs (es.set i y) es' (u.cells.zipIdx.foldl (fun cs (p:Value×Nat)=> cs.setIfInBounds (((es.take i).map fun v=> L.az v.ty).sum+p.2) p.1) us)
       (by rw[V6];exact hp) (by
         rw[←Array.foldl_toList,Array.toList_zipIdx]
         rw[Nu];simpa using kU) fk hpq (fun j p q hj hq=> hv (j+1) p q (by simpa using hj) (by simpa using hq))
     refine ⟨us',?_,h2,by rw[h3,V6],fun qw=> h4 fun x hx=> ?_,?_⟩
     ·simp only[Instr.fill,rh]
      rw[if_neg (by
       intro AA
       simp only[Bool.or_eq_true,decide_eq_true_eq,ne_eq] at AA
       rw[hlen,←du] at AA
       rw[du] at hle
       rcases AA with AA | AA
       ·exact AA rfl
       ·rw[du] at AA;omega)]
      exact h1
     ·rcases List.mem_or_eq_of_mem_set hx with hx | rfl
      ·exact qw x hx
      ·exact eP
     ·rw[h5,←Array.foldl_toList,Array.toList_zipIdx,←Array.length_toList,Nu,dW _ _ _ (by simp only[Array.length_toList];rw[hlen,←du];omega)]
      simp
end Go.Vm
namespace Go.Vm
variable {P : Program} {L : cu} {c : Ctx} {h : Hp} {w : World}
theorem nQ {α β:Type} (P:Program) (w:World) (f:α→Sem β) (g:α→β):∀(l:List α),(∀x∈l,(f x).run P w= .ok (g x) w)→(l.mapM f).run P w= .ok (l.map g) w
 | [],_=> by simp
 | a::l,hf=> by
   rw[List.mapM_cons]
   simp only[Sem.run_bind,hf a (by simp),Result.andThen_ok,nQ P w f g l (fun x hx=> hf x (by simp[hx])),Sem.run_pure,List.map_cons]
theorem Ix {α β:Type} (P:Program) (w:World) (f:α→Sem β) (g:α→β) (xs:Array α) (hf:∀x∈xs.toList,(f x).run P w= .ok (g x) w):(xs.mapM f).run P w= .ok (xs.map g) w:=by
 rw[Array.mapM_eq_mapM_toList,Sem.run_map,nQ P w f g xs.toList hf]
 simp only[Result.andThen_ok]
 congr 1
 apply Array.ext';simp
theorem nk {ys:List V} {us:List Value} (places:List Nat) (hlen:places.length=ys.length) (FN:us.length=ys.length) (hv:∀(i:Nat) (y:V) (u:Value),ys[i]? =some y→us[i]? =some u→RV L c y u):
 (places.zip ys).map (·.1)=(places.zip us).map (·.1)∧∀(i:Nat) (p:Nat×V) (q:Nat×Value),(places.zip ys)[i]? =some p→(places.zip us)[i]? =some q→RV L c p.2 q.2:=by
 refine ⟨?_,fun i p q hp hq=> ?_⟩
 ·rw[List.map_fst_zip (by omega),List.map_fst_zip (by omega)]
 ·rw[List.getElem?_zip_eq_some] at hp hq
  exact hv i p.2 q.2 hp.2 hq.2
theorem Ls (hL:L.OK) (hs:bf L c h w) {T t:Nat} {fields:Array Field} {gs:List (Option Nat)} {zero:List V} {places:List Nat} (hu:P.underlying T=some (.struct fields))
 (iq:L.fields t=some gs) (hfs:∀i f,fields[i]? =some f→∃g,gs[i]? =some g∧TG P L f.type g∧f.offset=((gs.take i).map L.az).sum) (cJ:fields.size=gs.length)
 (hz:er P L T (.st t zero)) {ys:List V} {us:List Value} (FN:us.length=ys.length) (hv:∀(i:Nat) (y:V) (u:Value),ys[i]? =some y→us[i]? =some u→RV L c y u)
 {v:V} {h':Hp} (ah:qb h t zero places ys=some (v,h')):aJ L c w ((Instr.build T (places.zip us).toArray).run P w) v h':=by
 simp only[qb] at ah
 split at ah
 case isFalse=> cases ah
 rename_i hlen
 obtain ⟨fs,fk,he⟩:=Option.map_eq_some_iff.1 ah
 simp only[Prod.mk.injEq] at he
 obtain ⟨rfl,rfl⟩:=he
 obtain ⟨i,z,hi,oA,oN⟩:=hz
 obtain ⟨zs,rfl,hr⟩:=(eV rfl).1 (oN c)
 simp only[RC] at hr
 obtain ⟨hr,hf,eP⟩:=hr
 rw[iq] at hf
 simp only[Option.some.injEq] at hf
 obtain ⟨Hx,hp2⟩:=nk places hlen FN hv
 have lf:mL L ((fields.map fun f=>(f.offset,P.cellsOf f.type))[·]?) (zero.map V.ty):=by
   intro j g hj
   rw[←hf] at hj ⊢
   have uk:j < fields.size:=by have:=(List.getElem?_eq_some_iff.1 hj).1;omega
   obtain ⟨g',h1,h2,h3⟩:=hfs j fields[j] (by simp[uk])
   rw[hj] at h1;cases h1
   obtain ⟨q,hq1,Hj⟩:=h2.info
   simp[uk,h3,Program.cellsOf,hq1,Hj]
 obtain ⟨us',h1,h2,h3,h4,h5⟩:=mM hL (places.zip ys) (places.zip us) zero fs zs.toArray lf (by simpa using hr) fk Hx hp2
 have hm:=Ix P w (fun f:Field=> do pure (f.offset,←Go.sizeOf f.type)) (fun f=>(f.offset,P.cellsOf f.type)) fields (fun f hf=> by
   obtain ⟨j,hj⟩:=List.getElem?_of_mem hf
   obtain ⟨g',_,k2,_⟩:=hfs j f (by simpa using hj)
   obtain ⟨q,hq1,Hj⟩:=k2.info
   simp[Go.sizeOf,typeInfo,hq1,Program.cellsOf])
 refine aJ.same (u:= .agg us') ?_ ((eV rfl).2 ⟨us'.toList,by simp,?_⟩) hs
 ·simp only[Instr.build,zeroValue,typeInfo,underlying,Sem.run_bind,run_program,Result.andThen_ok,hi,Sem.run_pure,oA,hu,Value.cells]
  have hm':=hm
  simp only[bind_pure_comp] at hm'
  simp only[bind_pure_comp,hm',Result.andThen_ok,h1,Sem.run_pure]
 ·simp only[RC]
  exact ⟨h2,by rw[h3,iq,hf],h4 eP⟩
theorem Lt (hL:L.OK) (hs:bf L c h w) {T t n:Nat} {el:TypeId} {e:Option Nat} {zero:List V} {places:List Nat} (hu:P.underlying T=some (.array n el)) (bQ:TG P L el e)
 (ha:L.arr t=some (n,e)) (hz:er P L T (.arr t zero)) {ys:List V} {us:List Value} (FN:us.length=ys.length) (hv:∀(i:Nat) (y:V) (u:Value),ys[i]? =some y→us[i]? =some u→RV L c y u)
 {v:V} {h':Hp} (ah:qc h t zero places ys=some (v,h')):aJ L c w ((Instr.build T (places.zip us).toArray).run P w) v h':=by
 simp only[qc] at ah
 split at ah
 case isFalse=> cases ah
 rename_i hlen
 obtain ⟨fs,fk,he⟩:=Option.map_eq_some_iff.1 ah
 simp only[Prod.mk.injEq] at he
 obtain ⟨rfl,rfl⟩:=he
 obtain ⟨i,z,hi,oA,oN⟩:=hz
 obtain ⟨zs,rfl,hr⟩:=(eV rfl).1 (oN c)
 simp only[RC] at hr
 obtain ⟨hr,e',oM,cO⟩:=hr
 rw[ha] at oM
 simp only[Option.some.injEq,Prod.mk.injEq] at oM
 obtain ⟨hn,rfl⟩:=oM
 obtain ⟨Hx,hp2⟩:=nk places hlen FN hv
 have lf:mL L (fun i=> some (i * L.az e,L.az e)) (zero.map V.ty):=by
   intro j g hj
   rw[List.getElem?_map] at hj
   obtain ⟨x,hx,rfl⟩:=Option.map_eq_some_iff.1 hj
   have Av:=(cO x (List.mem_of_getElem? hx)).1
   have:=dJ (zero.map V.ty) L.az (L.az e) j (fun y hy=> by
     obtain ⟨q,hq,rfl⟩:=List.mem_map.1 hy
     rw[(cO q hq).1]) (by have:=(List.getElem?_eq_some_iff.1 hx).1;simp;omega)
   rw[this,Av]
 obtain ⟨us',h1,h2,h3,h4,h5⟩:=mM hL (places.zip ys) (places.zip us) zero fs zs.toArray lf (by simpa using hr) fk Hx hp2
 have mb:fs.length=zero.length:=by have:=congrArg List.length h3;simpa using this
 refine aJ.same (u:= .agg us') ?_ ((eV rfl).2 ⟨us'.toList,by simp,?_⟩) hs
 ·simp only[Instr.build,zeroValue,typeInfo,underlying,Sem.run_bind,run_program,Result.andThen_ok,hi,Sem.run_pure,oA,hu,Value.cells,bQ.sizeOf,h1]
 ·simp only[RC]
  refine ⟨h2,e,by rw[mb,←hn];exact ha,fun x hx=>⟨?_,h4 (fun y hy=>(cO y hy).2) x hx⟩⟩
  have:x.ty∈zero.map V.ty:=by rw[←h3];exact List.mem_map.2 ⟨x,hx,rfl⟩
  obtain ⟨y,hy,FK⟩:=List.mem_map.1 this
  rw[←FK];exact (cO y hy).1
theorem dY {zv:V} {zs:List Value} (hz:RC L c zv zs):∀n,bV L c (List.replicate n zv) ((List.replicate n zs).flatten)
 | 0=> by simp[bV]
 | n+1=> by
   rw[List.replicate_succ,List.replicate_succ,List.flatten_cons]
   simp only[bV]
   exact ⟨_,_,rfl,hz,dY hz n⟩
theorem iM (z:Array Value):∀n,((Array.range (n * z.size)).map (z[· % z.size]!)).toList=(List.replicate n z.toList).flatten
 | 0=> by simp
 | n+1=> by
   by_cases h0:z.size=0
   ·have:z= #[]:=Array.eq_empty_of_size_eq_zero h0
    subst this
    simp
   rw[List.replicate_succ,List.flatten_cons,←iM z n]
   simp only[Array.toList_map,Array.toList_range]
   rw[show (n+1)* z.size=z.size+n * z.size by rw[Nat.add_mul];omega,List.range_add,List.map_append,List.map_map]
   congr 1
   ·refine List.ext_getElem? fun j=> ?_
    by_cases hj:j < z.size
    ·simp[hj,Nat.mod_eq_of_lt hj]
    ·rw[List.getElem?_eq_none (by simp;omega),List.getElem?_eq_none (by simp;omega)]
   ·refine List.map_congr_left fun j hj=> ?_
    simp
theorem eS (hL:L.OK) {g:Option Nat} {es:List V} {l:Loc} {id:Nat} {w':World} {h':Hp} (hs:bf L c h' w') (hl:c.loc id=some l) (bZ:l.tag=g) (cD:l.aw=es.length) (k:Nat) (hk:es.length≤k) (fM:k≤l.cap):
 RV L c (.ref id [] g 0 es.length es.length) (.slice (some ⟨l.bu,0,none⟩) es.length k):=by
 have:=mG hs (id:=id) (aw:=es.length) (off:=0) (len:=es.length) (k:=k) (path:=[]) (m:=none) (o:=0) (e:=l.tag) hl cD rfl hk ⟨by omega,by omega,by omega⟩
 rw[←bZ]
 simpa using this
theorem bf.V7 {es:List V} {g:Option Nat} {l:Loc} (hs:bf L c (h++[.cells g es]) w) (hl:c.loc h.length=some l) (fM:l.cap=es.length):bf L c (h++[.lit g es]) w where
 z:=hs.z
 n:=by simpa using hs.n
 loc i l' dv:=by
   obtain ⟨k,h1,h2,h3⟩:=hs.loc i l' dv
   by_cases e:i=h.length
   ·subst e
    rw[hl] at dv;cases dv
    simp only[List.getElem?_concat_length,Option.some.injEq] at h1
    subst h1
    obtain ⟨a1,a2,a3,a4⟩:=h3
    exact ⟨.lit g es,by simp,h2,a1,a2,fM.symm,a4⟩
   ·have hi:i < h.length:=by
      have:=(List.getElem?_eq_some_iff.1 h1).1
      simp at this;omega
    exact ⟨k,by rw[List.getElem?_append_left hi] at h1 ⊢;exact h1,h2,h3⟩
 live i k hk:=by
   by_cases e:i=h.length
   ·subst e;exact .inl ⟨l,hl⟩
   ·have hi:i < h.length:=by
      have:=(List.getElem?_eq_some_iff.1 hk).1
      simp at this;omega
    exact hs.live i k (by rw[List.getElem?_append_left hi] at hk ⊢;exact hk)
 inj:=hs.inj
theorem Ci (hL:L.OK) (hs:bf L c h w) {T:Nat} {el:TypeId} {g:Option Nat} {zv:V} {n:Nat} {places:List Nat} (hu:P.underlying T=some (.slice el)) (bQ:TG P L el g) (gu:0 < L.az g)
 (hz:er P L el zv) (iW:zv.ty=g) (gZ:zv.ax=true) (hn:n * L.az g≤16777216) {ys:List V} {us:List Value} (FN:us.length=ys.length) (hv:∀(i:Nat) (y:V) (u:Value),ys[i]? =some y→us[i]? =some u→RV L c y u)
 {v:V} {h':Hp} (ah:nO h g (List.replicate n zv) places ys=some (v,h')):aJ L c w ((Instr.buildSlice T n (places.zip us).toArray).run P w) v h'∧∀es,v= .ref h.length [] g 0 es.length es.length→h'=h++[.cells g es]→aJ L c w ((Instr.buildSlice T n (places.zip us).toArray).run P w) v (h++[.lit g es]):=by
 simp only[nO] at ah
 split at ah
 case isFalse=> cases ah
 rename_i hlen
 split at ah
 case h_2=> cases ah
 rename_i es fk
 obtain ⟨i,z,hi,oA,oN⟩:=hz
 have gB:=((oN c).cells gZ).1
 have tL:=(oN c).aR hL gZ
 rw[iW] at tL
 obtain ⟨i',vX,pq⟩:=bQ.info
 rw[hi] at vX;cases vX
 obtain ⟨Hx,hp2⟩:=nk places hlen FN hv
 have lf:mL L (fun i=> some (i * L.az g,L.az g)) ((List.replicate n zv).map V.ty):=by
   intro j x hj
   simp only[List.map_replicate] at hj ⊢
   have hj':=List.mem_of_getElem? hj
   have uk:=(List.getElem?_eq_some_iff.1 hj).1
   simp only[List.length_replicate] at uk
   have hx:=(List.eq_of_mem_replicate hj')
   have:=dJ (List.replicate n zv.ty) L.az (L.az g) j (fun y hy=> by rw[List.eq_of_mem_replicate hy,iW]) (by simp;omega)
   rw[this,hx,iW]
 have AB:bV L c (List.replicate n zv) ((Array.range (n * L.az g)).map (z.cells[· % z.cells.size]!)).toList:=by
   have e:L.az g=z.cells.size:=by simpa using tL.symm
   rw[e,iM]
   exact dY gB n
 obtain ⟨us',h1,h2,h3,h4,h5⟩:=mM hL (places.zip ys) (places.zip us) _ es _ lf AB fk Hx hp2
 have DW:es.length=n:=by have:=congrArg List.length h3;simpa using this
 have AD:∀x∈es,x.ty=g∧x.ax=true:=fun x hx=> by
   refine ⟨?_,h4 (fun y hy=> by rw[List.eq_of_mem_replicate hy];exact gZ) x hx⟩
   have:x.ty∈(List.replicate n zv).map V.ty:=by rw[←h3];exact List.mem_map.2 ⟨x,hx,rfl⟩
   obtain ⟨y,hy,FK⟩:=List.mem_map.1 this
   rw[←FK,List.eq_of_mem_replicate hy,iW]
 have PN:us'.size=n * L.az g:=by rw[h5];simp
 have sS:Instr.fill (fun i=> some (i * L.az g,L.az g)) ((Array.range (n * L.az g)).map (z.cells[· % z.cells.size]!)) (places.zip us)=some us':=h1
 have bd:(Instr.buildSlice T n (places.zip us).toArray).run P w= .ok (.slice (some ⟨w.heap.size,0,none⟩) n n) (w.alloc (.cells us' el)):=by
   by_cases h0:n=0
   ·subst h0
    have BS:Instr.fill (fun i=> some (i * L.az g,L.az g)) (#[]:Array Value) (places.zip us)=some us':=by
      have e0:(Array.range (0 * L.az g)).map (z.cells[· % z.cells.size]!)= #[]:=Array.eq_empty_of_size_eq_zero (by simp)
      rw[e0] at sS;exact sS
    simp[Instr.buildSlice,underlying,hu,Go.sizeOf,typeInfo,hi,pq,BS,newRow,Array.range_zero']
   ·have cE:¬n * L.az g=0:=by have:=Nat.mul_pos (show 0 < n by omega) gu;omega
    simp only[Instr.buildSlice,underlying,Sem.run_bind,run_program,Result.andThen_ok,hu,Sem.run_pure,bQ.sizeOf,if_neg (show ¬n * L.az g > 2 ^ 24 by omega),if_neg cE,zeroValue,typeInfo,hi,oA,sS,newRow,run_newObj,World.alloc_eq]
 by_cases h0:es.isEmpty=true
 ·simp only[h0,if_true,Option.some.injEq,Prod.mk.injEq] at ah
  obtain ⟨rfl,rfl⟩:=ah
  have CR:n=0:=by rw[←DW];simpa using h0
  subst CR
  exact ⟨⟨_,c,_,bd,cV.2 ⟨_,0,rfl,by simp,fun _=> rfl,by simp,.inl rfl⟩,hs.Cd _,Ctx.le_refl c,St.alloc _ _⟩,fun es e=> by cases e⟩
 ·simp only[h0,if_false,Option.some.injEq,Prod.mk.injEq,Bool.false_eq_true] at ah
  obtain ⟨rfl,rfl⟩:=ah
  obtain ⟨l,hb,fM,bZ,cD,dh,hl⟩:=i5 hL hs h2 AD n [] (by simp[PN]) (by omega) el (0,0) ⟨by intro j hj;omega,fun _=> rfl⟩
  have jF:RV L (c.push l) (.ref h.length [] g 0 es.length es.length) (.slice (some ⟨w.heap.size,0,none⟩) n n):=by
    rw[←hb]
    have:=eS (es:=es) hL dh hl bZ cD n (by omega) (by omega)
    rwa [DW] at this ⊢
  refine ⟨⟨_,c.push l,_,bd,jF,by simpa using dh,c.gK l,St.alloc _ _⟩,fun es' e1 e2=> ?_⟩
  obtain rfl:es=es':=by simpa using e2
  exact ⟨_,c.push l,_,bd,jF,(show bf L (c.push l) (h++[.cells g es]) _ by simpa using dh).V7 hl (by omega),c.gK l,St.alloc _ _⟩
theorem PO (hL:L.OK) (hs:bf L c h w) {T:Nat} {el:TypeId} {g:Option Nat} {zv:V} {n:Nat} {places:List Nat} (hu:P.underlying T=some (.slice el)) (bQ:TG P L el g) (gu:0 < L.az g)
 (hz:er P L el zv) (iW:zv.ty=g) (gZ:zv.ax=true) (hn:n * L.az g≤16777216) {ys:List V} {us:List Value} (FN:us.length=ys.length) (hv:∀(i:Nat) (y:V) (u:Value),ys[i]? =some y→us[i]? =some u→RV L c y u)
 {v:V} {h':Hp} (ah:nO h g (List.replicate n zv) places ys=some (v,h')):aJ L c w ((Instr.buildSlice T n (places.zip us).toArray).run P w) v h':=(Ci hL hs hu bQ gu hz iW gZ hn FN hv ah).1
theorem PQ (hL:L.OK) (hs:bf L c h w) {T:Nat} {el:TypeId} {g:Option Nat} {zv:V} {n:Nat} {places:List Nat} (hu:P.underlying T=some (.slice el)) (bQ:TG P L el g) (gu:0 < L.az g)
 (hz:er P L el zv) (iW:zv.ty=g) (gZ:zv.ax=true) (hn:n * L.az g≤16777216) {ys:List V} {us:List Value} (FN:us.length=ys.length) (hv:∀(i:Nat) (y:V) (u:Value),ys[i]? =some y→us[i]? =some u→RV L c y u)
 {v:V} {h':Hp} (ah:sJ h g (List.replicate n zv) places ys=some (v,h')):aJ L c w ((Instr.buildSlice T n (places.zip us).toArray).run P w) v h':=by
 unfold sJ at ah
 split at ah
 case isFalse=> cases ah
 rename_i hlen
 split at ah
 case h_2=> cases ah
 rename_i es fk
 split at ah
 case isTrue=> cases ah
 rename_i cE
 simp only[Option.some.injEq,Prod.mk.injEq] at ah
 obtain ⟨rfl,rfl⟩:=ah
 exact (Ci hL hs hu bQ gu hz iW gZ hn FN hv (v:= .ref h.length [] g 0 es.length es.length) (h':=h++[.cells g es]) (by unfold nO;rw[if_pos hlen,fk];simp[cE])).2 es rfl rfl
theorem PR (hL:L.OK) (hs:bf L c h w) {T:Nat} {el:TypeId} {g:Option Nat} {zv:V} {n:Nat} {places:List Nat} (hu:P.underlying T=some (.slice el)) (bQ:TG P L el g) (gu:0 < L.az g)
 (hz:er P L el zv) (iW:zv.ty=g) (gZ:zv.ax=true) (hn:n * L.az g≤16777216) {ys:List V} {us:List Value} (FN:us.length=ys.length) (hv:∀(i:Nat) (y:V) (u:Value),ys[i]? =some y→us[i]? =some u→RV L c y u)
 {v:V} {h':Hp} (ah:sO h g (List.replicate n zv) places ys=some (v,h')):aJ L c w ((Instr.buildSlice T n (places.zip us).toArray).run P w) v h':=by
 simp only[sO] at ah
 split at ah
 case isFalse=> cases ah
 rename_i hlen
 obtain ⟨es,fk,he⟩:=Option.map_eq_some_iff.1 ah
 simp only[Prod.mk.injEq] at he
 obtain ⟨rfl,rfl⟩:=he
 obtain ⟨i,z,hi,oA,oN⟩:=hz
 have gB:=((oN c).cells gZ).1
 have tL:=(oN c).aR hL gZ
 rw[iW] at tL
 obtain ⟨i',vX,pq⟩:=bQ.info
 rw[hi] at vX;cases vX
 obtain ⟨Hx,hp2⟩:=nk places hlen FN hv
 have lf:mL L (fun i=> some (i * L.az g,L.az g)) ((List.replicate n zv).map V.ty):=by
   intro j x hj
   simp only[List.map_replicate] at hj ⊢
   have hj':=List.mem_of_getElem? hj
   have uk:=(List.getElem?_eq_some_iff.1 hj).1
   simp only[List.length_replicate] at uk
   have hx:=(List.eq_of_mem_replicate hj')
   have:=dJ (List.replicate n zv.ty) L.az (L.az g) j (fun y hy=> by rw[List.eq_of_mem_replicate hy,iW]) (by simp;omega)
   rw[this,hx,iW]
 have AB:bV L c (List.replicate n zv) ((Array.range (n * L.az g)).map (z.cells[· % z.cells.size]!)).toList:=by
   have e:L.az g=z.cells.size:=by simpa using tL.symm
   rw[e,iM]
   exact dY gB n
 obtain ⟨us',h1,h2,h3,h4,h5⟩:=mM hL (places.zip ys) (places.zip us) _ es _ lf AB fk Hx hp2
 have DW:es.length=n:=by have:=congrArg List.length h3;simpa using this
 have AD:∀x∈es,x.ty=g∧x.ax=true:=fun x hx=> by
   refine ⟨?_,h4 (fun y hy=> by rw[List.eq_of_mem_replicate hy];exact gZ) x hx⟩
   have:x.ty∈(List.replicate n zv).map V.ty:=by rw[←h3];exact List.mem_map.2 ⟨x,hx,rfl⟩
   obtain ⟨y,hy,FK⟩:=List.mem_map.1 this
   rw[←FK,List.eq_of_mem_replicate hy,iW]
 have PN:us'.size=n * L.az g:=by rw[h5];simp
 have sS:Instr.fill (fun i=> some (i * L.az g,L.az g)) ((Array.range (n * L.az g)).map (z.cells[· % z.cells.size]!)) (places.zip us)=some us':=h1
 have bd:(Instr.buildSlice T n (places.zip us).toArray).run P w= .ok (.slice (some ⟨w.heap.size,0,none⟩) n n) (w.alloc (.cells us' el)):=by
   by_cases h0:n=0
   ·subst h0
    have BS:Instr.fill (fun i=> some (i * L.az g,L.az g)) (#[]:Array Value) (places.zip us)=some us':=by
      have e0:(Array.range (0 * L.az g)).map (z.cells[· % z.cells.size]!)= #[]:=Array.eq_empty_of_size_eq_zero (by simp)
      rw[e0] at sS;exact sS
    simp[Instr.buildSlice,underlying,hu,Go.sizeOf,typeInfo,hi,pq,BS,newRow,Array.range_zero']
   ·have cE:¬n * L.az g=0:=by have:=Nat.mul_pos (show 0 < n by omega) gu;omega
    simp only[Instr.buildSlice,underlying,Sem.run_bind,run_program,Result.andThen_ok,hu,Sem.run_pure,bQ.sizeOf,if_neg (show ¬n * L.az g > 2 ^ 24 by omega),if_neg cE,zeroValue,typeInfo,hi,oA,sS,newRow,run_newObj,World.alloc_eq]
 have hz:bf L (c.dC w.heap.size (.cells us' el (0,0))) h (w.alloc (.cells us' el)):=hs.dC _
 refine ⟨_,_,_,bd,cV.2 ⟨_,n,by rw[DW],by omega,fun _=> DW.symm,AD,Or.inr ⟨w.heap.size,0,us',el,(0,0),rfl,by simp[Ctx.dC],?_⟩⟩,hz,c.kh _ _ hs.qI,St.alloc _ _⟩
 rw[DW,←PN]
 simp only[ng,List.drop_zero]
 rw[List.take_of_length_le (by simp)]
 exact bV.mono (c.kh _ _ hs.qI) h2
theorem PS (hL:L.OK) (hs:bf L c h w) {T:Nat} {el:TypeId} {g:Option Nat} {zv:V} (hu:P.underlying T=some (.slice el)) (bQ:TG P L el g) (mN:P.bytesOf el≤4096)
 (hz:er P L el zv) (iW:zv.ty=g) (gZ:zv.ax=true) {x y:V} {ux uy:Value} (hx:RV L c x ux) (hy:RV L c y uy)
 {v:V} {h':Hp} (ah:uO h g zv x y=some (v,h')):aJ L c w ((Instr.makeSlice T ux uy).run P w) v h':=by
 simp only[uO] at ah
 split at ah
 case h_2=> cases ah
 rename_i n m hn hm
 split at ah
 case isFalse=> cases ah
 rename_i hc
 obtain ⟨rfl,h0,V8⟩:=hc
 obtain ⟨kx,rfl⟩:=iZ hn hx
 obtain ⟨ky,rfl⟩:=iZ hm hy
 obtain ⟨i,z,hi,oA,oN⟩:=hz
 have gB:=((oN c).cells gZ).1
 have tL:=(oN c).aR hL gZ
 rw[iW] at tL
 obtain ⟨i',vX,pq⟩:=bQ.info
 rw[hi] at vX;cases vX
 have m0:i.bytes≤4096:=by simpa[Program.bytesOf,hi] using mN
 have hmul:(i.bytes:Int)* n≤281474976710656:=by
   have h1:(i.bytes:Int)* n≤4096 * n:=Int.mul_le_mul_of_nonneg_right (by omega) h0
   omega
 have bd:=run_make (P:=P) w T el i z hu hi oA kx ky n n h0 (Int.le_refl _) hmul (by omega)
 obtain ⟨k,rfl⟩:=Int.eq_ofNat_of_zero_le h0
 simp only[Int.toNat_natCast] at bd ah
 by_cases hk:k=0
 ·subst hk
  rw[if_pos (by simp)] at ah
  simp only[Option.some.injEq,Prod.mk.injEq] at ah
  obtain ⟨rfl,rfl⟩:=ah
  exact ⟨_,c,_,bd,cV.2 ⟨_,0,rfl,by simp,fun _=> rfl,by simp,.inl rfl⟩,hs.Cd _,Ctx.le_refl c,St.alloc _ _⟩
 ·rw[if_neg (by omega)] at ah
  simp only[Option.some.injEq,Prod.mk.injEq] at ah
  obtain ⟨rfl,rfl⟩:=ah
  have Nv:(madeCells z.cells (k * i.size)).toList=(List.replicate k z.cells.toList).flatten:=by
    have e:i.size=z.cells.size:=by rw[pq];simpa using tL.symm
    rw[e];exact iM z.cells k
  have hr:=dY gB k
  obtain ⟨l,hb,fM,bZ,cD,dh,hl⟩:=i5 hL hs hr (fun x hx=> by rw[List.eq_of_mem_replicate hx];exact ⟨iW,gZ⟩) k [] (by rw[←Nv];simp[madeCells,pq]) (by simp) el (0,0) ⟨by intro j hj;omega,fun _=> rfl⟩
  refine ⟨_,c.push l,_,bd,?_,?_,c.gK l,St.alloc _ _⟩
  ·rw[←hb]
   have:=eS (es:=List.replicate k zv) hL dh hl bZ cD k (by simp) (by omega)
   simp only[List.length_replicate] at this
   exact this
  ·have:(madeCells z.cells (k * i.size))=((List.replicate k z.cells.toList).flatten++[]).toArray:=by
     apply Array.ext'
     simpa using Nv
   rw[this];exact dh
end Go.Vm
namespace Go.Vm
variable {P : Program} {L : cu} {c : Ctx} {h : Hp} {w : World}
theorem ph (hL:L.OK) (hs:bf L c h w) {x:V} {u:Value} (hx:RV L c x u) {g:Option Nat} {es:List V} (he:elems h x=some (g,es)):
 ∃a k,u= .slice a es.length k∧es.length≤k∧(∀y∈es,y.ty=g∧y.ax=true)∧(es=[]∨∃b o us ty fz,a=some ⟨b,o,none⟩∧w.heap[b]? =some (.cells us ty fz)∧bV L c es ((us.toList.drop o).take (es.length * L.az g))):=by
 unfold elems at he
 split at he
 ·rename_i full g' es'
  simp only[Option.some.injEq,Prod.mk.injEq] at he
  obtain ⟨rfl,rfl⟩:=he
  obtain ⟨a,k,rfl,h1,h2,h3,h4⟩:=cV.1 hx
  refine ⟨a,k,rfl,h1,h3,?_⟩
  rcases h4 with h4 | ⟨b,off,cs,ty,fz,ha,hz,hr⟩
  ·exact .inl h4
  ·exact .inr ⟨b,off,cs,ty,fz,ha,hs.z _ _ hz,hr⟩
 ·rename_i id path g' off len aw
  obtain ⟨es',hr,FO⟩:=Option.map_eq_some_iff.1 he
  simp only[Prod.mk.injEq] at FO
  obtain ⟨rfl,rfl⟩:=FO
  obtain ⟨l,o,e,m,us,ty,fz,hl,ht,ou,hg,hz,df,hle,fp,cO,qz,qx,ig⟩:=hs.rowAt hL hr
  obtain ⟨rfl,k,rfl,lT,hm⟩:=dI hx hl ht ou
  have nH:off+len≤es'.length:=by
    cases m with
    | none=> have:=(qz rfl).1;simp only[eM] at hm;omega
    | some n=> have:=qx n rfl;simp only[eM] at hm;omega
  have hlen:((es'.drop off).take len).length=len:=by simp;omega
  rw[hlen]
  refine ⟨_,k,rfl,lT,fun y hy=> cO y (List.mem_of_mem_drop (List.mem_of_mem_take hy)),.inr ⟨l.bu,o+off * L.az e,us,ty,fz,rfl,hg,?_⟩⟩
  have:=vS hL fp (fun y hy=>(cO y hy).1) off len nH
  have hmul:(off+len)* L.az e≤es'.length * L.az e:=Nat.mul_le_mul_right _ nH
  rw[Nat.add_mul] at hmul
  rw[List.drop_take,List.take_take,List.drop_drop,Nat.min_eq_left (by omega)] at this
  exact this
 ·cases he
theorem nd (hL:L.OK) {es:List V} {b o:Nat} {us:Array Value} {ty:TypeId} {fz:Nat×Nat} {g:Option Nat} (hg:w.heap[b]? =some (.cells us ty fz)) (hr:bV L c es ((us.toList.drop o).take (es.length * L.az g))) (cO:∀y∈es,y.ty=g):
 ∀j v,((us.toList.drop o).take (es.length * L.az g))[j]? =some v→w.cell? ((⟨b,o,none⟩:Addr).add j)=some v:=fun j v hj=> by
 rw[eC,q15z hg]
 have hlen:=q8z hL hr cO
 have uk:=(List.getElem?_eq_some_iff.1 hj).1
 rw[hlen] at uk
 rw[List.getElem?_take,if_pos uk,List.getElem?_drop] at hj
 simpa using hj
theorem jO :∀(es:List V) (l:List UInt8) (us:List Value),bytesOf es=some l→bV L c es us→∃ns:List Int,us=ns.map (Value.int .u8)∧ns.length=es.length∧l=ns.map fun n=> UInt8.ofNat n.toNat
 | [],l,us,hb,hr=> by
   simp only[bytesOf,Option.some.injEq] at hb
   simp only[bV] at hr
   subst hb;subst hr
   exact ⟨[],rfl,rfl,rfl⟩
 | e::es,l,us,hb,hr=> by
   simp only[bV] at hr
   obtain ⟨u1,u2,rfl,h1,h2⟩:=hr
   unfold bytesOf at hb
   split at hb
   ·rename_i heq
    cases heq
   ·rename_i n vs heq
    simp only[List.cons.injEq] at heq
    obtain ⟨rfl,rfl⟩:=heq
    obtain ⟨l',dv,rfl⟩:=Option.map_eq_some_iff.1 hb
    obtain ⟨ns,rfl,h3,rfl⟩:=jO es l' u2 dv h2
    simp only[RC] at h1
    rw[h1.1]
    exact ⟨n::ns,by simp,by simp[h3],by simp⟩
   ·cases hb
theorem PT (hs:bf L c h w) {T:Nat} {el:TypeId} (hu:P.underlying T=some (.slice el)) {ty:TypeId} {x:V} {ux:Value} (hx:RV L c x ux) {v:V} {h':Hp} (ah:sK h x=some (v,h')):
 aJ L c w ((Builtin.len_ #[T] ty #[ux]).run P w) v h':=by
 simp only[sK] at ah
 obtain ⟨n,hn,ah⟩:=Option.bind_eq_some_iff.1 ah
 simp only[jv,Option.some.injEq,Prod.mk.injEq] at ah
 obtain ⟨rfl,rfl⟩:=ah
 have:∃a k,ux= .slice a n k:=by
   unfold fq at hn
   split at hn
   ·simp only[Option.some.injEq] at hn;subst hn
    obtain ⟨a,k,h1,_⟩:=cV.1 hx;exact ⟨a,k,h1⟩
   ·simp only[Option.some.injEq] at hn;subst hn
    obtain ⟨a,k,h1,_⟩:=n9.1 hx;exact ⟨some a,k,h1⟩
   ·cases hn
 obtain ⟨a,k,rfl⟩:=this
 refine aJ.same (u:= .int .i64 n) ?_ (bx.2 ⟨rfl,rfl⟩) hs
 simp[Builtin.len_,underlying,hu,goInt]
theorem PU (hs:bf L c h w) {T:Nat} {el:TypeId} (hu:P.underlying T=some (.slice el)) {ty:TypeId} {x:V} {ux:Value} (hx:RV L c x ux) {v:V} {h':Hp} (ah:uN h x=some (v,h')):
 aJ L c w ((Builtin.cap_ #[T] ty #[ux]).run P w) v h':=by
 simp only[uN] at ah
 split at ah
 case h_2=> cases ah
 rename_i g es
 simp only[jv,Option.some.injEq,Prod.mk.injEq] at ah
 obtain ⟨rfl,rfl⟩:=ah
 obtain ⟨a,k,rfl,h2,h3,h4⟩:=cV.1 hx
 have hk:=h3 rfl
 subst hk
 refine aJ.same (u:= .int .i64 es.length) ?_ (bx.2 ⟨rfl,rfl⟩) hs
 simp[Builtin.cap_,underlying,hu,goInt]
theorem Lu (hs:bf L c h w) {T:Nat} (hu:P.underlying T=some .string) {ty:TypeId} {x:V} {ux:Value} (hx:RV L c x ux) {v:V} {h':Hp} (ah:qd h x=some (v,h')):
 aJ L c w ((Builtin.len_ #[T] ty #[ux]).run P w) v h':=by
 simp only[qd] at ah
 split at ah
 case h_2=> cases ah
 rename_i s
 simp only[jv,Option.some.injEq,Prod.mk.injEq] at ah
 obtain ⟨rfl,rfl⟩:=ah
 obtain ⟨rfl,_⟩:=bx.1 hx
 refine aJ.same (u:= .int .i64 s.size) ?_ (bx.2 ⟨rfl,rfl⟩) hs
 simp[Builtin.len_,underlying,hu,goInt]
def PV (L:cu) (c:Ctx):Option V→Option Value→Prop
 | none,none=> True
 | some y,some u=> RV L c y u
 | _,_=> False
theorem dL {x:Option V} {d n:Nat} (hn:cM x d=some n) {u:Option Value} (hx:PV L c x u):(u=none∧x=none∧n=d)∨∃k,u=some (.int k (n:Int)):=by
 cases x with
 | none=>
   simp only[cM,Option.some.injEq] at hn
   cases u with
   | none=> exact .inl ⟨rfl,rfl,hn.symm⟩
   | some _=> exact hx.elim
 | some y=>
   cases u with
   | none=> exact hx.elim
   | some uy=>
     cases y <;> try (simp[cM] at hn;done)
     rename_i q
     cases q <;> try (simp[cM] at hn;done)
     rename_i k m
     simp only[cM] at hn
     split at hn
     ·rename_i h0
      simp only[Option.some.injEq] at hn
      obtain ⟨rfl,_⟩:=bx.1 hx
      exact .inr ⟨k,by congr 2;omega⟩
     ·cases hn
theorem eD {k:IntKind} {n y:Nat} {code:BoundsCode} (hle:n≤y):(Instr.sliceBound (.int k (n:Int)) y code).run P w= .ok n w:=by
 simp only[Instr.sliceBound,asIntOf,Sem.run_bind,Sem.run_pure,Result.andThen_ok]
 rw[if_pos ⟨by omega,by omega⟩]
 simp
theorem Cj {T:Nat} {el:TypeId} {g:Option Nat} (hu:P.underlying T=some (.slice el)) (bQ:TG P L el g) {a:Option Addr} {len cap l r:Nat} {ul ur:Option Value} (hl:(ul=none∧l=0)∨∃k,ul=some (.int k (l:Int)))
 (hr:(ur=none∧r=len)∨∃k,ur=some (.int k (r:Int))) (re:l≤r) (fp:r≤cap):
 (Instr.sliceAt T (.slice a len cap) ul ur none).run P w= .ok (.slice (if cap=l then a else a.map (·.add (l * L.az g))) (r - l) (cap - l)) w:=by
 have hb:(Instr.sliceBounds true len cap ul ur none).run P w= .ok (l,r,cap) w:=by
   rcases hl with ⟨rfl,rfl⟩ | ⟨kl,rfl⟩<;> rcases hr with ⟨rfl,rfl⟩ | ⟨kr,rfl⟩<;> simp[Instr.sliceBounds,eD re,eD fp]
 simp only[Instr.sliceAt,Instr.slice,underlying,Sem.run_bind,run_program,Result.andThen_ok,hu,Sem.run_pure,hb,bQ.sizeOf]
theorem yg {T:Nat} {el:TypeId} {g:Option Nat} (hu:P.underlying T=some (.slice el)) (bQ:TG P L el g) {a:Option Addr} {len cap l r m:Nat} {ul:Option Value} {kr km:IntKind} (hl:(ul=none∧l=0)∨∃k,ul=some (.int k (l:Int)))
 (re:l≤r) (wH:r≤m) (hmc:m≤cap):
 (Instr.sliceAt T (.slice a len cap) ul (some (.int kr (r:Int))) (some (.int km (m:Int)))).run P w= .ok (.slice (if m=l then a else a.map (·.add (l * L.az g))) (r - l) (m - l)) w:=by
 have hb:(Instr.sliceBounds true len cap ul (some (.int kr (r:Int))) (some (.int km (m:Int)))).run P w= .ok (l,r,m) w:=by
   rcases hl with ⟨rfl,rfl⟩ | ⟨kl,rfl⟩<;> simp[Instr.sliceBounds,eD re,eD wH,eD hmc]
 simp only[Instr.sliceAt,Instr.slice,underlying,Sem.run_bind,run_program,Result.andThen_ok,hu,Sem.run_pure,hb,bQ.sizeOf]
theorem vY (hL:L.OK) {full:Bool} {es:List V} {a:Option Addr} {n k l r k':Nat} {g:Option Nat} (hx:RV L c (.al full g es) (.slice a n k)) (re:l≤r) (hr:r≤es.length) (full':Bool) (lF:r - l≤k') (hf:full'=true→k'=r - l)
 (a':Option Addr) (oM:l < r→a'=a.map (·.add (l * L.az g))):RV L c (.al full' g ((es.drop l).take (r - l))) (.slice a' (r - l) k'):=by
 have hlen:((es.drop l).take (r - l)).length=r - l:=by simp;omega
 obtain ⟨a0,k0,heq,h1,h2,cO,h3⟩:=cV.1 hx
 simp only[Value.slice.injEq] at heq
 obtain ⟨rfl,rfl,rfl⟩:=heq
 refine cV.2 ⟨a',k',by rw[hlen],by rw[hlen];exact lF,fun h=> by rw[hlen];exact hf h,fun y hy=> cO y (List.mem_of_mem_drop (List.mem_of_mem_take hy)),?_⟩
 by_cases bW:l < r
 ·right
  rcases h3 with rfl | ⟨b,off,cs,ty,fz,rfl,hz,fp⟩
  ·simp at hr;omega
  ·refine ⟨b,off+l * L.az g,cs,ty,fz,by rw[oM bW];simp[eC],hz,?_⟩
   have:=vS hL fp (fun y hy=>(cO y hy).1) l (r - l) (by omega)
   have hmul:(l+(r - l))* L.az g≤es.length * L.az g:=Nat.mul_le_mul_right _ (by omega)
   rw[Nat.add_mul] at hmul
   simp only[ng] at this ⊢
   rw[List.drop_take,List.take_take,List.drop_drop,Nat.min_eq_left (by omega)] at this
   rw[hlen];exact this
 ·left
  rw[show r - l=0 by omega];simp
theorem eU {full:Bool} {g:Option Nat} {a:Option Addr} {k:Nat} (hf:full=true→k=0):RV L c (.al full g []) (.slice a 0 k):=
 cV.2 ⟨a,k,rfl,Nat.zero_le _,fun h=> by simpa using hf h,by simp,Or.inl rfl⟩
def fC (L:cu) (c:Ctx):List V→List Value→Prop
 | [],[]=> True
 | v::vs,u::us=> RV L c v u∧fC L c vs us
 | _,_=> False
theorem fC.length :∀ {vs:List V} {us:List Value},fC L c vs us→us.length=vs.length
 | [],[],_=> rfl
 | [],_::_,h=> h.elim
 | _::_,[],h=> h.elim
 | _::_,_::_,h=> by simp[fC.length h.2]
theorem fC.get :∀ {vs:List V} {us:List Value},fC L c vs us→∀(i:Nat) (y:V) (u:Value),vs[i]? =some y→us[i]? =some u→RV L c y u
 | [],[],_,i,y,u,h1,_=> by simp at h1
 | [],_::_,h,_,_,_,_,_=> h.elim
 | _::_,[],h,_,_,_,_,_=> h.elim
 | v::vs,x::us,h,0,y,u,h1,h2=> by
   simp at h1 h2;subst h1;subst h2;exact h.1
 | v::vs,x::us,h,i+1,y,u,h1,h2=> fC.get h.2 i y u (by simpa using h1) (by simpa using h2)
theorem i7 {ul ur:Option Value} {bs:List V} (hv:fC L c bs (ul.toList++ur.toList)) {a b:Option V} (hb:aL ul.isSome ur.isSome bs=some (a,b)):PV L c a ul∧PV L c b ur:=by
 cases ul with
 | none=>
   cases ur with
   | none=>
     simp only[Option.toList_none,List.append_nil] at hv
     match bs,hv with
     | [],_=> simp only[aL,Option.isSome_none,Option.some.injEq,Prod.mk.injEq] at hb;obtain ⟨rfl,rfl⟩:=hb;exact ⟨trivial,trivial⟩
   | some u=>
     simp only[Option.toList_none,Option.toList_some,List.nil_append] at hv
     match bs,hv with
     | [y],hv=> simp only[aL,Option.isSome_none,Option.isSome_some,Option.some.injEq,Prod.mk.injEq] at hb;obtain ⟨rfl,rfl⟩:=hb;exact ⟨trivial,hv.1⟩
     | _::_::_,hv=> exact hv.2.elim
 | some v=>
   cases ur with
   | none=>
     simp only[Option.toList_none,Option.toList_some,List.append_nil] at hv
     match bs,hv with
     | [y],hv=> simp only[aL,Option.isSome_none,Option.isSome_some,Option.some.injEq,Prod.mk.injEq] at hb;obtain ⟨rfl,rfl⟩:=hb;exact ⟨hv.1,trivial⟩
     | _::_::_,hv=> exact hv.2.elim
   | some u=>
     simp only[Option.toList_some,List.cons_append,List.nil_append] at hv
     match bs,hv with
     | [y],hv=> exact hv.2.elim
     | [y,z],hv=> simp only[aL,Option.isSome_some,Option.some.injEq,Prod.mk.injEq] at hb;obtain ⟨rfl,rfl⟩:=hb;exact ⟨hv.1,hv.2.1⟩
     | _::_::_::_,hv=> exact hv.2.2.elim
theorem vZ {x:V} {n:Nat} (hn:fq x=some n) {u:Value} (hx:RV L c x u):∃a k,u= .slice a n k∧n≤k:=by
 unfold fq at hn
 split at hn
 ·simp only[Option.some.injEq] at hn;subst hn
  obtain ⟨a,k,h1,h2,_⟩:=cV.1 hx;exact ⟨a,k,h1,h2⟩
 ·simp only[Option.some.injEq] at hn;subst hn
  obtain ⟨a,k,h1,_,h2,_⟩:=n9.1 hx;exact ⟨some a,k,h1,h2⟩
 ·cases hn
theorem DX (hL:L.OK) (hs:bf L c h w) {T:Nat} {el:TypeId} {g:Option Nat} (hu:P.underlying T=some (.slice el)) (bQ:TG P L el g) {x:V} {a:Option Addr} {len cap:Nat} (hx:RV L c x (.slice a len cap))
 {ul ur:Option Value} {l r:Nat} (hl:(ul=none∧l=0)∨∃k,ul=some (.int k (l:Int))) (hr:(ur=none∧r=len)∨∃k,ur=some (.int k (r:Int)))
 {v:V} (ah:dw h g x l r=some v):aJ L c w ((Instr.sliceAt T (.slice a len cap) ul ur none).run P w) v h:=by
 unfold dw at ah
 split at ah
 case isFalse=> cases ah
 rename_i re
 split at ah
 ·rename_i full g' es
  split at ah
  case isFalse=> cases ah
  rename_i nD
  obtain ⟨rfl,nD⟩:=nD
  simp only[Option.some.injEq] at ah
  subst ah
  obtain ⟨a0,k0,heq,h1,h2,h3,h4⟩:=cV.1 hx
  simp only[Value.slice.injEq] at heq
  obtain ⟨rfl,rfl,rfl⟩:=heq
  rw[Cj hu bQ hl hr re (by omega)]
  refine aJ.same rfl (vY hL hx re nD _ (by omega) (fun hf=> ?_) _ (fun bW=> by rw[if_neg (by omega)])) hs
  simp only[Bool.and_eq_true,beq_iff_eq] at hf
  have:=h2 hf.1;omega
 ·rename_i id path g' off n aw
  split at ah
  case h_2=> cases ah
  rename_i es ck
  split at ah
  case isFalse=> cases ah
  rename_i nH
  obtain ⟨rfl,nH⟩:=nH
  obtain ⟨ll,o,e,m,us,ty,fz,dv,ht,ou,hg,hz,df,hle,fp,cO,qz,qx,ig⟩:=hs.rowAt hL ck
  obtain ⟨rfl,k,heq,lT,hm⟩:=dI hx dv ht ou
  simp only[Value.slice.injEq] at heq
  obtain ⟨rfl,rfl,rfl⟩:=heq
  have fM:r≤cap:=by
    rcases nH with hf | hf
    ·omega
    ·cases m with
     | none=> simp only[eM] at hm;have:=(qz rfl).1;omega
     | some n=> simp only[eM] at hm;have:=qx n rfl;omega
  rw[Cj hu bQ hl hr re fM]
  split at ah
  ·rename_i fy
   simp only[Option.some.injEq] at ah
   subst ah
   have Yy:(if cap=l then some (⟨ll.bu,o+off * L.az e,none⟩:Addr) else (some (⟨ll.bu,o+off * L.az e,none⟩:Addr)).map (·.add (l * L.az e)))=some ⟨ll.bu,o+(off+l)* L.az e,none⟩:=by
     by_cases h0:l=0
     ·subst h0;split <;> simp[eC]
     ·rw[if_neg (by omega)]
      simp only[Option.map_some,eC,Nat.add_mul,Nat.add_assoc]
   rw[Yy]
   refine aJ.same rfl (mG hs dv ht ou (by omega) ?_) hs
   cases m with
   | none=>
     simp only[eM] at hm ⊢
     have:=(qz rfl).1
     omega
   | some n=> simp only[eM] at hm ⊢;omega
  ·rename_i fy
   simp only[Option.some.injEq] at ah
   subst ah
   have e0:r - l=0:=by omega
   rw[e0]
   exact aJ.same rfl (eU (fun hf=> by cases hf)) hs
 ·cases ah
theorem sU (hL:L.OK) (hs:bf L c h w) {T:Nat} {el:TypeId} {g:Option Nat} (hu:P.underlying T=some (.slice el)) (bQ:TG P L el g) {x:V} {a:Option Addr} {len cap:Nat} (hx:RV L c x (.slice a len cap))
 {ul:Option Value} {kr km:IntKind} {l r m:Nat} (hl:(ul=none∧l=0)∨∃k,ul=some (.int k (l:Int)))
 {v:V} (ah:rB h g x l r m=some v):aJ L c w ((Instr.sliceAt T (.slice a len cap) ul (some (.int kr (r:Int))) (some (.int km (m:Int)))).run P w) v h:=by
 unfold rB at ah
 split at ah
 case isFalse=> cases ah
 rename_i re
 obtain ⟨re,wH⟩:=re
 split at ah
 ·rename_i full g' es
  split at ah
  case isFalse=> cases ah
  rename_i nD
  obtain ⟨rfl,nD⟩:=nD
  simp only[Option.some.injEq] at ah
  subst ah
  obtain ⟨a0,k0,heq,h1,h2,h3,h4⟩:=cV.1 hx
  simp only[Value.slice.injEq] at heq
  obtain ⟨rfl,rfl,rfl⟩:=heq
  rw[yg hu bQ hl re wH (by omega)]
  refine aJ.same rfl (vY hL hx re (by omega) _ (by omega) (fun hf=> ?_) _ (fun bW=> by rw[if_neg (by omega)])) hs
  simp only[beq_iff_eq] at hf
  omega
 ·rename_i id path g' off n aw
  split at ah
  case h_2=> cases ah
  rename_i es ck
  split at ah
  case isFalse=> cases ah
  rename_i nH
  obtain ⟨ll,o,e,m',us,ty,fz,dv,ht,ou,hg,hz,df,hle,fp,cO,qz,qx,ig⟩:=hs.rowAt hL ck
  obtain ⟨rfl,k,heq,lT,hm⟩:=dI hx dv ht ou
  simp only[Value.slice.injEq] at heq
  obtain ⟨rfl,rfl,rfl⟩:=heq
  have fM:m≤cap:=by
    rcases nH with hf | hf
    ·omega
    ·cases m' with
     | none=> simp only[eM] at hm;have:=(qz rfl).1;omega
     | some n=> simp only[eM] at hm;have:=qx n rfl;omega
  rw[yg hu bQ hl re wH fM]
  split at ah
  ·simp only[Option.some.injEq] at ah
   subst ah
   have e0:r - l=0:=by omega
   rw[e0]
   exact aJ.same rfl (eU (fun hf=> by omega)) hs
  ·simp only[Option.some.injEq] at ah
   subst ah
   exact aJ.same rfl ⟨[_],⟨_,rfl⟩,rfl⟩ hs
 ·cases ah
theorem PW (hL:L.OK) (hs:bf L c h w) {T:Nat} {el:TypeId} {g:Option Nat} (hu:P.underlying T=some (.slice el)) (bQ:TG P L el g) {x:V} {ux:Value} (hx:RV L c x ux)
 {ul ur um:Option Value} {bs:List V} (hb:fC L c bs (ul.toList++ur.toList++um.toList)) {v:V} {h':Hp} (ah:fZ h g ul.isSome ur.isSome um.isSome x bs=some (v,h')):
 aJ L c w ((Instr.sliceAt T ux ul ur um).run P w) v h':=by
 simp only[fZ] at ah
 split at ah
 case h_2=> cases ah
 rename_i len hlen
 obtain ⟨a,k,rfl,lT⟩:=vZ hlen hx
 cases um with
 | none=>
   simp only[Option.isSome_none] at ah
   split at ah
   case h_2=> cases ah
   rename_i p q uA
   simp only[Option.toList_none,List.append_nil] at hb
   obtain ⟨h1,h2⟩:=i7 hb uA
   split at ah
   case h_2=> cases ah
   rename_i l r hl hr
   obtain ⟨v',hv',he⟩:=Option.map_eq_some_iff.1 ah
   simp only[Prod.mk.injEq] at he
   obtain ⟨rfl,rfl⟩:=he
   refine DX hL hs hu bQ hx ?_ ?_ hv'
   ·rcases dL hl h1 with ⟨e1,_,e2⟩ | h3
    ·exact Or.inl ⟨e1,e2⟩
    ·exact Or.inr h3
   ·rcases dL hr h2 with ⟨e1,_,e2⟩ | h3
    ·exact Or.inl ⟨e1,e2⟩
    ·exact Or.inr h3
 | some um=>
   simp only[Option.isSome_some] at ah
   split at ah
   ·rename_i heq;cases heq
   ·rename_i y m h1 h2 _
    have e1:ul=none:=by cases ul <;> simp_all
    obtain ⟨ur',rfl⟩:∃u,ur=some u:=by cases ur <;> simp_all
    subst e1
    simp only[Option.toList_none,Option.toList_some,List.nil_append,List.cons_append] at hb
    split at ah
    case h_2=> cases ah
    rename_i r m' hr hm
    obtain ⟨v',hv',he⟩:=Option.map_eq_some_iff.1 ah
    simp only[Prod.mk.injEq] at he
    obtain ⟨rfl,rfl⟩:=he
    rcases dL (u:=some ur') hr hb.1 with ⟨e1,_⟩ | ⟨kr,e1⟩
    ·cases e1
    rcases dL (u:=some um) hm hb.2.1 with ⟨e2,_⟩ | ⟨km,e2⟩
    ·cases e2
    rw[e1,e2]
    exact sU hL hs hu bQ hx (Or.inl ⟨rfl,rfl⟩) hv'
   ·rename_i z y m h1 h2 _
    obtain ⟨ul',rfl⟩:∃u,ul=some u:=by cases ul <;> simp_all
    obtain ⟨ur',rfl⟩:∃u,ur=some u:=by cases ur <;> simp_all
    simp only[Option.toList_some,List.nil_append,List.cons_append] at hb
    split at ah
    case h_2=> cases ah
    rename_i l r m' hl hr hm
    obtain ⟨v',hv',he⟩:=Option.map_eq_some_iff.1 ah
    simp only[Prod.mk.injEq] at he
    obtain ⟨rfl,rfl⟩:=he
    rcases dL (u:=some ul') hl hb.1 with ⟨e0,_⟩ | ⟨kl,e0⟩
    ·cases e0
    rcases dL (u:=some ur') hr hb.2.1 with ⟨e1,_⟩ | ⟨kr,e1⟩
    ·cases e1
    rcases dL (u:=some um) hm hb.2.2.1 with ⟨e2,_⟩ | ⟨km,e2⟩
    ·cases e2
    rw[e0,e1,e2]
    exact sU hL hs hu bQ hx (Or.inr ⟨kl,rfl⟩) hv'
   ·cases ah
theorem yh {T n:Nat} {el:TypeId} {g:Option Nat} (hu:P.underlying T=some (.array n el)) (bQ:TG P L el g) {b o l r:Nat} {ul ur:Option Value} (hl:(ul=none∧l=0)∨∃k,ul=some (.int k (l:Int)))
 (hr:(ur=none∧r=n)∨∃k,ur=some (.int k (r:Int))) (re:l≤r) (fp:r≤n):
 (Instr.sliceAt T (.pointer (some ⟨b,o,none⟩)) ul ur none).run P w= .ok (.slice (some (if n=l then ⟨b,o,none⟩ else ⟨b,o+l * L.az g,none⟩)) (r - l) (n - l)) w:=by
 have hb:(Instr.sliceBounds false n n ul ur none).run P w= .ok (l,r,n) w:=by
   rcases hl with ⟨rfl,rfl⟩ | ⟨kl,rfl⟩<;> rcases hr with ⟨rfl,rfl⟩ | ⟨kr,rfl⟩<;> simp[Instr.sliceBounds,eD re,eD fp]
 simp only[Instr.sliceAt,Instr.sureAddr,underlying,Sem.run_bind,run_program,Result.andThen_ok,hu,Sem.run_pure,hb,bQ.sizeOf,eC]
theorem PX (hL:L.OK) (hs:bf L c h w) {T t n:Nat} {el:TypeId} {g:Option Nat} (hu:P.underlying T=some (.array n el)) (bQ:TG P L el g) (ha:L.arr t=some (n,g)) {x:V} {ux:Value} (hx:RV L c x ux)
 {ul ur:Option Value} {bs:List V} (hb:fC L c bs (ul.toList++ur.toList)) {v:V} {h':Hp} (ah:qy h t g ul.isSome ur.isSome x bs=some (v,h')):
 aJ L c w ((Instr.sliceAt T ux ul ur none).run P w) v h':=by
 simp only[qy] at ah
 split at ah
 case h_2=> cases ah
 rename_i p q uA
 obtain ⟨h1,h2⟩:=i7 hb uA
 split at ah
 ·rename_i id path aw
  split at ah
  case h_2=> cases ah
  rename_i t' es hn
  split at ah
  case isFalse=> cases ah
  rename_i ht';subst ht'
  split at ah
  case h_2=> cases ah
  rename_i l r hl hr
  split at ah
  case isFalse=> cases ah
  rename_i hc
  obtain ⟨re,hrn⟩:=hc
  obtain ⟨ll,j',pp,o,us,ty,fz,rfl,od,ht,ho,⟨o',lK⟩,hg,hz,df,hle,fp⟩:=hs.nodeAt hL hn
  have DV:=iY hx od ht ho
  subst DV
  simp only[RC] at fp
  obtain ⟨e',oM,cO⟩:=fp.2
  rw[ha] at oM
  simp only[Option.some.injEq,Prod.mk.injEq] at oM
  obtain ⟨rfl,rfl⟩:=oM
  have Iv:o=j' * L.az ll.tag+o':=by
    simp only[cu.off,lK,Option.map_some,Option.some.injEq] at ho
    omega
  have ck:L.row ll.tag (j'::pp)=some (o,g,some es.length):=by simp only[cu.row,lK,V.ty,ha,Option.map_some,Iv]
  have dv:(ul=none∧l=0)∨∃k,ul=some (.int k (l:Int)):=by
    rcases dL hl h1 with ⟨e1,_,e2⟩ | h3
    ·exact Or.inl ⟨e1,e2⟩
    ·exact Or.inr h3
  have hr':(ur=none∧r=es.length)∨∃k,ur=some (.int k (r:Int)):=by
    rcases dL hr h2 with ⟨e1,_,e2⟩ | h3
    ·exact Or.inl ⟨e1,e2⟩
    ·exact Or.inr h3
  rw[yh hu bQ dv hr' re hrn]
  split at ah
  ·rename_i fy
   simp only[Option.some.injEq,Prod.mk.injEq] at ah
   obtain ⟨rfl,rfl⟩:=ah
   have e1:(if es.length=l then (⟨ll.bu,o,none⟩:Addr) else ⟨ll.bu,o+l * L.az g,none⟩)=⟨ll.bu,o+l * L.az g,none⟩:=by
     split
     ·have:l=0:=by omega
      subst this;simp
     ·rfl
   rw[e1]
   exact aJ.same rfl (mG hs od ht ck (by omega) (by simp only[eM];omega)) hs
  ·simp only[Option.some.injEq,Prod.mk.injEq] at ah
   obtain ⟨rfl,rfl⟩:=ah
   have e0:r - l=0:=by omega
   rw[e0]
   exact aJ.same rfl (eU (fun _=> by omega)) hs
 ·rename_i t' es
  split at ah
  case isFalse=> cases ah
  rename_i ht';subst ht'
  split at ah
  case h_2=> cases ah
  rename_i l r hl hr
  split at ah
  case isFalse=> cases ah
  rename_i hc
  obtain ⟨re,hrn⟩:=hc
  simp only[Option.some.injEq,Prod.mk.injEq] at ah
  obtain ⟨rfl,rfl⟩:=ah
  obtain ⟨b,off,cs,ty,fz,rfl,hz,fp⟩:=fR.1 hx
  simp only[RC] at fp
  obtain ⟨fp,e',oM,cO⟩:=fp
  rw[ha] at oM
  simp only[Option.some.injEq,Prod.mk.injEq] at oM
  obtain ⟨rfl,rfl⟩:=oM
  have dv:(ul=none∧l=0)∨∃k,ul=some (.int k (l:Int)):=by
    rcases dL hl h1 with ⟨e1,_,e2⟩ | h3
    ·exact Or.inl ⟨e1,e2⟩
    ·exact Or.inr h3
  have hr':(ur=none∧r=es.length)∨∃k,ur=some (.int k (r:Int)):=by
    rcases dL hr h2 with ⟨e1,_,e2⟩ | h3
    ·exact Or.inl ⟨e1,e2⟩
    ·exact Or.inr h3
  rw[yh hu bQ dv hr' re hrn]
  have cJ:L.az (V.ty (.arr t' es))=es.length * L.az g:=by simp[V.ty,cu.az,hL.ar _ _ _ ha]
  rw[cJ] at fp
  have cK:RV L c (.al true g es) (.slice (some ⟨b,off,none⟩) es.length es.length):=cV.2 ⟨_,_,rfl,Nat.le_refl _,fun _=> rfl,cO,Or.inr ⟨b,off,cs,ty,fz,rfl,hz,fp⟩⟩
  refine aJ.same rfl (vY hL cK re hrn _ (by omega) (fun hf=> ?_) _ (fun bW=> by rw[if_neg (by omega)];simp[eC])) hs
  simp only[beq_iff_eq] at hf;omega
 ·cases ah
theorem PY (hs:bf L c h w) {T:Nat} (hu:P.underlying T=some .string) {x:V} {ux:Value} (hx:RV L c x ux)
 {ul ur:Option Value} {bs:List V} (hb:fC L c bs (ul.toList++ur.toList)) {v:V} {h':Hp} (ah:uP h ul.isSome ur.isSome x bs=some (v,h')):
 aJ L c w ((Instr.sliceAt T ux ul ur none).run P w) v h':=by
 simp only[uP] at ah
 split at ah
 case h_2=> cases ah
 rename_i s p q uA
 obtain ⟨h1,h2⟩:=i7 hb uA
 split at ah
 case h_2=> cases ah
 rename_i l r hl hr
 split at ah
 case isFalse=> cases ah
 rename_i hc
 obtain ⟨re,hrn⟩:=hc
 simp only[jv,Option.some.injEq,Prod.mk.injEq] at ah
 obtain ⟨rfl,rfl⟩:=ah
 obtain ⟨rfl,_⟩:=bx.1 hx
 have hbd:(Instr.sliceBounds false s.size s.size ul ur none).run P w= .ok (l,r,s.size) w:=by
   rcases dL hl h1 with ⟨rfl,_,rfl⟩ | ⟨kl,rfl⟩<;> rcases dL hr h2 with ⟨rfl,_,rfl⟩ | ⟨kr,rfl⟩<;> simp[Instr.sliceBounds,eD re,eD hrn]
 refine aJ.same (u:= .string (s.extract l r)) ?_ (bx.2 ⟨rfl,rfl⟩) hs
 simp only[Instr.sliceAt,Instr.slice,underlying,Sem.run_bind,run_program,Result.andThen_ok,hu,Sem.run_pure,Option.isSome_none,Bool.false_eq_true,if_false,hbd]
end Go.Vm
namespace Go.Vm
variable {P : Program} {L : cu} {c : Ctx} {h : Hp} {w : World}
structure Src (P:Program) (L:cu) (c:Ctx) (w:World) (g:Option Nat) (ys:List V) (u:Value) (us:List Value):Prop where
 len:(Builtin.lenOf u).run P w= .ok ys.length w
 first:∀(w':World) (n:Nat),w'.heap=w.heap→n≤ys.length→(Builtin.firstCells (L.az g) n u).run P w'= .ok (us.take (n * L.az g)).toArray w'
 rc:bV L c ys us
 el:∀y∈ys,y.ty=g∧y.ax=true
theorem AE {w w':World} (hw:w'.heap=w.heap) (a:Addr):w'.cell? a=w.cell? a:=by simp[World.cell?,hw]
theorem eE (s:ByteArray):(dK s).length=s.size:=by simp[dK]
theorem qN (s:ByteArray):bV L c (dK s) (s.data.toList.map fun b=> Value.int .u8 b.toNat):=by
 unfold dK
 induction s.data.toList with
 | nil=> simp[bV]
 | cons b l ih=> exact ⟨[Value.int .u8 b.toNat],_,rfl,by simp[aa,RC,Value.oneCell'],ih⟩
theorem mO (s:ByteArray):∀y∈dK s,y.ty=none∧y.ax=true:=fun y hy=> by
 simp only[dK,List.mem_map] at hy
 obtain ⟨b,_,rfl⟩:=hy
 exact ⟨rfl,rfl⟩
theorem nm (hL:L.OK) (hs:bf L c h w) {x:V} {u:Value} (hx:RV L c x u) {g:Option Nat} {ys:List V} (he:source h x=some (g,ys)):∃us,Src P L c w g ys u us:=by
 unfold source at he
 split at he
 ·rename_i s
  simp only[Option.some.injEq,Prod.mk.injEq] at he
  obtain ⟨rfl,rfl⟩:=he
  obtain ⟨rfl,_⟩:=bx.1 hx
  refine ⟨_,⟨by simp[Builtin.lenOf,eE],fun w' n hw hn=> ?_,qN s,mO s⟩⟩
  simp only[Builtin.firstCells,cu.az,Sem.run_pure]
  congr 1
  apply Array.ext'
  have cJ:s.data.toList.length=s.size:=by simp
  simp[ByteArray.data_extract,List.map_take]
 ·obtain ⟨a,k,rfl,lT,bQ,fy⟩:=ph hL hs hx he
  rcases fy with rfl | ⟨b,o,us,ty,fz,rfl,hg,hr⟩
  ·refine ⟨[],⟨by simp[Builtin.lenOf],fun w' n hw hn=> ?_,by simp[bV],bQ⟩⟩
   obtain rfl:n=0:=by simpa using hn
   cases a <;> simp[Builtin.firstCells,loadCells,loadCellsFrom]
  ·refine ⟨_,⟨by simp[Builtin.lenOf],fun w' n hw hn=> ?_,hr,bQ⟩⟩
   have hlen:=q8z hL hr (fun y hy=>(bQ y hy).1)
   have hmul:n * L.az g≤ys.length * L.az g:=Nat.mul_le_mul_right _ hn
   refine run_firstCells_some (P:=P) w' (L.az g) n ⟨b,o,none⟩ _ _ _ (by rw[List.length_take,hlen];omega) (fun j v hj=> ?_)
   rw[AE hw]
   refine nd hL hg hr (fun y hy=>(bQ y hy).1) j v ?_
   rw[List.getElem?_take] at hj
   split at hj
   ·exact hj
   ·cases hj
theorem tN (w:World) (need dO:Nat) (e:TypeId):need≤grownCap w need dO e:=grownCap_ge w need dO e
theorem v9 {T T2 el:TypeId} {i:TypeInfo} (ht:P.underlying T=some (.slice el)) (hi:P.info? el=some i) (h2:(∃e2,P.underlying T2=some (.slice e2))∨P.underlying T2=some .string) {ty:TypeId} {g:Option Nat} (cJ:i.size=L.az g)
 {base:Option Addr} {sLen sCap:Nat} {u:Value} {ys:List V} {us:List Value} (kY:Src P L c w g ys u us) (fL:sLen+ys.length≤sCap) (w':World)
 (aP:(match base with | some a=>(storeCells (a.add (sLen * L.az g)) (us.take (ys.length * L.az g))).run P w | none=> .ok () w)= .ok () w'):
 (Builtin.append_ #[T,T2] ty #[.slice base sLen sCap,u]).run P w= .ok (.slice base (sLen+ys.length) sCap) w':=by
 have hf:=kY.first w ys.length rfl (Nat.le_refl _)
 rcases h2 with ⟨e2,hd⟩ | hd
 all_goals
   cases base with
   | none=>
     simp only[Result.ok.injEq,true_and] at aP
     subst aP
     simp[Builtin.append_,run_underlying ht,run_underlying hd,sizeOf,typeInfo,hi,cJ,kY.len,fL,hf]
   | some a=>
     simp only at aP
     simp[Builtin.append_,run_underlying ht,run_underlying hd,sizeOf,typeInfo,hi,cJ,kY.len,fL,hf,aP]
theorem wa {T T2 el:TypeId} {i:TypeInfo} {z:Value} (ht:P.underlying T=some (.slice el)) (hi:P.info? el=some i) (hzero:i.zero=some z) (h2:(∃e2,P.underlying T2=some (.slice e2))∨P.underlying T2=some .string) {ty:TypeId} {g:Option Nat} (cJ:i.size=L.az g)
 {base:Option Addr} {sLen sCap:Nat} {olds:List Value} (hold:(Builtin.firstCells (L.az g) sLen (.slice base sLen sCap)).run P w.drew= .ok olds.toArray w.drew)
 {u:Value} {ys:List V} {us:List Value} (kY:Src P L c w g ys u us) (Cg:us.length=ys.length * L.az g) (fL:sCap < sLen+ys.length) (hlen:(sLen+ys.length)* i.bytes≤140737488355328) (h63:sLen+ys.length≤9223372036854775807):
 (Builtin.append_ #[T,T2] ty #[.slice base sLen sCap,u]).run P w= .ok (.slice (some ⟨w.heap.size,0,none⟩) (sLen+ys.length) (grownCap w (sLen+ys.length) sCap el))
   (w.drew.alloc (.cells (olds++us++(Builtin.zeroCells z.cells (grownCap w (sLen+ys.length) sCap el - (sLen+ys.length))).toList).toArray el)):=by
 have hf:=kY.first w.drew ys.length rfl (Nat.le_refl _)
 rw[←Cg,List.take_length] at hf
 have hn:¬(sLen+ys.length≤sCap):=by omega
 have h63':¬(9223372036854775807 <((sLen:Int)+(ys.length:Int))):=by omega
 have nH:=growslice_fits (need:=sLen+ys.length) fL hlen
 have h48':¬(281474976710656 < Builtin.nextslicecap (sLen+ys.length) sCap * i.bytes):=by omega
 rcases h2 with ⟨e2,hd⟩ | hd
 all_goals
   simp[Builtin.append_,run_underlying ht,run_underlying hd,sizeOf,typeInfo,zeroValue,hi,cJ,kY.len,hzero,hn,h63',h48',Question.forced,hf,hold,newRow,grownCap]
   congr 2
   apply Array.ext'
   simp[List.append_assoc]
theorem iL (hL:L.OK) (hs:bf L c h w) {id:Nat} {g:Option Nat} {l:Loc} {us:Array Value} {ty:TypeId} {fz:Nat×Nat} (hl:c.loc id=some l) (bZ:l.tag=g) (hz:c.z l.bu=none) (hg:w.heap[l.bu]? =some (.cells us ty fz))
 (df:Im g us.size fz) (cJ:us.size=l.cap * L.az g) {es':List V} (cO:∀y∈es',y.ty=g∧y.ax=true) (hlen:l.aw≤es'.length) (fM:es'.length≤l.cap) {o:Nat} {vs:List Value} (ho:o+vs.length≤us.size)
 (hr:bV L c es' ((lay us.toList o vs).take (es'.length * L.az g))):
 ∃l',l'= {l with aw:=es'.length}∧bf L (c.move id l') (h.set id (.cells g es')) (w.setCells l.bu o vs)∧c.le (c.move id l')∧(c.move id l').loc id=some l':=by
 have hle:c.le (c.move id {l with aw:=es'.length}):=Ctx.vQ c id l _ hl rfl hlen (fun _=>⟨rfl,rfl⟩)
 refine ⟨_,rfl,?_,hle,by simp[Ctx.move]⟩
 have po:(lay us.toList o vs).length=us.size:=by rw[dW _ _ _ (by simpa using ho)];simp
 refine hs.move hl _ hle hz (Or.inl rfl) (fun b hb tI=> q13z l.bu _ _ _ b tI) (fun o' jN=> by rw[hz] at jN;cases jN) ?_
 exact ⟨bZ,rfl,fM,cO,_,ty,fz,dx l.bu ty fz vs o us w hg ho,by simpa[po] using cJ,⟨fun j hj=> df.1 j (by simpa[po] using hj),df.2⟩,by simpa using hr.mono hle⟩
theorem mE (hL:L.OK) {es ys:List V} {us vs:List Value} {g:Option Nat} (h1:bV L c es us) (h2:bV L c ys vs) (he:∀y∈es,y.ty=g) (hy:∀y∈ys,y.ty=g) {n:Nat} (hn:n+ys.length≤es.length):
 bV L c (es.take n++ys++es.drop (n+ys.length)) (lay us (n * L.az g) vs):=by
 have hv:=q8z hL h2 hy
 have a:=(eN hL h1 he n (by omega)).1
 have b:=(eN hL h1 he (n+ys.length) hn).2
 rw[List.append_assoc]
 refine dX.2 ⟨_,_,rfl,a,dX.2 ⟨_,_,rfl,h2,?_⟩⟩
 rw[hv,←Nat.add_mul];exact b
theorem gJ {us vs:List Value} {a b:Nat} (h:a+vs.length≤us.length) (hb:a+vs.length=b):(lay us a vs).take b=us.take a++vs:=by
 simp only[lay]
 rw[←List.append_assoc,List.take_append_of_le_length (by simp;omega),List.take_of_length_le (by simp;omega)]
structure Apd (P:Program) (L:cu) (c:Ctx) (w:World) (T T2 ty el:TypeId) (i:TypeInfo) (g:Option Nat) (ys:List V) (u:Value) (us:List Value):Prop where
 room:∀(base:Option Addr) (sLen sCap:Nat) (w':World),sLen+ys.length≤sCap→(match base with | some a=>(storeCells (a.add (sLen * L.az g)) (us.take (ys.length * L.az g))).run P w | none=> .ok () w)= .ok () w'→
   (Builtin.append_ #[T,T2] ty #[.slice base sLen sCap,u]).run P w= .ok (.slice base (sLen+ys.length) sCap) w'
 grow:∀(z:Value),i.zero=some z→∀(base:Option Addr) (sLen sCap:Nat) (olds:List Value),(Builtin.firstCells (L.az g) sLen (.slice base sLen sCap)).run P w.drew= .ok olds.toArray w.drew→us.length=ys.length * L.az g→sCap < sLen+ys.length→(sLen+ys.length)* i.bytes≤140737488355328→sLen+ys.length≤9223372036854775807→
   (Builtin.append_ #[T,T2] ty #[.slice base sLen sCap,u]).run P w= .ok (.slice (some ⟨w.heap.size,0,none⟩) (sLen+ys.length) (grownCap w (sLen+ys.length) sCap el))
     (w.drew.alloc (.cells (olds++us++(Builtin.zeroCells z.cells (grownCap w (sLen+ys.length) sCap el - (sLen+ys.length))).toList).toArray el))
 rc:bV L c ys us
 el:∀y∈ys,y.ty=g∧y.ax=true
theorem Src.apd {T T2 ty el:TypeId} {i:TypeInfo} {g:Option Nat} {ys:List V} {u:Value} {us:List Value} (ht:P.underlying T=some (.slice el)) (hi:P.info? el=some i) (h2:(∃e2,P.underlying T2=some (.slice e2))∨P.underlying T2=some .string) (cJ:i.size=L.az g) (hs:Src P L c w g ys u us):
 Apd P L c w T T2 ty el i g ys u us:=
 ⟨fun _ _ _ w' hr aP=> v9 ht hi h2 cJ hs hr w' aP,fun z hz _ _ _ _ ho hf hr hl h63=> wa ht hi hz h2 cJ ho hs hf hr hl h63,hs.rc,hs.el⟩
theorem DY (z:Array Value) (n:Nat):(Builtin.zeroCells z n).toList=(List.replicate n z.toList).flatten:=iM z n
theorem DZ (hL:L.OK) {T T2 ty el:TypeId} {i:TypeInfo} {z:Value} {g:Option Nat} {zv:V} {kd:IntKind} (ht:P.underlying T=some (.slice el)) (hi:P.info? el=some i) (oA:i.zero=some z) (oN:∀c,RV L c zv z) (iW:zv.ty=g) (gZ:zv.ax=true) (h2:P.underlying T2=some (.int kd)) (cJ:i.size=L.az g) (m0:0 < i.bytes) {k:Nat} (hk:k * i.bytes≤140737488355328):
 Apd P L c w T T2 ty el i g (List.replicate k zv) (.int .i64 k) (Builtin.zeroCells z.cells k).toList:=by
 have tL:=(oN c).aR hL gZ
 rw[iW] at tL
 have BQ:k≤140737488355328:=Nat.le_trans (Nat.le_mul_of_pos_right _ m0) hk
 have fp:bV L c (List.replicate k zv) (Builtin.zeroCells z.cells k).toList:=by
   rw[DY];exact dY ((oN c).cells gZ).1 k
 have bQ:∀y∈List.replicate k zv,y.ty=g∧y.ax=true:=fun y hy=> by rw[List.eq_of_mem_replicate hy];exact ⟨iW,gZ⟩
 have hlen:=q8z hL fp (fun q hq=>(bQ q hq).1)
 have iA:IntKind.i64.wrap (k:Int)=k:=IntWalk.i64_in _ (by omega)
 have yi:¬((k:Int)< 0):=by omega
 have h48:¬((2:Int)^ 48 <(k:Int)*(i.bytes:Int)):=by
   have:((k * i.bytes:Nat):Int)≤140737488355328:=Int.ofNat_le.2 hk
   rw[Int.natCast_mul] at this
   omega
 have h48b:¬((281474976710656:Int)<(k:Int)*(i.bytes:Int)):=by
   have:((k * i.bytes:Nat):Int)≤140737488355328:=Int.ofNat_le.2 hk
   rw[Int.natCast_mul] at this
   omega
 have nu:k * L.az g=0→(Builtin.zeroCells z.cells k)= #[]:=fun h0=> by
   apply Array.eq_empty_of_size_eq_zero
   rw[List.length_replicate] at hlen
   rw[←Array.length_toList,hlen,h0]
 refine ⟨fun base sLen sCap w' hr aP=> ?_,fun z' Ck base sLen sCap olds hold Yz fL hl h63=> ?_,fp,bQ⟩
 ·simp only[List.length_replicate] at hr aP ⊢
  have gC:(match base with | some a=>(storeCells (a.add (sLen * L.az g)) (Builtin.zeroCells z.cells k).toList).run P w | none=> .ok () w)= .ok () w':=by
    have:(Builtin.zeroCells z.cells k).toList.take (k * L.az g)=(Builtin.zeroCells z.cells k).toList:=by
      rw[List.take_of_length_le];rw[hlen];simp
    rwa [this] at aP
  cases base with
  | none=>
    simp only[Result.ok.injEq,true_and] at gC
    subst gC
    by_cases h0:k * L.az g=0
    ·simp[Builtin.append_,run_underlying ht,run_underlying h2,sizeOf,typeInfo,zeroValue,hi,cJ,oA,asInt,asIntOf,iA,yi,h48,h48b,hr,h0]
    ·simp[Builtin.append_,run_underlying ht,run_underlying h2,sizeOf,typeInfo,zeroValue,hi,cJ,oA,asInt,asIntOf,iA,yi,h48,h48b,hr,h0]
  | some a=>
    simp only at gC
    by_cases h0:k * L.az g=0
    ·rw[nu h0] at gC
     simp[Builtin.append_,run_underlying ht,run_underlying h2,sizeOf,typeInfo,zeroValue,hi,cJ,oA,asInt,asIntOf,iA,yi,h48,h48b,hr,h0,gC]
    ·simp[Builtin.append_,run_underlying ht,run_underlying h2,sizeOf,typeInfo,zeroValue,hi,cJ,oA,asInt,asIntOf,iA,yi,h48,h48b,hr,h0,gC]
 ·rw[oA] at Ck
  cases Ck
  simp only[List.length_replicate] at Yz fL hl h63 ⊢
  have hn:¬(sLen+k≤sCap):=by omega
  have h63':¬(9223372036854775807 <((sLen:Int)+(k:Int))):=by omega
  have nH:=growslice_fits (need:=sLen+k) fL hl
  have h48':¬(281474976710656 < Builtin.nextslicecap (sLen+k) sCap * i.bytes):=by omega
  by_cases h0:k * L.az g=0
  ·rw[nu h0]
   simp[Builtin.append_,run_underlying ht,run_underlying h2,sizeOf,typeInfo,zeroValue,hi,cJ,oA,asInt,asIntOf,iA,yi,h48,h48b,hn,h63',h48',Question.forced,hold,newRow,grownCap,h0]
   try (congr 2;apply Array.ext';simp[List.append_assoc])
  ·simp[Builtin.append_,run_underlying ht,run_underlying h2,sizeOf,typeInfo,zeroValue,hi,cJ,oA,asInt,asIntOf,iA,yi,h48,h48b,hn,h63',h48',Question.forced,hold,newRow,grownCap,h0]
   try (congr 2;apply Array.ext';simp[List.append_assoc])
set_option maxHeartbeats 1000000 in
theorem mP (hL:L.OK) (hs:bf L c h w) {T T2 el:TypeId} {i:TypeInfo} {g:Option Nat} {zv:V} (ht:P.underlying T=some (.slice el)) (bQ:TG P L el g) (hi:P.info? el=some i) (hz:er P L el zv) (iW:zv.ty=g) (gZ:zv.ax=true)
 {ty:TypeId} (m0:0 < i.bytes) {x:V} {ux uy:Value} (hx:RV L c x ux) {base:Nat} {v:V} {h':Hp} {gy:Option Nat} {ys:List V} {us:List Value} (src:Apd P L c w T T2 ty el i gy ys uy us) (ah:cU base g i.bytes h x gy ys=some (v,h')):
 aJ L c w ((Builtin.append_ #[T,T2] ty #[ux,uy]).run P w) v h':=by
 obtain ⟨i',vX,pq⟩:=bQ.info
 rw[hi] at vX;cases vX
 obtain ⟨i2,z,pP,oA,oN⟩:=hz
 rw[hi] at pP;cases pP
 have tL:=(oN c).aR hL gZ
 rw[iW] at tL
 have pt:=q8z hL src.rc (fun q hq=>(src.el q hq).1)
 unfold cU at ah
 split at ah
 ·rename_i nu
  subst nu
  obtain ⟨n,hn,he⟩:=Option.map_eq_some_iff.1 ah
  simp only[Prod.mk.injEq] at he
  obtain ⟨rfl,rfl⟩:=he
  obtain ⟨a,k,rfl,lT⟩:=vZ hn hx
  have AF:us=[]:=by simpa[bV] using src.rc
  subst AF
  have bd:=src.room a n k w (by simpa using lT) (by cases a <;> simp[storeCells])
  simp only[List.length_nil,Nat.add_zero] at bd
  exact aJ.same bd hx hs
 rename_i cE
 have gu:0 < ys.length:=List.length_pos_iff.2 cE
 split at ah
 case isFalse=> cases ah
 rename_i hgy
 subst hgy
 have PZ:∀n,n * i.bytes≤140737488355328→n≤140737488355328:=fun n hn=> by
   have:=Nat.le_mul_of_pos_right n m0;omega
 have grow:∀(es:List V) (a:Option Addr) (sCap:Nat) (olds:List Value),bV L c es olds→(∀q∈es,q.ty=gy∧q.ax=true)→(Builtin.firstCells (L.az gy) es.length (.slice a es.length sCap)).run P w.drew= .ok olds.toArray w.drew→sCap < es.length+ys.length→(es.length+ys.length)* i.bytes≤140737488355328→
  ∃(l:Loc) (k:Nat) (w':World),(Builtin.append_ #[T,T2] ty #[.slice a es.length sCap,uy]).run P w= .ok (.slice (some ⟨l.bu,0,none⟩) (es.length+ys.length) k) w'∧l.bu=w.heap.size∧l.cap=k∧l.tag=gy∧l.aw=es.length+ys.length∧es.length+ys.length≤k∧St w w'∧
   w'=w.drew.alloc (.cells (olds++us++(Builtin.zeroCells z.cells (k - (es.length+ys.length))).toList).toArray el):=by
   intro es a sCap olds ou cO hold bW mN
   have bd:=src.grow z oA a es.length sCap olds hold pt bW mN (by have:=PZ _ mN;omega)
   exact ⟨⟨w.heap.size,_,gy,es.length+ys.length⟩,_,_,bd,rfl,rfl,rfl,rfl,tN w _ _ _,(St.drew w).trans (St.alloc _ _),rfl⟩
 split at ah
 ·rename_i g' es
  split at ah
  case isFalse=> cases ah
  rename_i hc
  obtain ⟨rfl,mN⟩:=hc
  simp only[Option.some.injEq,Prod.mk.injEq] at ah
  obtain ⟨rfl,rfl⟩:=ah
  obtain ⟨a,k0,rfl,h1,Cg,cO,fy⟩:=cV.1 hx
  have hk0:=Cg rfl
  subst hk0
  obtain ⟨olds,so⟩:=nm (P:=P) hL hs hx (g:=g') (ys:=es) (by simp[source,elems])
  have ou:=so.rc
  have qO:=q8z hL ou (fun q hq=>(cO q hq).1)
  have hold:=so.first w.drew es.length rfl (Nat.le_refl _)
  rw[←qO,List.take_length] at hold
  obtain ⟨l,k,w',bd,hb,fM,bZ,cD,hnk,aP,lK⟩:=grow es a es.length olds ou cO hold (by omega) mN
  have cK:bV L c (es++ys) (olds++us):=dX.2 ⟨_,_,rfl,ou,src.rc⟩
  obtain ⟨l2,xA,uY,Cc,No,dh,By⟩:=i5 hL hs.drew cK (fun q hq=> by rcases List.mem_append.1 hq with hq | hq;exact cO q hq;exact src.el q hq) k (Builtin.zeroCells z.cells (k - (es.length+ys.length))).toList
    (by
      simp only[List.length_append,qO,pt,Array.length_toList,size_zeroCells]
      simp only[Array.length_toList] at tL
      rw[tL,←Nat.add_mul,←Nat.add_mul];congr 1;omega) (by simpa using hnk) el (0,0) ⟨by intro j hj;omega,fun _=> rfl⟩
  refine ⟨_,c.push l2,w',bd,?_,by rw[lK];exact dh,c.gK l2,aP⟩
  have vU:l.bu=l2.bu:=by rw[hb,xA];rfl
  rw[vU]
  have:=eS (es:=es++ys) hL dh By Cc No k (by simpa using hnk) (by omega)
  simpa using this
 ·rename_i id g' off len aw
  split at ah
  case h_2=> cases ah
  rename_i g'' es ck
  split at ah
  case isFalse=> cases ah
  rename_i hc
  obtain ⟨rfl,rfl,fk⟩:=hc
  obtain ⟨l,hl,cD,bZ,hz,lW,xA,hb3,cO,us0,ty0,fz0,hg,cJ,df,fp⟩:=hs.row ck
  have nG:=(q16z ck).2
  obtain ⟨he,k,rfl,lT,hm⟩:=dI hx hl cD (path:=[]) (o:=0) (e:=l.tag) (m:=none) rfl
  simp only[Nat.zero_add] at lT hm ⊢
  simp only[eM] at hm
  obtain ⟨qz,qx,Hy⟩:=hm
  have fS:∀n,n≤l.cap→n * L.az g''≤us0.size:=fun n hn=> by rw[cJ];exact Nat.mul_le_mul_right _ hn
  have mQ:∀n,n+ys.length≤l.cap→(storeCells (⟨l.bu,n * L.az g'',none⟩:Addr) (us.take (ys.length * L.az g''))).run P w= .ok () (w.setCells l.bu (n * L.az g'') us):=by
    intro n hn
    rw[←pt,List.take_length]
    have nH:n * L.az g''+us.length≤us0.size:=by rw[pt,←Nat.add_mul];exact fS _ hn
    have vW:∀q∈us,q.oneCell'=true:=dr (fun v _=> dR v) (fun v hv=>(src.el v hv).2) us src.rc
    have:=run_storeCells_cells (P:=P) l.bu (n * L.az g'') us 0 w (fun j hj=> by rw[q15z hg];simp;omega) (fun j hj=> eo hg df.1 (by omega)) vW
    simpa using this
  split at ah
  ·rename_i nH
   simp only[Option.some.injEq,Prod.mk.injEq] at ah
   obtain ⟨rfl,rfl⟩:=ah
   have fL:len+ys.length≤k:=by omega
   have uY:off+len+ys.length≤l.cap:=by omega
   have nR:(off+len)* L.az g''+us.length≤us0.size:=by rw[pt,←Nat.add_mul];exact fS _ uY
   have bd:=src.room (some ⟨l.bu,off * L.az g'',none⟩) len k (w.setCells l.bu ((off+len)* L.az g'') us) fL
     (by simp only[eC,←Nat.add_mul];exact mQ _ uY)
   have iw:=mE hL fp src.rc (fun q hq=>(cO q hq).1) (fun q hq=>(src.el q hq).1) (n:=off+len) (by omega)
   have wL:(es.take (off+len)++ys++es.drop (off+len+ys.length)).length=es.length:=by simp;omega
   have AG:lay (us0.toList.take (es.length * L.az g'')) ((off+len)* L.az g'') us=(lay us0.toList ((off+len)* L.az g'') us).take (es.length * L.az g''):=
     (mF _ _ _ _ (by rw[pt,←Nat.add_mul];exact Nat.mul_le_mul_right _ (by omega)) (by have:=fS _ hb3;simpa using this)).symm
   rw[AG] at iw
   obtain ⟨l',dv,dh,hle,vR⟩:=iL hL hs hl bZ hz hg df cJ (es':=es.take (off+len)++ys++es.drop (off+len+ys.length)) (fun q hq=> by
     rcases List.mem_append.1 hq with hq | hq
     ·rcases List.mem_append.1 hq with hq | hq
      ·exact cO q (List.mem_of_mem_take hq)
      ·exact src.el q hq
     ·exact cO q (List.mem_of_mem_drop hq)) (by omega) (by omega) nR (by rw[wL];exact iw)
   refine ⟨_,_,_,bd,?_,dh,hle,St.setCells _ _ _ _⟩
   have:=mG dh (id:=id) (aw:=aw) (off:=off) (len:=len+ys.length) (k:=k) (path:=[]) (m:=none) (o:=0) (e:=l'.tag) vR (by rw[dv];simp;omega) rfl fL (by subst dv;simp only[eM];omega)
   subst dv
   simp only[Nat.zero_add,bZ] at this ⊢
   exact this
  ·rename_i YY
   split at ah
   case isFalse=> cases ah
   rename_i hc
   simp only[Option.some.injEq,Prod.mk.injEq] at ah
   obtain ⟨rfl,rfl⟩:=ah
   obtain ⟨rfl,rfl,mN⟩:=hc
   simp only[Nat.zero_mul] at ⊢
   have cK:bV L c (es++ys) (us0.toList.take (es.length * L.az g'')++us):=dX.2 ⟨_,_,rfl,fp,src.rc⟩
   have jM:∀q∈es++ys,q.ty=g''∧q.ax=true:=fun q hq=> by rcases List.mem_append.1 hq with hq | hq;exact cO q hq;exact src.el q hq
   by_cases fL:len+ys.length≤k
   ·have uY:len+ys.length≤l.cap:=by omega
    have nR:len * L.az g''+us.length≤us0.size:=by rw[pt,←Nat.add_mul];exact fS _ uY
    have bd:=src.room (some ⟨l.bu,0,none⟩) len k (w.setCells l.bu (len * L.az g'') us) fL
      (by simp only[eC,Nat.zero_add];exact mQ _ uY)
    obtain ⟨l',dv,dh,hle,vR⟩:=iL hL hs hl bZ hz hg df cJ (es':=es++ys) jM (by simp;omega) (by simp;omega) nR (by
      rw[gJ (by simpa using nR) (by rw[List.length_append,pt,Nat.add_mul,nG])]
      rw[←nG];exact cK)
    refine ⟨_,_,_,bd,?_,dh,hle,St.setCells _ _ _ _⟩
    have:=mG dh (id:=id) (aw:=len+ys.length) (off:=0) (len:=len+ys.length) (k:=k) (path:=[]) (m:=none) (o:=0) (e:=l'.tag) vR (by rw[dv];simp;omega) rfl fL (by subst dv;simp only[eM];omega)
    subst dv
    simp only[Nat.zero_add,Nat.zero_mul,bZ] at this ⊢
    exact this
   ·have ou:bV L c es (us0.toList.take (es.length * L.az g'')):=fp
    have qO:=q8z hL ou (fun q hq=>(cO q hq).1)
    obtain ⟨olds,so⟩:=nm (P:=P) hL hs hx (g:=g'') (ys:=es) (by
      have Nw:=ck
      rw[←nG] at Nw
      simp[source,elems,rowAt,←nG,Nw])
    have ou:=so.rc
    have qO:=q8z hL ou (fun q hq=>(cO q hq).1)
    have hold:=so.first w.drew es.length rfl (Nat.le_refl _)
    rw[←qO,List.take_length] at hold
    have V9:len=es.length:=by omega
    subst V9
    simp only[Nat.zero_add,Nat.zero_mul] at hold
    obtain ⟨l3,k3,w',bd,Hg,Wa,xQ,Nx,hnk,aP,lK⟩:=grow es (some ⟨l.bu,0,none⟩) k olds ou cO hold (by omega) mN
    have Wb:bV L c (es++ys) (olds++us):=dX.2 ⟨_,_,rfl,ou,src.rc⟩
    have hle:c.le (c.move id l3):=Ctx.vQ c id l l3 hl (by rw[bZ,xQ]) (by omega) (fun he=> by omega)
    have hzn:c.z l3.bu=none:=by rw[Hg];exact hs.qI
    have dh:bf L (c.move id l3) (h.set id (.cells g'' (es++ys))) w':=by
      refine hs.move hl _ hle hzn (Or.inr (by omega)) (fun b hb tI=> ?_) (fun o' jN=> by rw[hz] at jN;cases jN) ?_
      ·rw[lK];exact gU (w:=w.drew) hb
      ·refine ⟨xQ,by simp[Nx],by simp;omega,jM,(olds++us++(Builtin.zeroCells z.cells (k3 - (es.length+ys.length))).toList).toArray,el,(0,0),?_,?_,⟨by intro j hj;omega,fun _=> rfl⟩,?_⟩
       ·rw[lK,Hg];exact iV (w:=w.drew)
       ·simp only[List.size_toArray,List.length_append,qO,pt,Array.length_toList,size_zeroCells]
        simp only[Array.length_toList] at tL
        rw[tL,←Nat.add_mul,←Nat.add_mul,Wa];congr 1;omega
       ·have:((olds++us++(Builtin.zeroCells z.cells (k3 - (es.length+ys.length))).toList).take ((es++ys).length * L.az g''))=olds++us:=by
          rw[List.take_append_of_le_length (by simp only[List.length_append,qO,pt,Nat.add_mul];omega),List.take_of_length_le (by simp only[List.length_append,qO,pt,Nat.add_mul];omega)]
        simp only[List.toList_toArray,this]
        exact Wb.mono hle
    have vR:(c.move id l3).loc id=some l3:=by simp[Ctx.move]
    refine ⟨_,_,_,bd,?_,dh,hle,aP⟩
    have:=mG dh (id:=id) (aw:=es.length+ys.length) (off:=0) (len:=es.length+ys.length) (k:=k3) (path:=[]) (m:=none) (o:=0) (e:=l3.tag) vR Nx rfl hnk (by simp only[eM];omega)
    simpa only[Nat.zero_add,Nat.zero_mul,xQ] using this
 ·cases ah
theorem Ax (hL:L.OK) (hs:bf L c h w) {T T2 el:TypeId} {i:TypeInfo} {g:Option Nat} {zv:V} (ht:P.underlying T=some (.slice el)) (bQ:TG P L el g) (hi:P.info? el=some i) (hz:er P L el zv) (iW:zv.ty=g) (gZ:zv.ax=true)
 (h2:(∃e2,P.underlying T2=some (.slice e2))∨P.underlying T2=some .string) {ty:TypeId} (m0:0 < i.bytes) {x y:V} {ux uy:Value} (hx:RV L c x ux) (hy:RV L c y uy) {base:Nat} {v:V} {h':Hp} (ah:nI base h g i.bytes x y=some (v,h')):
 aJ L c w ((Builtin.append_ #[T,T2] ty #[ux,uy]).run P w) v h':=by
 simp only[nI] at ah
 obtain ⟨⟨gy,ys⟩,kY,ah⟩:=Option.bind_eq_some_iff.1 ah
 simp only at ah
 obtain ⟨us,src⟩:=nm (P:=P) hL hs hy kY
 obtain ⟨i',vX,pq⟩:=bQ.info
 rw[hi] at vX;cases vX
 by_cases hg:gy=g
 ·subst hg
  exact mP hL hs ht bQ hi hz iW gZ m0 hx (src.apd ht hi h2 pq) ah
 ·unfold cU at ah
  split at ah
  ·rename_i nu
   subst nu
   have AF:us=[]:=by simpa[bV] using src.rc
   subst AF
   have src':Src P L c w g [] uy []:=⟨src.len,fun w' n hw hn=> by
     obtain rfl:n=0:=by simpa using hn
     have:=src.first w' 0 hw (by simp)
     simp only[Nat.zero_mul,List.take_zero] at this ⊢
     cases uy <;> simp_all [Builtin.firstCells,loadCells,loadCellsFrom],src.rc,by simp⟩
   exact mP hL hs ht bQ hi hz iW gZ m0 hx (src'.apd ht hi h2 pq) (base:=base) (by unfold cU;rw[if_pos rfl];exact ah)
  ·simp[hg] at ah
theorem P0 (hL:L.OK) (hs:bf L c h w) {T T2 el:TypeId} {i:TypeInfo} {g:Option Nat} {zv:V} {kd:IntKind} (ht:P.underlying T=some (.slice el)) (bQ:TG P L el g) (hi:P.info? el=some i) (hz:er P L el zv) (iW:zv.ty=g) (gZ:zv.ax=true)
 (h2:P.underlying T2=some (.int kd)) {ty:TypeId} (m0:0 < i.bytes) {x y:V} {ux uy:Value} (hx:RV L c x ux) (hy:RV L c y uy) {base:Nat} {v:V} {h':Hp} (ah:ub base h g i.bytes zv x y=some (v,h')):
 aJ L c w ((Builtin.append_ #[T,T2] ty #[ux,uy]).run P w) v h':=by
 unfold ub at ah
 split at ah
 case h_2=> cases ah
 rename_i k
 split at ah
 case isFalse=> cases ah
 rename_i hc
 obtain ⟨hk0,hk⟩:=hc
 obtain ⟨rfl,_⟩:=bx.1 hy
 obtain ⟨i',vX,pq⟩:=bQ.info
 rw[hi] at vX;cases vX
 obtain ⟨n,rfl⟩:=Int.eq_ofNat_of_zero_le hk0
 simp only[Int.toNat_natCast] at ah hk
 obtain ⟨i2,z,pP,oA,oN⟩:=id hz
 rw[hi] at pP;cases pP
 exact mP hL hs ht bQ hi hz iW gZ m0 hx (DZ hL ht hi oA oN iW gZ h2 pq m0 hk) ah
end Go.Vm
namespace Go.Vm
variable {P : Program} {L : cu} {c : Ctx} {h : Hp} {w : World}
theorem yj {T T2 el:TypeId} (ht:P.underlying T=some (.slice el)) {ty:TypeId} {g:Option Nat} (bQ:TG P L el g)
 {base:Option Addr} {dLen dCap:Nat} {u:Value} {ys:List V} {us:List Value} (kY:Src P L c w g ys u us) (w':World)
 (aP:(match base with | some a=>(storeCells a (us.take (Nat.min ys.length dLen * L.az g))).run P w | none=> .ok () w)= .ok () w'):
 (Builtin.copy_ #[T,T2] ty #[.slice base dLen dCap,u]).run P w= .ok (.int .i64 (Nat.min ys.length dLen:Nat)) w':=by
 have hf:=kY.first w (Nat.min ys.length dLen) rfl (Nat.min_le_left _ _)
 cases base with
 | none=>
   simp only[Result.ok.injEq,true_and] at aP
   subst aP
   simp[Builtin.copy_,run_underlying ht,bQ.sizeOf,kY.len,hf,goInt]
 | some a=>
   simp only at aP
   simp[Builtin.copy_,run_underlying ht,bQ.sizeOf,kY.len,hf,aP,goInt]
theorem P1 (hL:L.OK) (hs:bf L c h w) {T T2 el:TypeId} {g:Option Nat} (ht:P.underlying T=some (.slice el)) (bQ:TG P L el g)
 {ty:TypeId} {x y:V} {ux uy:Value} (hx:RV L c x ux) (hy:RV L c y uy) {base:Nat} {v:V} {h':Hp} (ah:Ir base h g x y=some (v,h')):
 aJ L c w ((Builtin.copy_ #[T,T2] ty #[ux,uy]).run P w) v h':=by
 simp only[Ir] at ah
 obtain ⟨⟨gy,ys⟩,kY,ah⟩:=Option.bind_eq_some_iff.1 ah
 simp only at ah
 obtain ⟨us,src⟩:=nm (P:=P) hL hs hy kY
 have pt:=q8z hL src.rc (fun q hq=>(src.el q hq).1)
 unfold xS at ah
 split at ah
 ·rename_i id i p g' off len aw YA
  clear YA
  split at ah
  case h_2=> cases ah
  rename_i t es nP
  split at ah
  case isFalse=> cases ah
  rename_i hc
  obtain ⟨rfl,rfl,nH,fk⟩:=hc
  obtain ⟨h1,aP,he⟩:=Option.map_eq_some_iff.1 ah
  simp only[Prod.mk.injEq] at he
  obtain ⟨rfl,rfl⟩:=he
  obtain ⟨l,j,p',o,us0,ty0,fz0,hjp,hl,cD,ig,⟨o',lK⟩,hg,hz,df,hle,hr⟩:=hs.nodeAt hL nP
  have hr0:=hr
  simp only[RC] at hr
  obtain ⟨hr,e,ha,cO⟩:=hr
  have cJ:L.az (V.ty (.arr t es))=es.length * L.az e:=by simp[V.ty,cu.az,hL.ar _ _ _ ha]
  rw[cJ] at hr hle
  have ck:L.row l.tag (i::p)=some (o,e,some es.length):=by
    rw[hjp] at ig ⊢
    simp only[cu.off,lK,Option.map_some,Option.some.injEq] at ig
    simp only[cu.row,lK,V.ty,ha,Option.map_some,ig]
  obtain ⟨rfl,k,rfl,lT,hm⟩:=dI hx hl cD ck
  have hm:off+k=es.length:=hm
  have lX:min ys.length len≤ys.length:=Nat.min_le_left _ _
  have hnr:min ys.length len≤len:=Nat.min_le_right _ _
  have AH:=(eN hL src.rc (fun q hq=>(src.el q hq).1) (min ys.length len) lX).1
  have Cm:(us.take (min ys.length len * L.az e)).length=min ys.length len * L.az e:=by
    rw[List.length_take,pt];exact Nat.min_eq_left (Nat.mul_le_mul_right _ lX)
  have Wc:off * L.az e+(us.take (min ys.length len * L.az e)).length≤es.length * L.az e:=by
    rw[Cm,←Nat.add_mul];exact Nat.mul_le_mul_right _ (by omega)
  have nR:o+off * L.az e+(us.take (min ys.length len * L.az e)).length≤us0.size:=by omega
  have vW:∀q∈us.take (min ys.length len * L.az e),q.oneCell'=true:=fun q hq=> dr (fun v _=> dR v) (fun v hv=>(src.el v hv).2) us src.rc q (List.mem_of_mem_take hq)
  have mQ:(storeCells (⟨l.bu,o+off * L.az e,none⟩:Addr) (us.take (min ys.length len * L.az e))).run P w= .ok () (w.setCells l.bu (o+off * L.az e) (us.take (min ys.length len * L.az e))):=by
    have:=run_storeCells_cells (P:=P) l.bu (o+off * L.az e) (us.take (min ys.length len * L.az e)) 0 w (fun j hj=> by rw[q15z hg];simp;omega) (fun j hj=> eo hg df (by omega)) vW
    simpa using this
  have bd:=yj (w:=w) (T2:=T2) (ty:=ty) ht bQ (base:=some ⟨l.bu,o+off * L.az e,none⟩) (dLen:=len) (dCap:=k) src _ mQ
  have tE:(ys.take (min ys.length len)).length=min ys.length len:=by simp
  have iw:=mE hL hr AH (fun q hq=>(cO q hq).1) (fun q hq=>(src.el q (List.mem_of_mem_take hq)).1) (n:=off) (by omega)
  rw[tE] at iw
  have wL:(es.take off++ys.take (min ys.length len)++es.drop (off+min ys.length len)).length=es.length:=by simp only[List.length_append,List.length_take,List.length_drop];omega
  have kU:RC L c (.arr t (es.take off++ys.take (min ys.length len)++es.drop (off+min ys.length len))) (lay ((us0.toList.drop o).take (es.length * L.az e)) (off * L.az e) (us.take (min ys.length len * L.az e))):=by
    simp only[RC]
    refine ⟨iw,e,by rw[wL];exact ha,fun q hq=> ?_⟩
    rcases List.mem_append.1 hq with hq | hq
    ·rcases List.mem_append.1 hq with hq | hq
     ·exact cO q (List.mem_of_mem_take hq)
     ·exact src.el q (List.mem_of_mem_take hq)
    ·exact cO q (List.mem_of_mem_drop hq)
  have i4:=dx l.bu ty0 fz0 (us.take (min ys.length len * L.az e)) (o+off * L.az e) us0 w hg nR
  rw[rC us0.toList _ o (es.length * L.az e) (off * L.az e) (by simpa using hle) Wc] at i4
  have dh:=Ch hL hs nP aP kU rfl rfl hl ig hg df (by rw[cJ];exact hle) i4 (fun k hk=> q13z l.bu _ _ _ k hk)
  exact ⟨_,_,_,bd,bx.2 ⟨rfl,rfl⟩,dh,Ctx.le_refl c,St.setCells _ _ _ _⟩
 rename_i hnp
 unfold copyV at ah
 split at ah
 case h_2=> cases ah
 rename_i id g' off len aw _
 split at ah
 case h_2=> cases ah
 rename_i g'' es ck
 split at ah
 case isFalse=> cases ah
 rename_i hc
 simp only[Option.some.injEq,Prod.mk.injEq] at ah
 obtain ⟨rfl,rfl⟩:=ah
 obtain ⟨rfl,rfl,rfl,nH,fk⟩:=hc
 obtain ⟨l,hl,cD,bZ,hz,lW,xA,hb3,cO,us0,ty0,fz0,hg,cJ,df,fp⟩:=hs.row ck
 have nG:=(q16z ck).2
 obtain ⟨he,k,rfl,lT,hm⟩:=dI hx hl cD (path:=[]) (o:=0) (e:=l.tag) (m:=none) rfl
 simp only[Nat.zero_add] at lT hm ⊢
 have C8:min ys.length len=Nat.min ys.length len:=rfl
 have lX:min ys.length len≤ys.length:=Nat.min_le_left _ _
 have hnr:min ys.length len≤len:=Nat.min_le_right _ _
 have AH:=(eN hL src.rc (fun q hq=>(src.el q hq).1) (min ys.length len) lX).1
 have Cm:(us.take (min ys.length len * L.az g'')).length=min ys.length len * L.az g'':=by
   rw[List.length_take,pt];exact Nat.min_eq_left (Nat.mul_le_mul_right _ lX)
 have fS:∀n,n≤l.cap→n * L.az g''≤us0.size:=fun n hn=> by rw[cJ];exact Nat.mul_le_mul_right _ hn
 have nR:off * L.az g''+(us.take (min ys.length len * L.az g'')).length≤us0.size:=by rw[Cm,←Nat.add_mul];exact fS _ (by omega)
 have vW:∀q∈us.take (min ys.length len * L.az g''),q.oneCell'=true:=fun q hq=> dr (fun v _=> dR v) (fun v hv=>(src.el v hv).2) us src.rc q (List.mem_of_mem_take hq)
 have mQ:(storeCells (⟨l.bu,off * L.az g'',none⟩:Addr) (us.take (min ys.length len * L.az g''))).run P w= .ok () (w.setCells l.bu (off * L.az g'') (us.take (min ys.length len * L.az g''))):=by
   have:=run_storeCells_cells (P:=P) l.bu (off * L.az g'') (us.take (min ys.length len * L.az g'')) 0 w (fun j hj=> by rw[q15z hg];simp;omega) (fun j hj=> eo hg df.1 (by omega)) vW
   simpa using this
 have bd:=yj (w:=w) (T2:=T2) (ty:=ty) ht bQ (base:=some ⟨l.bu,off * L.az g'',none⟩) (dLen:=len) (dCap:=k) src _ mQ
 have tE:(ys.take (min ys.length len)).length=min ys.length len:=by simp
 have iw:=mE hL fp AH (fun q hq=>(cO q hq).1) (fun q hq=>(src.el q (List.mem_of_mem_take hq)).1) (n:=off) (by omega)
 rw[tE] at iw
 have wL:(es.take off++ys.take (min ys.length len)++es.drop (off+min ys.length len)).length=es.length:=by simp only[List.length_append,List.length_take,List.length_drop];omega
 have AG:lay (us0.toList.take (es.length * L.az g'')) (off * L.az g'') (us.take (min ys.length len * L.az g''))=(lay us0.toList (off * L.az g'') (us.take (min ys.length len * L.az g''))).take (es.length * L.az g''):=
   (mF _ _ _ _ (by rw[Cm,←Nat.add_mul];exact Nat.mul_le_mul_right _ (by omega)) (by have:=fS _ hb3;simpa using this)).symm
 rw[AG] at iw
 obtain ⟨l',dv,dh,hle,vR⟩:=iL hL hs hl bZ hz hg df cJ (es':=es.take off++ys.take (min ys.length len)++es.drop (off+min ys.length len)) (fun q hq=> by
   rcases List.mem_append.1 hq with hq | hq
   ·rcases List.mem_append.1 hq with hq | hq
    ·exact cO q (List.mem_of_mem_take hq)
    ·exact src.el q (List.mem_of_mem_take hq)
   ·exact cO q (List.mem_of_mem_drop hq)) (by omega) (by omega) nR (by rw[wL];exact iw)
 exact ⟨_,_,_,bd,bx.2 ⟨rfl,rfl⟩,dh,hle,St.setCells _ _ _ _⟩
theorem yk (hL:L.OK) {r:Result Value} {v:V} {h1:Hp} (hd:aJ L c w r v h1) {v':V} {h':Hp} (ah:qA (v,h1)=some (v',h')):aJ L c w r v' h':=by
 obtain ⟨u,c1,w1,hr,hx,hs,hle,aP⟩:=hd
 unfold qA at ah
 simp only at ah
 split at ah
 case h_3=> cases ah
 ·cases ah
  obtain ⟨a,k,e1,e2,_,e3⟩:=cV.1 hx
  exact ⟨u,c1,w1,hr,cV.2 ⟨a,k,e1,e2,(fun hf=> by cases hf),e3⟩,hs,hle,aP⟩
 rename_i id g' len aw
 split at ah
 case h_2=> cases ah
 rename_i g es ck
 split at ah
 case isFalse=> cases ah
 rename_i hc
 simp only[Option.some.injEq,Prod.mk.injEq] at ah
 obtain ⟨rfl,rfl⟩:=ah
 obtain ⟨rfl,rfl⟩:=hc
 obtain ⟨l,hl,cD,bZ,hz,lW,xA,hb3,cO,us0,ty0,fz0,hg,cJ,df,fp⟩:=hs.row ck
 have nG:=(q16z ck).2
 obtain ⟨he,k,rfl,lT,hm⟩:=dI hx hl cD (path:=[]) (o:=0) (e:=l.tag) (m:=none) rfl
 have dh:=hs.die hl (w':=w1) (fun _ _=> rfl) hg
 refine ⟨_,_,w1,hr,?_,dh,hle.trans (c1.oE _ _ _ hz),aP⟩
 refine cV.2 ⟨_,k,by rw[nG];simp,by omega,(fun hf=> by cases hf),cO,Or.inr ⟨l.bu,0,us0,ty0,fz0,rfl,by simp[Ctx.die],?_⟩⟩
 simpa[ng] using fp.mono (c1.oE id l.bu (.cells us0 ty0 fz0) hz)
theorem Lv (hL:L.OK) (hs:bf L c h w) {T el:TypeId} (ht:P.underlying T=some (.slice el)) (wb:P.underlying el=some (.int .u8)) {id len aw:Nat} {g':Option Nat} {ux:Value} (hx:RV L c (.ref id [] g' 0 len aw) ux) {v:V} {h':Hp} (ah:Iq h id g' len aw=some (v,h')):
 aJ L c w ((convert T T ux).run P w) v h':=by
 unfold Iq at ah
 split at ah
 case h_2=> cases ah
 rename_i g es zR
 split at ah
 case isFalse=> cases ah
 rename_i hc
 simp only[Option.some.injEq,Prod.mk.injEq] at ah
 obtain ⟨rfl,rfl⟩:=ah
 obtain ⟨rfl,nG,rfl⟩:=hc
 rcases hs.live id _ zR with ⟨l,hl⟩ | h'
 case inr=> cases h'
 obtain ⟨k,h1,hz,h3⟩:=hs.loc id l hl
 rw[zR] at h1;cases h1
 obtain ⟨bZ,cD,fM,cO,us0,ty0,fz0,hg,cJ,df,fp⟩:=h3
 have cD:=cD.trans nG
 obtain ⟨he,k,rfl,lT,hm⟩:=dI hx hl cD (path:=[]) (o:=0) (e:=l.tag) (m:=none) rfl
 simp only[Nat.zero_add,Nat.zero_mul] at lT hm ⊢
 have sV:w.shape? l.bu=some (ty0,us0.size):=by simp[World.shape?,hg]
 have bd:(convert T T (.slice (some ⟨l.bu,0,none⟩) len k)).run P w= .ok (.slice (some ⟨l.bu,0,none⟩) len k) (w.freeze ⟨l.bu,us0.size,none⟩ 1):=by
   simp[convert,run_underlying ht,run_underlying wb,markStringish,sV]
 have i4:∃fz,(w.freeze ⟨l.bu,us0.size,none⟩ 1).heap[l.bu]? =some (.cells us0 ty0 fz):=by
   simp[World.freeze,Array.getElem?_modify,hg]
 obtain ⟨fz,i4⟩:=i4
 have AI:∀b,b≠l.bu→(w.freeze ⟨l.bu,us0.size,none⟩ 1).heap[b]? =w.heap[b]? :=fun b hb=> by
   simp[World.freeze,Array.getElem?_modify,Ne.symm hb]
 have dh:=hs.die hl AI i4
 refine ⟨_,_,_,bd,?_,dh,c.oE _ _ _ hz,⟨rfl,rfl,rfl,by simp[World.freeze]⟩⟩
 refine cV.2 ⟨_,k,by rw[nG],by omega,(fun _=> by simp only[eM] at hm;omega),cO,Or.inr ⟨l.bu,0,us0,ty0,fz,rfl,by simp[Ctx.die],?_⟩⟩
 simpa[ng] using fp.mono (c.oE id l.bu (.cells us0 ty0 fz) hz)
theorem P2 (hL:L.OK) (hs:bf L c h w) {T el:TypeId} (ht:P.underlying T=some (.slice el)) (wb:P.underlying el=some (.int .u8)) {x:V} {ux:Value} (hx:RV L c x ux) {v:V} {h':Hp} (ah:uM h x=some (v,h')):
 aJ L c w ((convert T T ux).run P w) v h':=by
 unfold uM at ah
 split at ah
 case h_2=> cases ah
 rename_i id g' len aw
 split at ah
 case h_2=> exact Lv hL hs ht wb hx ah
 rename_i g es ck
 split at ah
 case isFalse=> cases ah
 rename_i hc
 simp only[Option.some.injEq,Prod.mk.injEq] at ah
 obtain ⟨rfl,rfl⟩:=ah
 obtain ⟨rfl,rfl⟩:=hc
 obtain ⟨l,hl,cD,bZ,hz,lW,xA,hb3,cO,us0,ty0,fz0,hg,cJ,df,fp⟩:=hs.row ck
 have nG:=(q16z ck).2
 obtain ⟨he,k,rfl,lT,hm⟩:=dI hx hl cD (path:=[]) (o:=0) (e:=l.tag) (m:=none) rfl
 simp only[Nat.zero_add,Nat.zero_mul] at lT hm ⊢
 have sV:w.shape? l.bu=some (ty0,us0.size):=by simp[World.shape?,hg]
 have bd:(convert T T (.slice (some ⟨l.bu,0,none⟩) len k)).run P w= .ok (.slice (some ⟨l.bu,0,none⟩) len k) (w.freeze ⟨l.bu,us0.size,none⟩ 1):=by
   simp[convert,run_underlying ht,run_underlying wb,markStringish,sV]
 have i4:∃fz,(w.freeze ⟨l.bu,us0.size,none⟩ 1).heap[l.bu]? =some (.cells us0 ty0 fz):=by
   simp[World.freeze,Array.getElem?_modify,hg]
 obtain ⟨fz,i4⟩:=i4
 have AI:∀b,b≠l.bu→(w.freeze ⟨l.bu,us0.size,none⟩ 1).heap[b]? =w.heap[b]? :=fun b hb=> by
   simp[World.freeze,Array.getElem?_modify,Ne.symm hb]
 have dh:=hs.die hl AI i4
 refine ⟨_,_,_,bd,?_,dh,c.oE _ _ _ hz,⟨rfl,rfl,rfl,by simp[World.freeze]⟩⟩
 refine cV.2 ⟨_,k,by rw[nG],by omega,(fun hf=> by cases hf),cO,Or.inr ⟨l.bu,0,us0,ty0,fz,rfl,by simp[Ctx.die],?_⟩⟩
 simpa[ng] using fp.mono (c.oE id l.bu (.cells us0 ty0 fz) hz)
theorem P3 (hs:bf L c h w) {S T:TypeId} {k:IntKind} (hT:P.underlying T=some (.int k)) (hS:∃d,P.underlying S=some d) {x:V} {ux:Value} (hx:RV L c x ux) {v:V} {h':Hp} (ah:uQ h k x=some (v,h')):
 aJ L c w ((convert S T ux).run P w) v h':=by
 simp only[uQ] at ah
 obtain ⟨n,hn,ah⟩:=Option.bind_eq_some_iff.1 ah
 simp only[jv,Option.some.injEq,Prod.mk.injEq] at ah
 obtain ⟨rfl,rfl⟩:=ah
 obtain ⟨k',rfl⟩:=iZ hn hx
 obtain ⟨d,hd⟩:=hS
 refine aJ.same (u:= .int k (k.wrap n)) ?_ (bx.2 ⟨rfl,rfl⟩) hs
 simp[convert,run_underlying hT,run_underlying hd,Conv.intToInt]
theorem wc (ns:List Int):strOfNums ns=⟨(ns.map fun n=> UInt8.ofNat n.toNat).toArray⟩:=by
 simp[strOfNums]
theorem P4 (hL:L.OK) (hs:bf L c h w) {S T el:TypeId} (hS:P.underlying S=some (.slice el)) (wb:P.underlying el=some (.int .u8)) (hT:P.underlying T=some .string) {x:V} {ux:Value} (hx:RV L c x ux) {v:V} {h':Hp} (ah:uR h x=some (v,h')):
 aJ L c w ((convert S T ux).run P w) v h':=by
 simp only[uR] at ah
 obtain ⟨⟨g,es⟩,he,ah⟩:=Option.bind_eq_some_iff.1 ah
 obtain ⟨l,hl,ah⟩:=Option.bind_eq_some_iff.1 ah
 simp only[jv,Option.some.injEq,Prod.mk.injEq] at ah
 obtain ⟨rfl,rfl⟩:=ah
 obtain ⟨a,k,rfl,lT,bQ,fy⟩:=ph hL hs hx he
 simp only at hl
 rcases fy with rfl | ⟨b,o,us,ty,fz,rfl,hg,hr⟩
 ·simp only[bytesOf,Option.some.injEq] at hl
  subst hl
  refine aJ.same (u:= .string ⟨#[]⟩) ?_ (bx.2 ⟨rfl,rfl⟩) hs
  show (convert S T (.slice a 0 k)).run P w=_
  rw[run_convert_bytes_string w S T el a 0 k hS wb hT]
  cases a <;> simp[Conv.bytesToString,loadCells,loadCellsFrom]<;> rfl
 ·obtain ⟨ns,hns,lX,rfl⟩:=jO es l _ hl hr
  have cS:es≠[]→L.az g=1:=fun cE=> by
    obtain ⟨y,hy⟩:=List.exists_mem_of_ne_nil es cE
    have:=congrArg List.length hns
    have h2:=q8z hL hr (fun q hq=>(bQ q hq).1)
    have gu:0 < es.length:=List.length_pos_iff.2 cE
    rw[h2,List.length_map,lX] at this
    exact Nat.eq_of_mul_eq_mul_left gu (by omega)
  have xR:=nd hL hg hr (fun q hq=>(bQ q hq).1)
  rw[hns] at xR
  have bd:=run_convert_bytes_arg (P:=P) w S el hS wb b o es.length k ns lX (fun i hi=> by
    have:=xR i (.int .u8 (ns.getD i 0)) (by simp[List.getD,List.getElem?_eq_getElem (show i < ns.length by omega)])
    rwa [eC] at this) T hT
  rw[wc] at bd
  exact aJ.same bd (bx.2 ⟨rfl,rfl⟩) hs
theorem nS :∀(es:List V) (l:List Int) (us:List Value),ni es=some l→bV L c es us→us=l.map (Value.int .i32)∧l.length=es.length
 | [],l,us,hb,hr=> by
   simp only[ni,Option.some.injEq] at hb
   simp only[bV] at hr
   subst hb;subst hr
   exact ⟨rfl,rfl⟩
 | e::es,l,us,hb,hr=> by
   simp only[bV] at hr
   obtain ⟨u1,u2,rfl,h1,h2⟩:=hr
   unfold ni at hb
   split at hb
   ·rename_i heq
    cases heq
   ·rename_i n vs heq
    simp only[List.cons.injEq] at heq
    obtain ⟨rfl,rfl⟩:=heq
    obtain ⟨l',dv,rfl⟩:=Option.map_eq_some_iff.1 hb
    obtain ⟨rfl,h3⟩:=nS es l' u2 dv h2
    simp only[RC] at h1
    rw[h1.1]
    exact ⟨by simp,by simp[h3]⟩
   ·cases hb
theorem P5 (hL:L.OK) (hs:bf L c h w) {S T el:TypeId} (hS:P.underlying S=some (.slice el)) (hu:P.underlying el=some (.int .i32)) (hT:P.underlying T=some .string) {x:V} {ux:Value} (hx:RV L c x ux) {v:V} {h':Hp} (ah:sL h false x=some (v,h')):
 aJ L c w ((convert S T ux).run P w) v h':=by
 simp only[sL,Bool.false_eq_true,if_false] at ah
 obtain ⟨⟨g,es⟩,he,ah⟩:=Option.bind_eq_some_iff.1 ah
 obtain ⟨l,hl,ah⟩:=Option.bind_eq_some_iff.1 ah
 simp only[jv,Option.some.injEq,Prod.mk.injEq] at ah
 obtain ⟨rfl,rfl⟩:=ah
 obtain ⟨a,k,rfl,lT,bQ,fy⟩:=ph hL hs hx he
 simp only at hl
 rcases fy with rfl | ⟨b,o,us,ty,fz,rfl,hg,hr⟩
 ·simp only[ni,Option.some.injEq] at hl
  subst hl
  refine aJ.same (u:= .string (runesBytes [])) ?_ (bx.2 ⟨rfl,rfl⟩) hs
  show (convert S T (.slice a 0 k)).run P w=_
  cases a with
  | none=> exact run_convert_runes_nil w S T el 0 k hS hu hT
  | some a=> exact run_convert_runes w S T el a 0 k [] (Nat.le_refl _) hS hu hT (fun j hj=> absurd hj (Nat.not_lt_zero _))
 ·obtain ⟨hns,lX⟩:=nS es l _ hl hr
  have xR:=nd hL hg hr (fun q hq=>(bQ q hq).1)
  rw[hns] at xR
  have bd:=run_convert_runes (P:=P) w S T el ⟨b,o,none⟩ es.length k l (by omega) hS hu hT (fun i hi=> xR i (.int .i32 (l.getD i 0)) (by simp[List.getD,List.getElem?_eq_getElem hi]))
  rw[List.take_of_length_le (by omega)] at bd
  exact aJ.same bd (bx.2 ⟨rfl,rfl⟩) hs
theorem P6 (hs:bf L c h w) {S T:TypeId} (hS:P.underlying S=some (.int .i32)) (hT:P.underlying T=some .string) {x:V} {ux:Value} (hx:RV L c x ux) {v:V} {h':Hp} (ah:sL h true x=some (v,h')):
 aJ L c w ((convert S T ux).run P w) v h':=by
 simp only[sL,if_true] at ah
 split at ah
 ·have:=(bx.1 hx).1
  subst this
  simp only[jv,Option.some.injEq,Prod.mk.injEq] at ah
  obtain ⟨rfl,rfl⟩:=ah
  refine aJ.same (u:= .string (Utf8.encode _)) ?_ (bx.2 ⟨rfl,rfl⟩) hs
  simp[convert,run_underlying hT,run_underlying hS,Conv.intToString]
 ·cases ah
theorem yl {α:Type} (a:Array α) (x:α) (f:α→α):(a.push x).modify a.size f=a.push (f x):=by
 apply Array.ext_getElem?
 intro i
 rw[Array.getElem?_modify,Array.getElem?_push,Array.getElem?_push]
 by_cases hi:i=a.size
 ·subst hi;simp
 ·simp[hi,Ne.symm hi]
theorem Lx {S T el:TypeId} (hS:P.underlying S=some .string) (hT:P.underlying T=some (.slice el)) (wb:P.underlying el=some (.int .u8)) (s:ByteArray):
 ∃cap extra fz w',(convert S T (.string s)).run P w= .ok (.slice (some ⟨w.heap.size,0,none⟩) s.size cap) w'∧s.size≤cap∧w'=w.drew.alloc (.cells ((s.data.toList.map fun b=> Value.int .u8 b.toNat)++extra).toArray el fz)∧
  s.size+extra.length=cap∧(∀j,j < cap→¬(fz.1≤j∧j < fz.2)):=by
 let cap:=(Question.appendCap s.size 0 el).cut (w.tape w.drawn (Question.appendCap s.size 0 el))
 have fM:s.size≤cap:=Nat.le_add_right _ _
 refine ⟨cap,List.replicate (cap - s.size) (.int .u8 0),(cap,cap+1),_,?_,fM,rfl,by simp;omega,by intro j hj;simp only;omega⟩
 have cJ:(s.data.map (fun b=> Value.int IntKind.u8 b.toNat)++Array.replicate (cap - s.size) (Value.int IntKind.u8 0)).size=cap:=by
   simp only[Array.size_append,Array.size_map,Array.size_replicate]
   have:s.data.size=s.size:=rfl
   omega
 have e:(((s.data.toList.map fun b=> Value.int .u8 b.toNat)++List.replicate (cap - s.size) (Value.int .u8 0)).toArray)=s.data.map (fun b=> Value.int IntKind.u8 b.toNat)++Array.replicate (cap - s.size) (Value.int IntKind.u8 0):=by
   apply Array.ext';simp
 rw[e]
 have df:((w.drew.alloc (.cells (s.data.map (fun b=> Value.int IntKind.u8 b.toNat)++Array.replicate (cap - s.size) (Value.int IntKind.u8 0)) el)).freeze ⟨w.heap.size,cap,none⟩ 1)=w.drew.alloc (.cells (s.data.map (fun b=> Value.int IntKind.u8 b.toNat)++Array.replicate (cap - s.size) (Value.int IntKind.u8 0)) el (cap,cap+1)):=by
   unfold World.freeze
   simp only[Nat.one_ne_zero,if_false]
   show World.mk _ _ _ _ _=World.mk _ _ _ _ _
   congr 1
   exact (yl _ _ _).trans (by simp)
 have sV:(w.drew.alloc (.cells (s.data.map (fun b=> Value.int IntKind.u8 b.toNat)++Array.replicate (cap - s.size) (Value.int IntKind.u8 0)) el)).shape? w.heap.size=some (el,cap):=by
   have:(w.drew.alloc (.cells (s.data.map (fun b=> Value.int IntKind.u8 b.toNat)++Array.replicate (cap - s.size) (Value.int IntKind.u8 0)) el)).heap[w.heap.size]? =some _:=iV (w:=w.drew)
   simp only[World.shape?,this,cJ]
 rw[←df]
 simp only[convert,run_underlying hS,run_underlying hT,run_underlying wb,Sem.run_bind,Result.andThen_ok,Conv.stringToBytes,run_choose,Question.forced,Bool.false_eq_true,if_false,World.drew_eq,newRow,run_newObj,Sem.run_pure,markStringish,run_shape,World.alloc_eq]
 show (Sem.run P _ _).andThen _=_
 have hd:w.drew.heap.size=w.heap.size:=rfl
 simp only[hd]
 rw[show (Question.appendCap s.size 0 el).cut (w.tape w.drawn (Question.appendCap s.size 0 el))=cap from rfl,sV]
 simp
theorem P7 (hL:L.OK) (hs:bf L c h w) {S T el:TypeId} (hS:P.underlying S=some .string) (hT:P.underlying T=some (.slice el)) (wb:P.underlying el=some (.int .u8)) {lit:Bool} {x:V} {ux:Value} (hx:RV L c x ux) {v:V} {h':Hp} (ah:qK h lit x=some (v,h')):
 aJ L c w ((convert S T ux).run P w) v h':=by
 unfold qK at ah
 split at ah
 case h_2=> cases ah
 rename_i s
 obtain ⟨rfl,_⟩:=bx.1 hx
 obtain ⟨cap,extra,fz,w',bd,fM,lK,hlen,df⟩:=Lx (P:=P) (w:=w) hS hT wb s
 have hr:=qN (L:=L) (c:=c) s
 split at ah
 ·simp only[Option.some.injEq,Prod.mk.injEq] at ah
  obtain ⟨rfl,rfl⟩:=ah
  subst lK
  have hz:bf L (c.dC w.drew.heap.size _) h (w.drew.alloc _):=hs.drew.dC (.cells ((s.data.toList.map fun b=> Value.int .u8 b.toNat)++extra).toArray el fz)
  refine ⟨_,_,_,bd,?_,hz,c.kh _ _ hs.qI,(St.drew w).trans (St.alloc _ _)⟩
  refine cV.2 ⟨_,cap,by rw[eE],by rw[eE];exact fM,(fun hf=> by cases hf),mO s,Or.inr ⟨w.heap.size,0,((s.data.toList.map fun b=> Value.int .u8 b.toNat)++extra).toArray,el,fz,rfl,by simp[Ctx.dC],?_⟩⟩
  have hl:(dK s).length * L.az none=(s.data.toList.map fun b=> Value.int .u8 b.toNat).length:=by simp[dK,cu.az]
  rw[hl]
  simp only[ng,List.drop_zero,List.toList_toArray,List.take_left']
  exact hr.mono (c.kh _ _ hs.qI)
 ·split at ah
  ·cases ah
  rename_i cE
  simp only[Option.some.injEq,Prod.mk.injEq] at ah
  obtain ⟨rfl,rfl⟩:=ah
  have hml:(s.data.toList.map fun b=> Value.int IntKind.u8 (b.toNat:Int)).length=s.size:=by simp
  obtain ⟨l,hb,hc,bZ,cD,dh,hl⟩:=i5 hL hs.drew hr (mO s) cap extra (by rw[hml];simp only[cu.az];omega) (by rw[eE];exact fM) el fz ⟨by
    intro j hj
    rw[List.length_append,hml,hlen] at hj
    exact df j hj,fun h=> by cases h⟩
  subst lK
  refine ⟨_,c.push l,_,bd,?_,dh,c.gK l,(St.drew w).trans (St.alloc _ _)⟩
  have:=eS (es:=dK s) hL dh hl bZ cD cap (by rw[eE];exact fM) (by omega)
  rw[eE] at this
  rw[hb] at this
  exact this
end Go.Vm
namespace Go.Vm
variable {P : Program} {L : cu} {c : Ctx} {h : Hp} {w : World}
theorem cy {vs:List V} {u:Value}:RV L c (.bI vs) u↔∃ws:List Value,u= .tuple ws.toArray∧fC L c vs ws:=by
 have pg:∀(vs:List V) (ws:List Value),RW L c vs ws↔fC L c vs ws:=by
   intro vs
   induction vs with
   | nil=>
     intro ws
     cases ws with
     | nil=> exact ⟨fun _=> trivial,fun _=> by simp[RW]⟩
     | cons a b=> exact ⟨fun h=> by simp[RW] at h,fun h=> h.elim⟩
   | cons v vs ih=>
     intro ws
     cases ws with
     | nil=> exact ⟨fun h=> by simp[RW] at h,fun h=> h.elim⟩
     | cons a b=>
       simp only[RW,fC,List.cons.injEq]
       exact ⟨fun ⟨u,us',⟨e1,e2⟩,h1,h2⟩=> by subst e1;subst e2;exact ⟨h1,(ih b).1 h2⟩,fun ⟨h1,h2⟩=>⟨a,b,⟨rfl,rfl⟩,h1,(ih b).2 h2⟩⟩
 rw[ea rfl]
 simp only[RC,List.cons.injEq,and_true]
 exact ⟨fun ⟨ws,h1,h2⟩=>⟨ws,h1,(pg vs ws).1 h2⟩,fun ⟨ws,h1,h2⟩=>⟨ws,h1,(pg vs ws).2 h2⟩⟩
theorem Cn {f:Nat} {cap:List V} {u:Value}:RV L c (.fn f cap) u↔∃ws:List Value,u= .func (.func f) #[] ws.toArray∧fC L c cap ws:=by
 have:= @cy L c cap
 rw[ea rfl]
 simp only[RC,List.cons.injEq,and_true]
 constructor
 ·rintro ⟨ws,h1,h2⟩
  obtain ⟨ws',h3,h4⟩:=(this (u:= .tuple ws.toArray)).1 ((ea rfl).2 (by simp only[RC];exact ⟨ws,rfl,h2⟩))
  have:ws'=ws:=by simpa using (Value.tuple.inj h3).symm
  subst this
  exact ⟨_,h1,h4⟩
 ·rintro ⟨ws,h1,h2⟩
  have h3:=(ea (v:= .bI cap) rfl).1 ((this (u:= .tuple ws.toArray)).2 ⟨ws,rfl,h2⟩)
  simp only[RC,List.cons.injEq,and_true] at h3
  obtain ⟨ws',h4,h5⟩:=h3
  have:ws'=ws:=by simpa using (Value.tuple.inj h4).symm
  subst this
  exact ⟨_,h1,h5⟩
theorem ym {t:Nat} {v:V} {u:Value}:RV L c (.iface t v) u↔∃u',u= .iface t u'∧RV L c v u':=by
 rw[ea rfl]
 simp only[RC,List.cons.injEq,and_true]
 exact ⟨fun ⟨a,b,h1,h2,h3⟩=>⟨a,h1,b,h2,h3⟩,fun ⟨a,h1,b,h2,h3⟩=>⟨a,b,h1,h2,h3⟩⟩
theorem qg {x:Value} {h':Hp} {v:V} (ah:jv x h=some (v,h')):v= .s x∧h'=h:=by
 simp only[jv,Option.some.injEq,Prod.mk.injEq] at ah
 exact ⟨ah.1.symm,ah.2.symm⟩
theorem uZ {op:BinOp} {k:IntKind} {a b:Int} {x:Value} (hb:jQ op k a b=some x):
 ((match op with
   | .add | .sub | .mul=> Op.intArith op k a b
   | .quo | .rem=> Op.intDiv op k a b
   | .and | .or | .xor | .andNot=> Op.intBits op k a b
   | _=> Op.intCmp op a b).run P w= .ok x w)∧x.oneCell'=true:=by
 cases op <;> simp only[jQ] at hb <;> first
   | (cases hb;done)
   | (simp only[Option.some.injEq] at hb;subst hb;exact ⟨by simp[Op.intArith,Op.intBits,Op.intCmp],rfl⟩)
   | (split at hb
      ·cases hb
      ·rename_i cE
       simp only[Option.some.injEq] at hb;subst hb;exact ⟨by simp[Op.intDiv,cE],rfl⟩)
theorem D6 {op:BinOp} {a b:ByteArray} {x:Value} (hb:qa op a b=some x):(Op.stringOp op a b).run P w= .ok x w∧x.oneCell'=true:=by
 have V8:IntKind.i64.max=9223372036854775807:=rfl
 cases op <;> simp only[qa] at hb <;> first
   | (cases hb;done)
   | (simp only[Option.some.injEq] at hb;subst hb;exact ⟨by simp[Op.stringOp],rfl⟩)
   | (split at hb
      ·rename_i hle
       simp only[Option.some.injEq] at hb;subst hb
       refine ⟨?_,rfl⟩
       have hn:¬(((a.size+b.size:Nat):Int)> IntKind.i64.max):=by rw[V8];omega
       simp only[Op.stringOp]
       rw[if_neg hn];rfl
      ·cases hb)
theorem rE {op:BinOp} {b:Bool} {x:Value} (hb:DP op b=some x):(op= .eql∧x= .bool b)∨(op= .neq∧x= .bool !b):=by
 cases op <;> simp only[DP] at hb <;> first
   | (cases hb;done)
   | (simp only[Option.some.injEq] at hb;subst hb;first | exact Or.inl ⟨rfl,rfl⟩ | exact Or.inr ⟨rfl,rfl⟩)
theorem run_equal_bool {T:TypeId} (hT:P.underlying T=some .bool) (a b:Bool):(Op.equal T (.bool a) (.bool b)).run P w= .ok (a==b) w:=by
 have key:∀d,(Op.equalIn (d+1) T (.bool a) (.bool b)).run P w= .ok (a==b) w:=fun d=> by
   simp only[Op.equalIn,Sem.run_bind,run_underlying hT,Result.andThen_ok,Sem.run_pure]
 exact key 9999
theorem jR {T e:TypeId} (hT:P.underlying T=some (.pointer e)) (a b:Option Addr) (hab:a=none∨b=none):(Op.equal T (.pointer a) (.pointer b)).run P w= .ok (a.isNone && b.isNone) w:=by
 have key:∀d,(Op.equalIn (d+1) T (.pointer a) (.pointer b)).run P w= .ok (a.isNone && b.isNone) w:=fun d=> by
   cases a <;> cases b <;> simp only[Op.equalIn,Sem.run_bind,run_underlying hT,Result.andThen_ok,Sem.run_pure]<;> first | rfl | simp at hab
 exact key 9999
theorem tO {op:BinOp} {T:TypeId} (a b:Bool):binOp op T (.bool a) (.bool b)=match op with | .eql=>(do pure (.bool (←Op.equal T (.bool a) (.bool b)))) | .neq=>(do pure (.bool (!(←Op.equal T (.bool a) (.bool b))))) | _=> stuck "BinOp: no such operator on these operands" :=by
 cases op <;> rfl
theorem jS {T:TypeId} (a b:Option Addr):binOp .eql T (.pointer a) (.pointer b)=(do pure (.bool (←Op.equal T (.pointer a) (.pointer b)))):=rfl
theorem jT {T:TypeId} (a b:Option Addr):binOp .neq T (.pointer a) (.pointer b)=(do pure (.bool (!(←Op.equal T (.pointer a) (.pointer b))))):=rfl
theorem P8 (hs:bf L c h w) {T:TypeId} {op:BinOp} {X Y:Operand} {x y:V} {ux uy:Value} (hx:RV L c x ux) (hy:RV L c y uy)
 {cl:Cl} (nw:match cl with | .num=> True | .tru=> P.underlying T=some .bool | .ptr=>∃e,P.underlying T=some (.pointer e))
 {v:V} {h':Hp} (ah:lM h cl op x y=some (v,h')):
 aJ L c w ((do eqGuard op T X Y ux uy;binOp op T ux uy:Sem Value).run P w) v h':=by
 simp only[lM] at ah
 obtain ⟨r,hr,ah⟩:=Option.bind_eq_some_iff.1 ah
 obtain ⟨rfl,rfl⟩:=qg ah
 suffices hh:(do eqGuard op T X Y ux uy;binOp op T ux uy:Sem Value).run P w= .ok r w∧r.oneCell'=true from aJ.same hh.1 (bx.2 ⟨rfl,hh.2⟩) hs
 have guard_ok:(∀(a b:Array Value),ux= .agg a→uy= .agg b→False)→(ux= .nilIface→False)→(eqGuard op T X Y ux uy).run P w= .ok () w:=by
   intro h1 h2
   unfold eqGuard
   cases op <;> first
     | rfl
     | (cases ux <;> first
         | (exact (h2 rfl).elim)
         | rfl
         | (cases uy <;> first | (exact (h1 _ _ rfl rfl).elim) | rfl))
 unfold vT at hr
 cases cl with
 | num=>
  simp only at hr
  split at hr
  ·rename_i k a k' b
   obtain ⟨rfl,_⟩:=bx.1 hx
   obtain ⟨rfl,_⟩:=bx.1 hy
   simp only[Sem.run_bind,guard_ok (fun _ _ h=> by cases h) (fun h=> by cases h),Result.andThen_ok]
   have shift_ok:∀(o:BinOp),mH o k a b=some r→(Op.shift o k a k' b).run P w= .ok r w∧r.oneCell'=true:=by
     intro o ho
     unfold mH at ho
     split at ho
     ·cases ho
     ·rename_i yi
      cases o <;> simp only at ho <;> first
        | (cases ho;done)
        | (simp only[Option.some.injEq] at ho;subst ho;exact ⟨by simp[Op.shift,yi],rfl⟩)
   have other:op≠ .shl→op≠ .shr→(if k=k' then jQ op k a b else none)=some r→(binOp op T (.int k a) (.int k' b)).run P w= .ok r w∧r.oneCell'=true:=by
     intro h1 h2 mB
     by_cases hk:k=k'
     ·rw[if_pos hk] at mB
      have:=uZ (P:=P) (w:=w) mB
      clear hr ah hx hy
      subst hk
      cases op <;> first | (exact absurd rfl h1) | (exact absurd rfl h2) | (simpa[binOp] using this)
     ·rw[if_neg hk] at mB;cases mB
   cases op with
   | shl=> simpa[binOp] using shift_ok .shl hr
   | shr=> simpa[binOp] using shift_ok .shr hr
   | _=> exact other (by simp) (by simp) hr
  ·rename_i a b
   obtain ⟨rfl,_⟩:=bx.1 hx
   obtain ⟨rfl,_⟩:=bx.1 hy
   simp only[Sem.run_bind,guard_ok (fun _ _ h=> by cases h) (fun h=> by cases h),Result.andThen_ok]
   have:=D6 (P:=P) (w:=w) hr
   cases op <;> simpa[binOp] using this
  ·cases hr
 | tru=>
  simp only at hr nw
  have hT:=nw
  split at hr
  ·rename_i a b
   obtain ⟨rfl,_⟩:=bx.1 hx
   obtain ⟨rfl,_⟩:=bx.1 hy
   simp only[Sem.run_bind,guard_ok (fun _ _ h=> by cases h) (fun h=> by cases h),Result.andThen_ok]
   rcases rE hr with ⟨rfl,rfl⟩ | ⟨rfl,rfl⟩<;> exact ⟨by simp only[tO,Sem.run_bind,run_equal_bool hT,Result.andThen_ok,Sem.run_pure],rfl⟩
  ·cases hr
 | ptr=>
  simp only at hr nw
  obtain ⟨e,hT⟩:=nw
  split at hr
  ·obtain ⟨rfl,_⟩:=bx.1 hx
   obtain ⟨rfl,_⟩:=bx.1 hy
   simp only[Sem.run_bind,guard_ok (fun _ _ h=> by cases h) (fun h=> by cases h),Result.andThen_ok]
   rcases rE hr with ⟨rfl,rfl⟩ | ⟨rfl,rfl⟩<;> exact ⟨by simp only[jS,jT,Sem.run_bind,jR hT none none (Or.inl rfl),Result.andThen_ok,Sem.run_pure];rfl,rfl⟩
  ·obtain ⟨a,rfl,_⟩:=sQ.1 hx
   obtain ⟨rfl,_⟩:=bx.1 hy
   simp only[Sem.run_bind,guard_ok (fun _ _ h=> by cases h) (fun h=> by cases h),Result.andThen_ok]
   rcases rE hr with ⟨rfl,rfl⟩ | ⟨rfl,rfl⟩<;> exact ⟨by simp only[jS,jT,Sem.run_bind,jR hT (some a) none (Or.inr rfl),Result.andThen_ok,Sem.run_pure];rfl,rfl⟩
  ·obtain ⟨rfl,_⟩:=bx.1 hx
   obtain ⟨a,rfl,_⟩:=sQ.1 hy
   simp only[Sem.run_bind,guard_ok (fun _ _ h=> by cases h) (fun h=> by cases h),Result.andThen_ok]
   rcases rE hr with ⟨rfl,rfl⟩ | ⟨rfl,rfl⟩<;> exact ⟨by simp only[jS,jT,Sem.run_bind,jR hT none (some a) (Or.inl rfl),Result.andThen_ok,Sem.run_pure];rfl,rfl⟩
  ·cases hr
theorem Wd (hs:bf L c h w) {op:UnOp} {x:V} {ux:Value} (hx:RV L c x ux) {v:V} {h':Hp} (ah:(unV op x).bind (jv · h)=some (v,h')):
 aJ L c w ((Op.unary op ux).run P w) v h':=by
 obtain ⟨r,hr,ah⟩:=Option.bind_eq_some_iff.1 ah
 obtain ⟨rfl,rfl⟩:=qg ah
 unfold unV at hr
 split at hr
 ·rename_i k n
  obtain ⟨rfl,_⟩:=bx.1 hx
  split at hr
  ·simp only[Option.some.injEq] at hr
   subst hr
   exact aJ.same (u:= .int k (k.wrap (0 - n))) (by simp[Op.unary,Op.intArith]) (bx.2 ⟨rfl,rfl⟩) hs
  ·have:=uZ (P:=P) (w:=w) hr
   exact aJ.same (u:=r) (by simpa[Op.unary] using this.1) (bx.2 ⟨rfl,this.2⟩) hs
  ·cases hr
 ·rename_i b
  obtain ⟨rfl,_⟩:=bx.1 hx
  split at hr
  ·simp only[Option.some.injEq] at hr
   subst hr
   exact aJ.same (u:= .bool !b) (by simp[Op.unary]) (bx.2 ⟨rfl,rfl⟩) hs
  ·cases hr
 ·cases hr
theorem P9 (hs:bf L c h w) {XT A:TypeId} {ok:Bool} {zero:V} (hz:ok=true→er P L A zero) (hA:∃d,P.underlying A=some d∧(match d with | .interface _=> false | _=> true)=true) {x:V} {ux:Value} (hx:RV L c x ux) {v:V} {h':Hp} (ah:uS h A ok zero x=some (v,h')):
 aJ L c w ((Instr.typeAssert ux XT A ok).run P w) v h':=by
 obtain ⟨d,hd,hdi⟩:=hA
 unfold uS at ah
 split at ah
 case h_2=> cases ah
 rename_i t' y
 obtain ⟨u,rfl,hy⟩:=ym.1 hx
 split at ah
 ·rename_i ht
  subst ht
  simp only[Option.some.injEq,Prod.mk.injEq] at ah
  obtain ⟨rfl,rfl⟩:=ah
  cases ok with
  | true=>
    refine aJ.same (u:= .tuple #[u,.bool true]) ?_ (cy.2 ⟨[u,.bool true],rfl,hy,bx.2 ⟨rfl,rfl⟩,trivial⟩) hs
    simp only[Instr.typeAssert,Sem.run_bind,run_underlying hd,Result.andThen_ok]
    cases d <;> first | (simp at hdi;done) | simp
  | false=>
    refine aJ.same (u:=u) ?_ hy hs
    simp only[Instr.typeAssert,Sem.run_bind,run_underlying hd,Result.andThen_ok]
    cases d <;> first | (simp at hdi;done) | simp
 ·rename_i ht
  cases ok with
  | false=> simp at ah
  | true=>
    simp only[if_true,Option.some.injEq,Prod.mk.injEq] at ah
    obtain ⟨rfl,rfl⟩:=ah
    obtain ⟨i,z,hi,oA,oN⟩:=hz rfl
    refine aJ.same (u:= .tuple #[z,.bool false]) ?_ (cy.2 ⟨[z,.bool false],rfl,oN c,bx.2 ⟨rfl,rfl⟩,trivial⟩) hs
    simp only[Instr.typeAssert,Sem.run_bind,run_underlying hd,Result.andThen_ok]
    cases d <;> first | (simp at hdi;done) | simp[ht,zeroValue,typeInfo,hi,oA]
theorem Qa (hs:bf L c h w) {i:Nat} {x:V} {ux:Value} (hx:RV L c x ux) {v:V} {h':Hp} (ah:uT h i x=some (v,h')):aJ L c w ((Instr.extract ux i).run P w) v h':=by
 unfold uT at ah
 split at ah
 case h_2=> cases ah
 rename_i vs
 obtain ⟨y,hy,he⟩:=Option.map_eq_some_iff.1 ah
 simp only[Prod.mk.injEq] at he
 obtain ⟨rfl,rfl⟩:=he
 obtain ⟨ws,rfl,hv⟩:=cy.1 hx
 have bW:i < ws.length:=by rw[hv.length];exact (List.getElem?_eq_some_iff.1 hy).1
 refine aJ.same (u:=ws[i]) ?_ (hv.get i y ws[i] hy (List.getElem?_eq_getElem bW)) hs
 simp[Instr.extract,bW]
theorem Qb (hs:bf L c h w) {Ts:Array TypeId} {ty:TypeId} {x y:V} {ux uy:Value} (hx:RV L c x ux) (hy:RV L c y uy) {v:V} {h':Hp} (ah:sM h false x y=some (v,h')):aJ L c w ((Builtin.min_ Ts ty #[ux,uy]).run P w) v h':=by
 unfold sM at ah
 split at ah
 case h_2=> cases ah
 obtain ⟨rfl,_⟩:=bx.1 hx
 obtain ⟨rfl,_⟩:=bx.1 hy
 obtain ⟨rfl,rfl⟩:=qg ah
 exact aJ.same (by simp[Builtin.min_,Builtin.min2]) (bx.2 ⟨rfl,rfl⟩) hs
theorem Qc (hs:bf L c h w) {Ts:Array TypeId} {ty:TypeId} {x y:V} {ux uy:Value} (hx:RV L c x ux) (hy:RV L c y uy) {v:V} {h':Hp} (ah:sM h true x y=some (v,h')):aJ L c w ((Builtin.max_ Ts ty #[ux,uy]).run P w) v h':=by
 unfold sM at ah
 split at ah
 case h_2=> cases ah
 obtain ⟨rfl,_⟩:=bx.1 hx
 obtain ⟨rfl,_⟩:=bx.1 hy
 obtain ⟨rfl,rfl⟩:=qg ah
 exact aJ.same (by simp[Builtin.max_,Builtin.max2]) (bx.2 ⟨rfl,rfl⟩) hs
theorem Ly (hs:bf L c h w) {T:TypeId} (hT:P.underlying T=some .string) {x y:V} {ux uy:Value} (hx:RV L c x ux) (hy:RV L c y uy) {v:V} {h':Hp} (ah:oB h x y=some (v,h')):
 aJ L c w ((Instr.index T ux uy).run P w) v h':=by
 unfold oB at ah
 split at ah
 case h_2=> cases ah
 rename_i s i hi
 obtain ⟨k,rfl⟩:=iZ hi hy
 obtain ⟨rfl,_⟩:=bx.1 hx
 split at ah
 case isFalse=> cases ah
 rename_i h0
 split at ah
 case h_2=> cases ah
 rename_i b hb
 simp only[Option.some.injEq,Prod.mk.injEq] at ah
 obtain ⟨rfl,rfl⟩:=ah
 refine aJ.same (u:= .int .u8 b.toNat) ?_ (bx.2 ⟨rfl,rfl⟩) hs
 simp[Instr.index,asIntOf,run_underlying hT,h0,hb]
theorem Qd (hs:bf L c h w) {T:TypeId} (hT:P.concrete T=true) {x:V} {ux:Value} (hx:RV L c x ux):aJ L c w ((Instr.makeInterface T ux).run P w) (.iface T x) h:=
 aJ.same (run_makeInterface (P:=P) w T ux hT) (ym.2 ⟨ux,rfl,hx⟩) hs
theorem Qe (hs:bf L c h w) {T:TypeId} (hT:P.underlying T=some .string) {x:V} {ux:Value} (hx:RV L c x ux) {v:V} {h':Hp} (ah:xW h x=some (v,h')):
 aJ L c w ((Instr.range T ux).run P w) v h':=by
 unfold xW at ah
 split at ah
 case h_2=> cases ah
 rename_i s
 obtain ⟨rfl,_⟩:=bx.1 hx
 simp only[Option.some.injEq,Prod.mk.injEq] at ah
 obtain ⟨rfl,rfl⟩:=ah
 have dh:=hs.push (.stringIter s 0) (.fN s 0) ⟨w.heap.size,0,none,0⟩ rfl ⟨rfl,rfl,iV⟩
 have hl:(c.push ⟨w.heap.size,0,none,0⟩).loc h.length=some ⟨w.heap.size,0,none,0⟩:=by simp[Ctx.push,hs.n]
 refine ⟨.pointer (some ⟨w.heap.size,0,none⟩),_,_,?_,sR dh hl rfl rfl,dh,c.gK _,St.alloc _ _⟩
 simp[Instr.range,run_underlying hT]
theorem Qf (hs:bf L c h w) {ty:TypeId} {x:V} {ux:Value} (hx:RV L c x ux) {v:V} {h':Hp} (ah:xX h x=some (v,h')):
 aJ L c w ((Instr.next ux true ty).run P w) v h':=by
 unfold xX at ah
 split at ah
 case h_2=> cases ah
 rename_i id
 split at ah
 case h_2=> cases ah
 rename_i s pos hk
 rcases hs.live id _ hk with ⟨l,hl⟩ | hd
 case inr=> cases hd
 obtain ⟨k,lF,hz,hb⟩:=hs.loc id l hl
 rw[hk] at lF;cases lF
 obtain ⟨h1,h2,h3⟩:=hb
 have hu:=iY hx hl h2 (o:=0) rfl
 subst hu
 have dD:(getObj l.bu).run P w= .ok (.stringIter s pos) w:=by simp[getObj,Sem.run,h3]
 split at ah
 ·rename_i bW
  simp only[Option.some.injEq,Prod.mk.injEq] at ah
  obtain ⟨rfl,rfl⟩:=ah
  have pM:(setObj l.bu (.stringIter s (pos+(Utf8.decode s pos).2))).run P w= .ok () {w with heap:=w.heap.setIfInBounds l.bu (.stringIter s (pos+(Utf8.decode s pos).2))}:=by simp[setObj,Sem.run,h3]
  have hmv:c.move id l=c:=by
    cases c with
    | mk z loc n=>
      simp only[Ctx.move]
      congr
      funext j
      by_cases hj:j=id
      ·subst hj;simp only[if_true];exact hl.symm
      ·simp[hj]
  have dh:=hs.move (l':=l) hl (w':= {w with heap:=w.heap.setIfInBounds l.bu (.stringIter s (pos+(Utf8.decode s pos).2))}) (.fN s (pos+(Utf8.decode s pos).2)) (by rw[hmv];exact Ctx.le_refl c) hz (Or.inl rfl)
    (fun b hb tI=> by simp[Array.getElem?_setIfInBounds,Ne.symm tI]) (fun o' jN=> by rw[hz] at jN;cases jN)
    ⟨h1,h2,by simp[Array.getElem?_setIfInBounds,ek h3]⟩
  rw[hmv] at dh
  refine ⟨.tuple #[.bool true,goInt pos,.int .i32 (Utf8.decode s pos).1],c,_,?_,cy.2 ⟨[.bool true,goInt pos,.int .i32 (Utf8.decode s pos).1],rfl,bx.2 ⟨rfl,rfl⟩,bx.2 ⟨rfl,rfl⟩,bx.2 ⟨rfl,rfl⟩,trivial⟩,dh,Ctx.le_refl c,⟨rfl,rfl,rfl,by simp⟩⟩
  simp only[Instr.next,Sem.run_bind,dD,Result.andThen_ok,if_pos bW,pM,Sem.run_pure]
 ·rename_i bW
  simp only[Option.some.injEq,Prod.mk.injEq] at ah
  obtain ⟨rfl,rfl⟩:=ah
  refine aJ.same (u:= .tuple #[.bool false]) ?_ (cy.2 ⟨[.bool false],rfl,bx.2 ⟨rfl,rfl⟩,trivial⟩) hs
  simp only[Instr.next,Sem.run_bind,dD,Result.andThen_ok,if_neg bW,Sem.run_pure]
end Go.Vm
namespace Go.Vm
def aC (P:Program) (t:TypeId):Option Nat:=
 match P.underlying t with
 | some (.struct _)=> some (P.underlyingId t)
 | some (.array _ _)=> some (P.underlyingId t)
 | _=> none
def ak (P:Program):cu where
 size:=P.cellsOf
 fields t:=if t < P.types.size then match P.underlying t with | some (.struct fs)=> some (fs.toList.map fun f=> aC P f.type) | _=> none else none
 arr t:=if t < P.types.size then match P.underlying t with | some (.array n e)=> some (n,aC P e) | _=> none else none
def Qg (P:Program) (t:Nat):Bool:=
 match P.underlying t with
 | some (.struct fs)=> P.cellsOf t==((fs.toList.map fun f=> aC P f.type).map (ak P).az).sum
 | some (.array n e)=> P.cellsOf t==n *(ak P).az (aC P e)
 | _=> true
def We (P:Program):Bool:=(List.range P.types.size).all (Qg P)
theorem GH {P:Program} (h:We P=true):(ak P).OK where
 st t fs hf:=by
  simp only[ak] at hf
  split at hf
  case isFalse=> cases hf
  rename_i bW
  split at hf
  ·rename_i fs' hu
   simp only[Option.some.injEq] at hf
   have h1:=List.all_eq_true.1 h t (List.mem_range.2 bW)
   simp only[Qg,hu,beq_iff_eq] at h1
   show P.cellsOf t=_
   rw[h1,hf]
  ·cases hf
 ar t n e ha:=by
  simp only[ak] at ha
  split at ha
  case isFalse=> cases ha
  rename_i bW
  split at ha
  ·rename_i n' e' hu
   simp only[Option.some.injEq,Prod.mk.injEq] at ha
   obtain ⟨rfl,rfl⟩:=ha
   have h1:=List.all_eq_true.1 h t (List.mem_range.2 bW)
   simp only[Qg,hu,beq_iff_eq] at h1
   exact h1
  ·cases ha
 no t r ha:=by
  simp only[ak] at ha ⊢
  split at ha
  case isFalse=> cases ha
  rename_i bW
  rw[if_pos bW]
  split at ha
  ·rename_i hu;simp[hu]
  ·cases ha
def nT (P:Program) (t:TypeId):Bool:=(P.info? t).isSome &&(P.underlying t).isSome && P.cellsOf t==(ak P).az (aC P t)
theorem cC {P:Program} {t:TypeId} (h:nT P t=true):TG P (ak P) t (aC P t):=by
 simp only[nT,Bool.and_eq_true,beq_iff_eq] at h
 obtain ⟨⟨h1,h2⟩,h3⟩:=h
 obtain ⟨i,hi⟩:=Option.isSome_iff_exists.1 h1
 obtain ⟨d,hd⟩:=Option.isSome_iff_exists.1 h2
 refine ⟨⟨i,hi,by rw[←h3];simp[Program.cellsOf,hi]⟩,d,hd,?_⟩
 simp only[aC,hd]
 cases d <;> rfl
def zv (P:Program) (full:Bool):Nat→TypeId→Option V
 | 0,_=> none
 | n+1,t=>
   match P.underlying t with
   | some (.struct fs)=>(fs.toList.mapM fun f=> zv P full n f.type).map fun vs=> .st (P.underlyingId t) vs
   | some (.array k e)=>(zv P full n e).map fun v=> .arr (P.underlyingId t) (List.replicate k v)
   | some (.int k)=> some (.s (.int k 0))
   | some .bool=> some (.s (.bool false))
   | some .string=> some (.s (.string ByteArray.empty))
   | some (.pointer _)=> some (.s (.pointer none))
   | some (.slice e)=> some (.al full (aC P e) [])
   | some (.interface _)=> some (.s .nilIface)
   | some (.func ..)=> some (.s .nilFunc)
   | some (.map _ _)=> some (.s (.map none))
   | _=> none
def zc :V→List Value
 | .s x=> [x]
 | .al _ _ _=> [.slice none 0 0]
 | .st _ fs=> zcs fs
 | .arr _ es=> zcs es
 | _=> []
where zcs:List V→List Value
  | []=> []
  | v::vs=> zc v++zcs vs
def zOK (L:cu):V→Bool
 | .s x=> x.oneCell'
 | .al _ _ []=> true
 | .st t fs=> Iy fs && decide (L.fields t=some (fs.map V.ty))&& fs.all V.ax
 | .arr t es=> Iy es &&(match L.arr t with | some (n,e)=> n==es.length && es.all (fun x=> decide (x.ty=e)&& x.ax) | none=> false)
 | _=> false
where Iy:List V→Bool
  | []=> true
  | v::vs=> zOK L v && Iy vs
theorem Iz {L:cu} {c:Ctx}:∀(v:V),zOK L v=true→RC L c v (zc v):=by
 intro v
 induction v using V.rec (motive_2:=fun vs=> zOK.Iy L vs=true→bV L c vs (zc.zcs vs)) with
 | s x=> intro h;simp only[zOK] at h;simp only[RC,zc,true_and];exact h
 | al full g es=>
   intro h
   cases es with
   | nil=> exact (ea rfl).1 (eU (fun _=> rfl))
   | cons a b=> simp[zOK] at h
 | st t fs ih=>
   intro h
   simp only[zOK,Bool.and_eq_true,decide_eq_true_eq,List.all_eq_true] at h
   simp only[RC,zc]
   exact ⟨ih h.1.1,h.1.2,h.2⟩
 | arr t es ih=>
   intro h
   simp only[zOK,Bool.and_eq_true] at h
   obtain ⟨h1,h2⟩:=h
   simp only[RC,zc]
   refine ⟨ih h1,?_⟩
   split at h2
   ·rename_i n e ha
    simp only[Bool.and_eq_true,beq_iff_eq,List.all_eq_true,decide_eq_true_eq] at h2
    exact ⟨e,by rw[ha,h2.1],h2.2⟩
   ·cases h2
 | nil=> simp only[bV,zc.zcs]
 | cons v vs h1 h2=>
   rename_i h
   simp only[zOK.Iy,Bool.and_eq_true] at h
   simp only[bV,zc.zcs]
   exact ⟨_,_,rfl,h1 h.1,h2 h.2⟩
 | _=> intro h;simp[zOK] at h
def eqz :Value→Value→Bool
 | .bool a,.bool b=> a==b
 | .int k a,.int k' b=> decide (k=k')&& a==b
 | .string a,.string b=> decide (a=b)
 | .pointer none,.pointer none=> true
 | .slice none a b,.slice none a' b'=> a==a' && b==b'
 | .map none,.map none=> true
 | .nilFunc,.nilFunc=> true
 | .nilIface,.nilIface=> true
 | _,_=> false
theorem Qh {a b:Value} (h:eqz a b=true):a=b:=by
 unfold eqz at h
 split at h <;> simp_all
def AJ :List Value→List Value→Bool
 | [],[]=> true
 | a::as,b::bs=> eqz a b && AJ as bs
 | _,_=> false
theorem we :∀ {as bs:List Value},AJ as bs=true→as=bs
 | [],[],_=> rfl
 | [],_::_,h=> by simp[AJ] at h
 | _::_,[],h=> by simp[AJ] at h
 | a::as,b::bs,h=> by
   simp only[AJ,Bool.and_eq_true] at h
   rw[Qh h.1,we h.2]
def IA (P:Program) (t:TypeId) (z:V):Bool:=
 zOK (ak P) z && match P.info? t with
 | some i=> match i.zero with
   | some (.agg cs)=> z.ty.isSome && AJ (zc z) cs.toList
   | some x=> z.ty.isNone && AJ (zc z) [x]
   | none=> false
 | none=> false
theorem IB {P:Program} {t:TypeId} {z:V} (h:IA P t z=true):er P (ak P) t z:=by
 simp only[IA,Bool.and_eq_true] at h
 obtain ⟨h1,h2⟩:=h
 split at h2
 case h_2=> cases h2
 rename_i i hi
 split at h2
 ·rename_i cs hz
  simp only[Bool.and_eq_true] at h2
  obtain ⟨n,hn⟩:=Option.isSome_iff_exists.1 h2.1
  refine ⟨i,_,hi,hz,fun c=>(eV hn).2 ⟨cs.toList,by simp,?_⟩⟩
  rw[←we h2.2];exact Iz z h1
 ·rename_i x hx hz
  simp only[Bool.and_eq_true] at h2
  have hn:z.ty=none:=by simpa using h2.1
  refine ⟨i,x,hi,hz,fun c=>(ea hn).2 ?_⟩
  rw[←we h2.2];exact Iz z h1
 ·cases h2
def AK (P:Program) (t:TypeId):Value→Option V
 | .bool b=> some (.s (.bool b))
 | .int k n=> some (.s (.int k n))
 | .string s=> some (.s (.string s))
 | .pointer none=> some (.s (.pointer none))
 | .nilIface=> some (.s .nilIface)
 | .nilFunc=> some (.s .nilFunc)
 | .slice none 0 0=> match P.underlying t with | some (.slice e)=> some (.al true (aC P e) []) | _=> none
 | _=> none
theorem D8 {P:Program} {L:cu} {c:Ctx} {t:TypeId} {u:Value} {v:V} (h:AK P t u=some v):RV L c v u:=by
 unfold AK at h
 split at h <;> first
   | (simp only[Option.some.injEq] at h;subst h;exact bx.2 ⟨rfl,rfl⟩)
   | (split at h
      ·simp only[Option.some.injEq] at h;subst h;exact eU (fun _=> rfl)
      ·cases h)
   | (cases h;done)
def eu (P:Program) (t:TypeId):Operand→Option X
 | .tmp n=> some (.t n)
 | .const v=>(AK P t v).map .c
 | .func f=> some (.c (.fn f []))
 | .global _=> none
def RF (L:cu) (c:Ctx) (fr:Fr) (a:Act):Prop:=fC L c fr a.tmps.toList
theorem fC.getD {L:cu} {c:Ctx} {vs:List V} {us:List Value} (h:fC L c vs us) (n:Nat):RV L c (vs.getD n (.bI [])) (us.getD n undef):=by
 by_cases hn:n < vs.length
 ·have uu:n < us.length:=by rw[h.length];exact hn
  have:=h.get n vs[n] us[n] (List.getElem?_eq_getElem hn) (List.getElem?_eq_getElem uu)
  simpa[List.getD,List.getElem?_eq_getElem hn,List.getElem?_eq_getElem uu] using this
 ·have uu:¬n < us.length:=by rw[h.length];exact hn
  simp only[List.getD,List.getElem?_eq_none (Nat.le_of_not_lt hn),List.getElem?_eq_none (Nat.le_of_not_lt uu),Option.getD_none]
  exact cy.2 ⟨[],rfl,trivial⟩
theorem q23z {P:Program} {L:cu} {c:Ctx} {t:TypeId} {fr:Fr} {a:Act} (hf:RF L c fr a) {o:Operand} {x:X} (h:eu P t o=some x):RV L c (x.ev fr) (a.eval o):=by
 cases o with
 | tmp n=>
   simp only[eu,Option.some.injEq] at h
   subst h
   have:=fC.getD hf n
   simpa[X.ev,Act.eval,Array.getD_eq_getD_getElem?] using this
 | const v=>
   simp only[eu] at h
   obtain ⟨y,hy,rfl⟩:=Option.map_eq_some_iff.1 h
   exact D8 hy
 | func f=>
   simp only[eu,Option.some.injEq] at h
   subst h
   exact Cn.2 ⟨[],rfl,trivial⟩
 | global _=> simp[eu] at h
def cx (P:Program):List (TypeId×Operand)→Option (List X)
 | []=> some []
 | (t,o)::os=> match eu P t o,cx P os with | some x,some xs=> some (x::xs) | _,_=> none
theorem q12z {P:Program} {L:cu} {c:Ctx} {fr:Fr} {a:Act} (hf:RF L c fr a):∀ {os:List (TypeId×Operand)} {xs:List X},cx P os=some xs→fC L c (xs.map (X.ev fr)) (os.map fun p=> a.eval p.2)
 | [],xs,h=> by simp only[cx,Option.some.injEq] at h;subst h;trivial
 | (t,o)::os,xs,h=> by
   simp only[cx] at h
   split at h
   ·rename_i x xs' h1 h2
    simp only[Option.some.injEq] at h
    subst h
    exact ⟨q23z hf h1,q12z hf h2⟩
   ·cases h
end Go.Vm
