/- Texts for DeviceBoots, part 5. Conditions: none. -/
import Derived.Test.YtannfageakbpmaaGreatCTd
import Derived.Test.YtannfageakbpmaaGreatProg
import Derived.Shelf.Spec.SlicesInsertGrow
import Derived.Lib.BytesEntry
import Derived.Lib.Bytealg
import Derived.Laws.Externs
import Derived.ProofKit
set_option linter.unusedSimpArgs false
set_option linter.unusedVariables false
set_option linter.unusedSectionVars false
namespace Go.Proofs.YtannfageakbpmaaGreat
open Go Go.Vm Go.Proofs Go.Cl
set_option maxRecDepth 100000
def doneRec :Record:=⟨4,0,0,1,zeroV,[]⟩
theorem done_wf :doneRec.wf:=⟨by simp[doneRec],by simp[doneRec],by simp[doneRec],by simp[doneRec],zeroV_wf,by simp[doneRec]⟩
theorem Lw.setP {h H:Hp} {id q g:Nat} {D:Dev} {F:List Nat} {P:Nat→Prop} {es es':List V} (l:Lw h H id D F P) (hq:P q) (hh:h.length≤q) (hg:H[q]? =some (.cells (some g) es)):
 Lw h (H.set q (.cells (some g) es')) id D F P∧∀j b,j≠q→H[j]? =some b→(H.set q (.cells (some g) es'))[j]? =some b:=by
 have f:Fw [q] H (H.set q (.cells (some g) es')):=Fw.set (by simp) hg
 have hn:=(l.pn q hq).1
 refine ⟨⟨l.d.mono f (fun j hj=> by simp;rintro rfl;exact hn hj),l.fw.set_new hh _,l.fn,fun j hj=>⟨(l.pn j hj).1,f.lt (l.pn j hj).2⟩⟩,fun j b hj hb=> by rw[List.getElem?_set_ne (Ne.symm hj)];exact hb⟩
theorem DeviceBoots_ok (b:Nat) (h:Hp) (n times:Int) (hn0: -9223372036854775808≤n) (hn1:n≤9223372036854775807) (ht0: -9223372036854775808≤times) (ht1:times≤9223372036854775807):run fns pr b 4 [.s (.int .i64 n),.s (.int .i64 times)] h=some (.s (.bool true),h):=by
 refine Vm.runP (nt:=99) rfl fit4 (by simp) ?_
 obtain ⟨v0,H0,e0',t,id,F0,mid,did,sp,sid,rfl,ht,d0,p0,f0,n0,l1,l2,l3,l4,l5,l6,l7⟩:=fresh_ok h.length h 0 1 (dg 8) (Nat.le_refl _) rfl (by decide) (by decide) (by decide) (by decide)
 have hi0:=HI.new (dg 8) (a:=0) (b:=1) (by decide) (by decide) (by decide) (by decide)
 have ow0:=own_new (dg 8)
 have hlt0:=q6z ht
 have st0:(Dev.new 0 1 (dg 8)).is=1∧(Dev.new 0 1 (dg 8)).fuse= -1:=⟨rfl,rfl⟩
 generalize Dev.new 0 1 (dg 8)=D0 at *
 have w0:Lw h H0 id D0 F0 (fun j=> j=t):=⟨d0,f0,fun j hj=>(n0 j hj).1,fun j hj=> by subst hj;exact ⟨fun hm=> by have:=n0 _ hm;omega,hlt0⟩⟩
 have hd1:(dg 8).map byteV=[.s (.int .u8 8),.s (.int .u8 0),.s (.int .u8 0),.s (.int .u8 0),.s (.int .u8 0),.s (.int .u8 0),.s (.int .u8 0),.s (.int .u8 0),.s (.int .u8 0),.s (.int .u8 0),.s (.int .u8 0),.s (.int .u8 0),.s (.int .u8 0),.s (.int .u8 0),.s (.int .u8 0),.s (.int .u8 0)]:=rfl
 rw[hd1] at e0'
 have hwi:=fun b H=> Within_ok b H n 0 7 (by omega) (by omega) (by omega) hn0 hn1
 have hwt:=fun b H=> Within_ok b H times 1 10 (by omega) (by omega) (by omega) ht0 ht1
 obtain ⟨K,hK,hK7⟩:∃K:Nat,within n 0 7=K∧K≤7:=⟨(within n 0 7).toNat,by have:=within_ge (n:=n) (lo:=0) (hi:=7) (by omega);omega,by have:=within_le (n:=n) (lo:=0) (hi:=7) (by omega);omega⟩
 obtain ⟨T,hT,hT10⟩:∃T:Nat,within times 1 10=T∧T≤10:=⟨(within times 1 10).toNat,by have:=within_ge (n:=times) (lo:=1) (hi:=10) (by omega);omega,by have:=within_le (n:=times) (lo:=1) (hi:=10) (by omega);omega⟩
 rw[hK] at hwi
 rw[hT] at hwt
 have hkn:=fun b H=> known18_ok b H
 have hde:doneRec.enc=V.st 41 [.s (.int .i64 4),ki,ki,.s (.int .u64 1),.st 31 [z4 27,ku,z16 25,kx,ki,ki,z16 25,.s (.bool false),.s (.bool false)],.imm false (some 31) []]:=rfl
 generalize htwo:Blk.cells (some 47) [.st 47 [.ptr id [0] 1,.ptr mid [0] 1,.s (.pointer none),.s (.pointer none)]]=TW at *
 simp only[B4,B4R0,B4R2,B4L2,B4L0,e0',hwi,go_sem,↓reduceIte,Nat.reduceEqDiff,Nat.reduceBEq,Nat.reduceAdd,Nat.reduceSub,Nat.reduceLT,Nat.reduceLeDiff,Int.reduceLT,Int.reduceLE,Int.reduceEq,Int.reduceToNat]
 refine wp_for (fun q e H=>∃(i:Nat) (D:Dev) (F:List Nat),q=K - i∧i≤K∧e 7= .s (.int .i64 (i:Nat))∧e 6= .s (.int .i64 (K:Nat))∧e 5= .ptr t [0] 1∧e 1= .s (.int .i64 times)∧Lw h H id D F (fun j=> j=t)∧H[t]? =some TW∧HI (6 *(i:Nat)) D∧D.is=1∧D.fuse= -1∧allOwn D.st)
   (fun e H=>∃(D:Dev) (F:List Nat),e 5= .ptr t [0] 1∧e 1= .s (.int .i64 times)∧Lw h H id D F (fun j=> j=t)∧H[t]? =some TW∧HI 42 D∧D.is=1)
   K _ _ ⟨0,D0,F0,rfl,by omega,rfl,rfl,rfl,rfl,w0,ht,hi0.wk (by omega),st0.1,st0.2,ow0⟩ ?_ ?_
 ·rintro q e H ⟨i,D,F,rfl,hi,e7,e6,e5,e1,w,tw,hI,is1,fu,ow⟩
  by_cases ci:i < K
  ·have ci':(i:Int)<((K:Nat):Int):=by omega
   have w1:IntKind.i64.wrap ((i:Int)+1)=((i+1:Nat):Int):=q18z (by omega)
   have hre:(keepRec (goneOf [bt i,3,0,0])).enc=V.st 41 [.s (.int .i64 1),ki,ki,ku,.st 31 [.arr 27 [byteV (bt i),.s (.int .u8 3),.s (.int .u8 0),.s (.int .u8 0)],.s (.int .u64 1),z16 25,kx,ki,ki,z16 25,.s (.bool true),.s (.bool false)],.imm false (some 31) []]:=rfl
   have hrr:=keep_right (gone_right [bt i,3,0,0])
   have hrw:=keep_wf (gone_wf (id:=[bt i,3,0,0]) rfl)
   have hkk:(keepRec (goneOf [bt i,3,0,0])).kind=1:=rfl
   generalize keepRec (goneOf [bt i,3,0,0])=R at *
   obtain ⟨v2,H2,e2,rfl,F2,d2,f2,n2⟩:=Do_ok h.length H id D F R w.fn w.d _ (by omega) hI.ok hrw hrw.vaults.2
   obtain ⟨w2,k2⟩:=w.op d2 f2 n2
   have tw2:=k2 _ _ rfl tw
   have key:(D.do R).1≠29∧HI (6 *((i+1:Nat):Int)) (D.do R).2∧(D.do R).2.is=1∧(D.do R).2.fuse= -1∧allOwn (D.do R).2.st:=by
     rcases own_check ow hrr hkk with hc | hc
     ·obtain ⟨u1,u2,u3,u4,u5⟩:=do_free hI (by omega) hrw is1 hc (by omega)
      obtain ⟨hJ,kp⟩:=hI.do (by omega) hrw is1 hc
      refine ⟨by omega,hJ.wk (by omega),u2,by omega,?_⟩
      rcases kp with ⟨_,z,_,_⟩ | ⟨_,_,z,_⟩
      ·rw[z];exact ow
      ·rw[z];exact own_apply ow hkk
     ·have:=do_no is1 (r:=R) (by omega)
      rw[this,hc]
      exact ⟨by omega,hI.wk (by omega),is1,fu,ow⟩
   obtain ⟨y1,y2,y3,y4,y5⟩:=key
   subst htwo
   simp only[e7,e6,e5,e1,ci',bt_v,hre.symm,tw,e2,y1,w1,go_sem,↓reduceIte,Nat.reduceEqDiff,Nat.reduceBEq,Nat.reduceAdd,Nat.reduceSub,Nat.reduceLT,Nat.reduceLeDiff,Int.reduceLT,Int.reduceLE,Int.reduceEq,Int.reduceToNat]
   exact ⟨K - (i+1),by omega,i+1,_,F2,rfl,by omega,rfl,w2,tw2,y2,y3,y4,y5⟩
  ·have ci':¬(i:Int)<((K:Nat):Int):=by omega
   simp only[e7,e6,e5,e1,ci',go_sem,↓reduceIte,Nat.reduceEqDiff,Nat.reduceBEq,Nat.reduceAdd,Nat.reduceSub,Nat.reduceLT,Nat.reduceLeDiff,Int.reduceLT,Int.reduceLE,Int.reduceEq,Int.reduceToNat]
   exact ⟨D,F,w,tw,hI.wk (by omega),is1⟩
 ·rintro e H ⟨D,F,e5,e1,w,tw,hI,is1⟩
  have hrg:=fun b=> Register_ok b H id D F w.d
  have hle:=w.fw.len
  have hor:∀x,(decide (h.length≤H.length) || x)=true:=fun x=> by rw[decide_eq_true hle];rfl
  have fA:Fw [] H (H++[Blk.cells (some 53) [D.r.enc]]):=Fw.app [] H _
  have hrty:=Register.enc_ty D.r
  have hrso:=Register.enc_so D.r
  have wA:Lw h (H++[Blk.cells (some 53) [D.r.enc]]) id D F (fun j=> j=t∨j=H.length):=w.ext fA (fun j hj=> by
    rcases hj with rfl | rfl
    ·exact .inl rfl
    ·exact .inr ⟨Nat.le_refl _,by simp⟩)
  have twA:=q10z tw [Blk.cells (some 53) [D.r.enc]]
  have rgA:(H++[Blk.cells (some 53) [D.r.enc]])[H.length]? =some (Blk.cells (some 53) [D.r.enc]):=get_app0 _ _
  have hne:H.length≠t:=by have:=(w.pn t rfl).2;omega
  generalize hqe:H.length=q0 at *
  subst htwo
  simp only[e5,e1,tw,hrg,hor,hrty,hrso,hqe,go_sem,↓reduceIte,Nat.reduceEqDiff,Nat.reduceBEq,Nat.reduceAdd,Nat.reduceSub,Nat.reduceLT,Nat.reduceLeDiff,Int.reduceLT,Int.reduceLE,Int.reduceEq,Int.reduceToNat]
  generalize htwo:Blk.cells (some 47) [.st 47 [.ptr id [0] 1,.ptr mid [0] 1,.s (.pointer none),.s (.pointer none)]]=TW at *
  refine wp_for (fun q e H=>∃(i:Nat) (D:Dev) (F:List Nat),q=T - i∧i≤T∧e 9= .s (.int .i64 (i:Nat))∧e 8= .ptr q0 [0] 1∧e 5= .ptr t [0] 1∧e 1= .s (.int .i64 times)∧Lw h H id D F (fun j=> j=t∨j=q0)∧H[t]? =some TW∧H[q0]? =some (Blk.cells (some 53) [D.r.enc])∧HI (42+4 *(i:Nat)) D∧D.is=1)
    (fun e H=> Fw [] h H)
    T _ _ ⟨0,D,F,rfl,by omega,rfl,rfl,e5,e1,wA,twA,rgA,hI.wk (by omega),is1⟩ ?_ ?_
  ·rintro q e H ⟨i,D,F,rfl,hi,e9,e8,e5,e1,w,tw,rg,hI,is1⟩
   by_cases ci:i < T
   ·have ci':(i:Int)<((T:Nat):Int):=by omega
    have w1:IntKind.i64.wrap ((i:Int)+1)=((i+1:Nat):Int):=q18z (by omega)
    obtain ⟨v2,H2,e2,rfl,d2,f2⟩:=Stop_ok h.length H id D F w.fn w.d
    obtain ⟨w2,k2⟩:=w.op d2 f2 (fun j hj=> .inl hj)
    have tw2:=k2 _ _ (.inl rfl) tw
    have rg2:=k2 _ _ (.inr rfl) rg
    have hI2:=hI.stop
    have i2:D.stop.is=2:=by unfold Dev.stop;rw[if_pos is1];rfl
    have r2:D.stop.r=D.r:=by unfold Dev.stop;rw[if_pos is1];rfl
    have h82:heldG D.stop.r < 8:=by rw[r2];exact hI.hl is1
    rw[←r2] at rg2
    generalize D.stop=D2 at *
    have his:=fun b=> Is_ok b H2 id D2 F w2.d
    rw[i2] at his
    obtain ⟨v3,H3,e3,hv3⟩:=View_ok h.length H2 id D2 F w2.fw.len w2.d hI2.ok.so
    rw[if_neg (by omega)] at hv3
    obtain ⟨rfl,rfl⟩:=hv3
    obtain ⟨v4,H4,e4,rfl,F4,d4,f4,n4⟩:=Do_ok h.length H3 id D2 F doneRec w2.fn w2.d _ (by omega) hI2.ok done_wf done_wf.vaults.2
    rw[do_down i2] at d4 e4
    obtain ⟨w4,k4⟩:=w2.op d4 f4 n4
    have tw4:=k4 _ _ (.inl rfl) tw2
    have rg4:=k4 _ _ (.inr rfl) rg2
    obtain ⟨v5,H5,e5',rfl,F5,d5,f5,n5⟩:=Start_ok h.length H4 id D2 F4 w4.fn w4.d _ (by omega) hI2.ok hI2.dm
    obtain ⟨w5,k5⟩:=w4.op d5 f5 n5
    have tw5:=k5 _ _ (.inl rfl) tw4
    have rg5:=k5 _ _ (.inr rfl) rg4
    obtain ⟨hI5,z1,z2,z3,z4,z5⟩:=hI2.start (by omega) i2
    have z5:=z5 h82
    have z6:D2.start.1=0:=by rw[z5]
    have z7:D2.start.2.is=1:=by rw[z5];rfl
    have z8:D2.start.2.r=⟨D2.r.boot+1,D2.r.count,D2.r.base,D2.r.head,D2.r.point⟩:=by rw[z5]
    rw[z6] at e5'
    generalize D2.start.2=D5 at *
    obtain ⟨v6,H6,e6',rfl,F6,d6,f6,n6⟩:=Start_ok h.length H5 id D5 F5 w5.fn w5.d _ (by omega) hI5.ok hI5.dm
    obtain ⟨w6,k6⟩:=w5.op d6 f6 n6
    have z9:D5.start=(14,D5):=by unfold Dev.start;rw[if_pos z7]
    rw[z9] at e6' w6
    have tw6:=k6 _ _ (.inl rfl) tw5
    have rg6:=k6 _ _ (.inr rfl) rg5
    have hbw:IntKind.u64.wrap (D2.r.boot+1)=D2.r.boot+1:=by have:=hI2.ok.gw.boot;have:=hI2.cn;exact wrap_u64 (by omega) (by omega)
    obtain ⟨w7,k7⟩:=w6.setP (es':=[D5.r.enc]) (.inr rfl) (by omega) rg6
    have tw7:=k7 _ _ (Ne.symm hne) tw6
    have rg7:(H6.set q0 (.cells (some 53) [D5.r.enc]))[q0]? =some (.cells (some 53) [D5.r.enc]):=q9z rg6
    have hrg7:=fun b=> Register_ok b _ id D5 F6 w7.d
    have hq:=fun cf base h=> eqs_reg D5.r hI5.ok.gw cf base h
    have hdr:D2.r.enc=V.st 53 [.s (.int .u64 D2.r.boot),.s (.int .u64 D2.r.count),.s (.int .u64 D2.r.base),.arr 25 (D2.r.head.map byteV),.s (.int .i64 D2.r.point)]:=rfl
    have hd5:D5.r.enc=V.st 53 [.s (.int .u64 (D2.r.boot+1)),.s (.int .u64 D2.r.count),.s (.int .u64 D2.r.base),.arr 25 (D2.r.head.map byteV),.s (.int .i64 D2.r.point)]:=by rw[z8];rfl
    rw[hdr] at rg6
    have hq0:decide (h.length≤q0)=true:=decide_eq_true (by omega)
    subst htwo
    simp only[e9,e8,e5,e1,ci',hwt,tw,e2,tw2,his,e3,hde.symm,e4,tw4,e5',tw5,e6',tw6,rg6,hbw,hq0,hd5.symm,tw7,rg7,hrg7,hq,w1,Register.enc_ty,Register.enc_so,go_sem,↓reduceIte,Nat.reduceEqDiff,Nat.reduceBEq,Nat.reduceAdd,Nat.reduceSub,Nat.reduceLT,Nat.reduceLeDiff,Int.reduceLT,Int.reduceLE,Int.reduceEq,Int.reduceToNat]
    exact ⟨T - (i+1),by omega,i+1,D5,F6,rfl,by omega,rfl,w7,rfl,hI5.wk (by omega),z7⟩
   ·have ci':¬(i:Int)<((T:Nat):Int):=by omega
    simp only[e9,e8,e5,e1,ci',hwt,go_sem,↓reduceIte,Nat.reduceEqDiff,Nat.reduceBEq,Nat.reduceAdd,Nat.reduceSub,Nat.reduceLT,Nat.reduceLeDiff,Int.reduceLT,Int.reduceLE,Int.reduceEq,Int.reduceToNat]
    exact w.fw
  ·rintro e H fw
   have htk:=fw.take
   simp only[hkn,htk,go_sem,↓reduceIte,Nat.reduceEqDiff,Nat.reduceBEq,Nat.reduceAdd,Nat.reduceSub,Nat.reduceLT,Nat.reduceLeDiff,Int.reduceLT,Int.reduceLE,Int.reduceEq,Int.reduceToNat]
end Go.Proofs.YtannfageakbpmaaGreat
namespace Go.Proofs.YtannfageakbpmaaGreat
open Go Go.Proofs Go.Shelf Go.RowKit Go.Lib
theorem run_copy_cellsZ {P:Program} (w:World) (dT sT ty elem:TypeId) (b o dLen dCap:Nat) (a:Addr) (sLen sCap:Nat) (cs:List Value) (sz m:Nat)
 (hu:P.underlying dT=some (.slice elem)) (hs:(P.info? elem).map (·.size)=some sz) (hm:Nat.min sLen dLen=m) (hn:cs.length=m * sz)
 (hsrc:∀j v,cs[j]? =some v→w.cell? (a.add j)=some v) (hc:∀j,j < cs.length→(w.cell? ⟨b,o+j,none⟩).isSome=true) (hf:∀j,j < cs.length→w.frozen? ⟨b,o+j,none⟩=false) (h1:∀v∈cs,v.oneCell'=true):
 (Builtin.copy_ #[dT,sT] ty #[.slice (some ⟨b,o,none⟩) dLen dCap,.slice (some a) sLen sCap]).run P w= .ok (goInt m) (w.setCells b o cs):=by
 have hl:=run_loadCells_list (P:=P) w a cs hsrc
 have hst:=run_storeCells_cells (P:=P) b o cs 0 w (by simpa using hc) (by simpa using hf) h1
 cases hq:P.info? elem with
 | none=> simp[hq] at hs
 | some i=>
   have hi:i.size=sz:=by simpa[hq] using hs
   simp[Builtin.copy_,run_underlying hu,Builtin.lenOf,Builtin.firstCells,sizeOf,typeInfo,hq,hi,hm,←hn,hl,hst]
set_option maxHeartbeats 4000000 in
set_option maxRecDepth 100000 in
theorem ins_shift (b n c i vb voff vc:Nat) (cs vs:List Value) (w:World) (hi:i < n) (hroom:n+1≤c) (hc63:n+1≤9223372036854775807) (hvb:vb≠b)
 (hcl:cs.length=n * 42) (hvl:vs.length=42)
 (hcs:∀j v,cs[j]? =some v→w.cell? ⟨b,j,none⟩=some v) (hsp:∀j,j <(n+1)* 42→(w.cell? ⟨b,j,none⟩).isSome=true) (hfz:∀j,j <(n+1)* 42→w.frozen? ⟨b,j,none⟩=false)
 (hvs:∀j v,vs[j]? =some v→w.cell? ⟨vb,voff+j,none⟩=some v) (h1c:∀v∈cs,v.oneCell'=true) (h1v:∀v∈vs,v.oneCell'=true)
 (tA tB:TypeId) (kA kB:Nat) (hsa:w.shape? vb=some (tA,kA)) (hsb:w.shape? b=some (tB,kB)) (hkB:kB≠0) (hfa:w.frozen? ⟨vb,voff,none⟩=false) (hfe:w.frozen? ⟨vb,kA,none⟩=false):
 Calls Tryz.prog 97 #[.slice (some ⟨b,0,none⟩) n c,.int .i64 i,.slice (some ⟨vb,voff,none⟩) 1 vc] w fun e w'=>
   e= .returned (.slice (some ⟨b,0,none⟩) (n+1) c)∧w'=(w.drew.setCells b ((i+1)* 42) (cs.drop (i * 42))).setCells b (i * 42) vs:=by
 have hz2:¬((i:Int)=(n:Int)):=by omega
 have hsz:(Tryz.prog.info? 32).map (·.size)=some 42:=by kernel_rfl
 have hzz:∀w,(Go.sizeOf 32).run Tryz.prog w= .ok 42 w:=fun w=> by
   obtain ⟨i0,h1,h2⟩:=Option.map_eq_some_iff.1 hsz
   simp[Go.sizeOf,typeInfo,h1,h2]
 have hov:∀o lb cb,(callFunc 113 #[.slice (some ⟨vb,voff,none⟩) 1 vc,.slice (some ⟨b,o,none⟩) lb cb]).run Tryz.prog w= .ok (.value (.bool false)) w:=fun o lb cb=> by
   rw[run_callFunc_extern Tryz.func113 (by kernel_rfl) (by kernel_rfl) (by kernel_rfl) (e:=Extern.SlicesOverlaps.overlaps #[40,40] #[4]) (by kernel_rfl),
    Lib.run_overlaps_apart w 40 4 32 Tryz.underlying40 42 hzz ⟨vb,voff,none⟩ ⟨b,o,none⟩ 1 vc lb cb hvb tA tB kA kB hsa hsb hkB hfa hfe]
   rfl
 have hdl:(cs.drop (i * 42)).length=(n - i)* 42:=by rw[List.length_drop,hcl,Nat.sub_mul]
 have mixed:Tryz.prog.follows .mixedOrders=true:=by kernel_rfl
 have hw1:IntKind.i64.wrap ((n:Int)+1)=(n:Int)+1:=by rw[IntKind.wrap_i64];omega
 have hw2:IntKind.i64.wrap ((i:Int)+1)=(i:Int)+1:=by rw[IntKind.wrap_i64];omega
 have hb1:(0:Int)≤(i:Int)+1:=by omega
 have hin:i≤n:=by omega
 have htn:((i:Int)+1).toNat=i+1:=by omega
 have htn2:((n:Int)+1).toNat=n+1:=by omega
 have hb2:¬(c=i+1):=by omega
 have hb3:(i:Int)≤(n:Int)+1:=by omega
 have hb4:¬(c=i):=by omega
 have hb5:¬((c:Int)<(n:Int)+1):=by omega
 have hcp1:∀ty dc sc,(Builtin.copy_ #[40,40] ty #[.slice (some ⟨b,(i+1)* 42,none⟩) (n - i) dc,.slice (some ⟨b,i * 42,none⟩) (n+1 - i) sc]).run Tryz.prog w.drew= .ok (goInt ((n - i:Nat):Int)) (w.drew.setCells b ((i+1)* 42) (cs.drop (i * 42))):=fun ty dc sc=>
   run_copy_cellsZ w.drew _ _ ty 32 b ((i+1)* 42) (n - i) dc ⟨b,i * 42,none⟩ (n+1 - i) sc (cs.drop (i * 42)) 42 (n - i) Tryz.underlying40 hsz (by simp only[Nat.min_def];split <;> omega) hdl
     (fun j v hj=> by rw[Addr.add_lit];exact hcs (i * 42+j) v (by rwa [List.getElem?_drop] at hj))
     (fun j hj=> hsp _ (by omega)) (fun j hj=> hfz _ (by omega)) (fun v hv=> h1c v (List.mem_of_mem_drop hv))
 obtain ⟨W1,hW1⟩:∃W1,W1=w.drew.setCells b ((i+1)* 42) (cs.drop (i * 42)):=⟨_,rfl⟩
 have hsp1:∀k,k <(n+1)* 42→(W1.cell? ⟨b,k,none⟩).isSome=true:=fun k hk=> by
   rw[hW1]
   exact isSome_setCells b (cs.drop (i * 42)) ((i+1)* 42) w.drew (fun j hj=> hsp _ (by rw[hdl] at hj;omega)) k (hsp k hk)
 have hcp2:∀(W:World),(∀x,W.cell? x=W1.cell? x)→(∀x,W.frozen? x=W1.frozen? x)→∀ty dc,(Builtin.copy_ #[40,40] ty #[.slice (some ⟨b,i * 42,none⟩) (n+1 - i) dc,.slice (some ⟨vb,voff,none⟩) 1 vc]).run Tryz.prog W= .ok (goInt 1) (W.setCells b (i * 42) vs):=fun W hWc hWf ty dc=>
   run_copy_cellsZ W _ _ ty 32 b (i * 42) (n+1 - i) dc ⟨vb,voff,none⟩ 1 vc vs 42 1 Tryz.underlying40 hsz (by simp only[Nat.min_def];split <;> omega) (by rw[hvl])
     (fun j v hj=> by
       rw[Addr.add_lit,hWc,hW1,World.cell?_setCells_out b _ _ _ _ (fun h _=> absurd h hvb)]
       exact hvs j v hj)
     (fun j hj=> by rw[hWc];exact hsp1 _ (by omega)) (fun j hj=> by rw[hWf,hW1,World.frozen?_setCells];exact hfz _ (by omega)) h1v
 rw[←hW1] at hcp1
 go_enter Tryz.func97,Tryz.ntmps97
 go_wp2_with (simp only[hov])
 go_region_law_o (refine step_copy_runI rfl _ _ 40 40 rfl _ _ (by simp[Act.eval,Act.put]) (by simp[Act.eval,Act.put]) (hcp1 _ _ _) ?_)
 go_wp2_with (at_builtin;refine wpList_copy_runI _ rfl _ _ 40 40 rfl _ _ rfl rfl (hcp2 _ (fun _=> rfl) (fun _=> rfl) _ _) ?_)
 go_ret
 first | exact ⟨rfl,rfl⟩ | exact ⟨rfl,by rw[hW1]⟩
set_option maxHeartbeats 4000000 in
set_option maxRecDepth 100000 in
theorem ins_grow (b n c i vb voff vc:Nat) (cs vs:List Value) (w:World) (i0:TypeInfo) (z:Value) (hi0:Tryz.prog.info? 32=some i0) (hz0:i0.zero=some z) (hzs:i0.size=42) (hzc:z.cells.size=42) (hby:0 < i0.bytes)
 (hi:i < n) (hnc:n≤c) (hroom:c < n+1) (hbig:(n+1)* i0.bytes≤140737488355328)
 (hcl:cs.length=n * 42) (hvl:vs.length=42)
 (hcs:∀j v,cs[j]? =some v→w.cell? ⟨b,j,none⟩=some v)
 (hvs:∀j v,vs[j]? =some v→w.cell? ⟨vb,voff+j,none⟩=some v) (h1c:∀v∈cs,v.oneCell'=true) (h1v:∀v∈vs,v.oneCell'=true):
 Calls Tryz.prog 97 #[.slice (some ⟨b,0,none⟩) n c,.int .i64 i,.slice (some ⟨vb,voff,none⟩) 1 vc] w fun e w'=>
   e= .returned (.slice (some ⟨w.heap.size,0,none⟩) (n+1) (grownCap w (n+1) c 32))∧
   w'=(((w.alloc (.cells ((cs.take (i * 42)).toArray++Builtin.zeroCells z.cells (n+1 - i)++Builtin.zeroCells z.cells (grownCap w (n+1) c 32 - (n+1))) 32)).drew.setCells w.heap.size (i * 42) vs).drew).setCells w.heap.size ((i+1)* 42) (cs.drop (i * 42)):=by
 have mixed:Tryz.prog.follows .mixedOrders=true:=by kernel_rfl
 have hz2:¬((i:Int)=(n:Int)):=by omega
 have hz3:(c:Int)<(n:Int)+1:=by omega
 have hsz:(Tryz.prog.info? 32).map (·.size)=some 42:=by rw[hi0];simp[hzs]
 have hbw:b < w.heap.size:=block_lt_of_cell (hcs 0 _ (List.getElem?_eq_getElem (by omega)))
 have hvw:vb < w.heap.size:=block_lt_of_cell (hvs 0 _ (List.getElem?_eq_getElem (by omega)))
 have hnb:n+1≤140737488355328:=Nat.le_trans (Nat.le_mul_of_pos_right _ hby) hbig
 have hkk:(n:Int)+1 - (i:Int)=((n+1 - i:Nat):Int):=by omega
 have hik:i+(n+1 - i)=n+1:=by omega
 have htl:(cs.take (i * 42)).length=i * 42:=by rw[List.length_take,hcl];omega
 have hold:(Builtin.firstCells i0.size i (.slice (some ⟨b,0,none⟩) i c)).run Tryz.prog w.drew= .ok (cs.take (i * 42)).toArray w.drew:=by
   rw[hzs]
   exact run_firstCells_some w.drew 42 i ⟨b,0,none⟩ i c (cs.take (i * 42)) htl (fun j v hj=> by
     rw[Addr.add_lit,Nat.zero_add]
     rw[List.getElem?_take] at hj
     split at hj
     ·exact hcs j v hj
     ·cases hj)
 have hkb:(n+1 - i)* i0.bytes≤281474976710656:=by
   have:(n+1 - i)* i0.bytes≤(n+1)* i0.bytes:=Nat.mul_le_mul_right _ (by omega)
   omega
 have hrz:∀ty,(Builtin.append_ #[40,3] ty #[.slice (some ⟨b,0,none⟩) i c,.int .i64 ((n:Int)+1 - (i:Int))]).run Tryz.prog w=
  .ok (.slice (some ⟨w.heap.size,0,none⟩) (n+1) (grownCap w (n+1) c 32)) (w.drew.alloc (.cells ((cs.take (i * 42)).toArray++Builtin.zeroCells z.cells (n+1 - i)++Builtin.zeroCells z.cells (grownCap w (n+1) c 32 - (n+1))) 32)):=fun ty=> by
   have h:=Lib.run_append_grow_zeros w 40 3 ty 32 i0 z .i64 .i64 Tryz.underlying40 Tryz.underlying3 hi0 hz0 (some ⟨b,0,none⟩) i c (cs.take (i * 42)) hold (n+1 - i) (by omega) (by omega) (by omega) (by omega) hkb (by rw[hik];exact growslice_fits hroom hbig)
   rw[hik] at h
   rw[hkk]
   exact h
 obtain ⟨G,hG⟩:∃G,G=grownCap w (n+1) c 32:=⟨_,rfl⟩
 obtain ⟨ROW,hROW⟩:∃ROW:Array Value,ROW=(cs.take (i * 42)).toArray++Builtin.zeroCells z.cells (n+1 - i)++Builtin.zeroCells z.cells (G - (n+1)):=⟨_,rfl⟩
 rw[←hG] at hrz ⊢
 rw[←hROW] at hrz ⊢
 have hRl:(n+1)* 42≤ROW.size:=by
   rw[hROW]
   simp[Builtin.zeroCells,hzc]
   omega
 obtain ⟨W1,hW1⟩:∃W1,W1=w.drew.alloc (.cells ROW 32):=⟨_,rfl⟩
 rw[←hW1] at hrz
 have hN:∀j,j <(n+1)* 42→(W1.cell? ⟨w.heap.size,j,none⟩).isSome=true:=fun j hj=> by
   rw[hW1,World.cell?_alloc_at (w:=w.drew) ROW _ w.heap.size j rfl,Array.getElem?_eq_getElem (by omega)];rfl
 have hNf:∀j,W1.frozen? ⟨w.heap.size,j,none⟩=false:=fun j=> by rw[hW1];exact World.frozen?_alloc_at (w:=w.drew) ROW _ w.heap.size j rfl
 have hOb:∀j v,w.cell? ⟨b,j,none⟩=some v→W1.cell? ⟨b,j,none⟩=some v:=fun j v h=> by rw[hW1,World.cell?_alloc_past (w:=w.drew) _ b j hbw];exact h
 have hOv:∀j v,w.cell? ⟨vb,j,none⟩=some v→W1.cell? ⟨vb,j,none⟩=some v:=fun j v h=> by rw[hW1,World.cell?_alloc_past (w:=w.drew) _ vb j hvw];exact h
 have hcpA:∀(W:World),(∀x,W.cell? x=W1.cell? x)→(∀x,W.frozen? x=W1.frozen? x)→∀ty dc,(Builtin.copy_ #[40,40] ty #[.slice (some ⟨w.heap.size,i * 42,none⟩) (n+1 - i) dc,.slice (some ⟨vb,voff,none⟩) 1 vc]).run Tryz.prog W= .ok (goInt 1) (W.setCells w.heap.size (i * 42) vs):=fun W hWc hWf ty dc=>
   run_copy_cellsZ W _ _ ty 32 w.heap.size (i * 42) (n+1 - i) dc ⟨vb,voff,none⟩ 1 vc vs 42 1 Tryz.underlying40 hsz (by simp only[Nat.min_def];split <;> omega) (by rw[hvl])
     (fun j v hj=> by rw[Addr.add_lit,hWc];exact hOv _ v (hvs j v hj))
     (fun j hj=> by rw[hWc];exact hN _ (by omega)) (fun j hj=> by rw[hWf];exact hNf _) h1v
 have hGn:n+1≤G:=by rw[hG];exact grownCap_ge w _ _ _
 have hG63:G≤9223372036854775807:=by
   have:=grownCap_le_maxLen w (n+1) c 32 (by unfold maxLen;omega)
   rw[←hG] at this
   unfold maxLen at this
   omega
 have hGi:¬(G=i):=by omega
 have hGim:¬(G=i+1):=by omega
 have hci:¬(c=i):=by omega
 have hbN:b≠w.heap.size:=by omega
 have hdl:(cs.drop (i * 42)).length=(n - i)* 42:=by rw[List.length_drop,hcl,Nat.sub_mul]
 have hcpB:∀(W:World),(∀x,W.cell? x=(W1.setCells w.heap.size (i * 42) vs).cell? x)→(∀x,W.frozen? x=(W1.setCells w.heap.size (i * 42) vs).frozen? x)→∀ty dc sc,(Builtin.copy_ #[40,40] ty #[.slice (some ⟨w.heap.size,(i+1)* 42,none⟩) (n - i) dc,.slice (some ⟨b,i * 42,none⟩) (n - i) sc]).run Tryz.prog W= .ok (goInt ((n - i:Nat):Int)) (W.setCells w.heap.size ((i+1)* 42) (cs.drop (i * 42))):=fun W hWc hWf ty dc sc=>
   run_copy_cellsZ W _ _ ty 32 w.heap.size ((i+1)* 42) (n - i) dc ⟨b,i * 42,none⟩ (n - i) sc (cs.drop (i * 42)) 42 (n - i) Tryz.underlying40 hsz (by simp only[Nat.min_def];split <;> omega) hdl
     (fun j v hj=> by
       rw[Addr.add_lit,hWc,World.cell?_setCells_out _ _ _ _ _ (fun h _=> absurd h hbN)]
       exact hOb _ v (hcs (i * 42+j) v (by rwa [List.getElem?_drop] at hj)))
     (fun j hj=> by rw[hWc];exact isSome_setCells _ _ _ _ (fun t ht=> hN _ (by omega)) _ (hN _ (by omega)))
     (fun j hj=> by rw[hWf,World.frozen?_setCells];exact hNf _) (fun v hv=> h1c v (List.mem_of_mem_drop hv))
 subst hW1
 have hE1:∀x,((w.alloc (.cells ROW 32)).drew).cell? x=(w.drew.alloc (.cells ROW 32)).cell? x:=fun x=> rfl
 have hE2:∀x,((w.alloc (.cells ROW 32)).drew).frozen? x=(w.drew.alloc (.cells ROW 32)).frozen? x:=fun x=> rfl
 have hF1:∀x,(((w.alloc (.cells ROW 32)).drew.setCells w.heap.size (i * 42) vs).drew).cell? x=((w.drew.alloc (.cells ROW 32)).setCells w.heap.size (i * 42) vs).cell? x:=fun x=> rfl
 have hF2:∀x,(((w.alloc (.cells ROW 32)).drew.setCells w.heap.size (i * 42) vs).drew).frozen? x=((w.drew.alloc (.cells ROW 32)).setCells w.heap.size (i * 42) vs).frozen? x:=fun x=> rfl
 have hw1:IntKind.i64.wrap ((i:Int)+1)=(i:Int)+1:=by rw[IntKind.wrap_i64];omega
 have hb1:(0:Int)≤(i:Int)+1:=by omega
 have hin:i≤n:=by omega
 have htn:((i:Int)+1).toNat=i+1:=by omega
 have hb3:(i:Int)≤(n:Int):=by omega
 clear hkk hik hold hROW hG hRl
 go_enter Tryz.func97,Tryz.ntmps97
 go_wp2_with (first
   | (at_builtin;refine Lib.wpList_append_run _ rfl _ _ _ _ rfl _ _ rfl rfl _ _ (hrz _) ?_)
   | (at_builtin;refine wpList_copy_runI _ rfl _ _ 40 40 rfl _ _ rfl rfl (hcpA _ hE1 hE2 _ _) ?_)
   | (at_builtin;refine wpList_copy_runI _ rfl _ _ 40 40 rfl _ _ rfl rfl (hcpB _ (fun _=> rfl) (fun _=> rfl) _ _ _) ?_))
 go_region_law_o (refine step_copy_runI rfl _ _ 40 40 rfl (.slice (some ⟨w.heap.size,(i+1)* 42,none⟩) (n - i) (G - (i+1))) (.slice (some ⟨b,i * 42,none⟩) (n - i) (c - i)) (by simp[Act.eval,Act.put]) (by simp[Act.eval,Act.put]) (hcpB _ hF1 hF2 3 (G - (i+1)) (c - i)) ?_)
 go_wp2
 go_ret
 exact ⟨rfl,rfl⟩
set_option maxHeartbeats 4000000 in
set_option maxRecDepth 100000 in
theorem ins_end (a:Option Addr) (n c vc:Nat) (ay:Addr) (w w':World) (u:Value) (hnc:n≤c) (hnil:a=none→n=0)
 (hrun:(Builtin.append_ #[40,40] 40 #[.slice a n c,.slice (some ay) 1 vc]).run Tryz.prog w= .ok u w'):
 Calls Tryz.prog 97 #[.slice a n c,.int .i64 n,.slice (some ay) 1 vc] w fun e w2=> e= .returned u∧w2=w':=by
 have mixed:Tryz.prog.follows .mixedOrders=true:=by kernel_rfl
 go_enter Tryz.func97,Tryz.ntmps97
 cases a with
 | none=>
   have h0:=hnil rfl
   subst h0
   go_wp2_with (at_builtin;refine Lib.wpList_append_run _ rfl _ _ _ _ rfl _ _ rfl rfl _ _ hrun ?_)
   go_ret
   exact ⟨rfl,rfl⟩
 | some a=>
   obtain ⟨ab,ao,asp⟩:=a
   go_wp2_with (at_builtin;refine Lib.wpList_append_run _ rfl _ _ _ _ rfl _ _ rfl rfl _ _ hrun ?_)
   all_goals (go_ret;exact ⟨rfl,rfl⟩)
end Go.Proofs.YtannfageakbpmaaGreat
namespace Go.Proofs.YtannfageakbpmaaGreat
open Go Go.Vm Go.Proofs Go.Cl
set_option maxRecDepth 100000
theorem csz_V :(layOf Tryz.prog).csz (some 31)=42:=by kernel_rfl
theorem tag_V :tagOf Tryz.prog 32=some 31:=by kernel_rfl
theorem TG_V :TG Tryz.prog (layOf Tryz.prog) 32 (some 31):=by
 have:=tgB_TG (P:=Tryz.prog) (t:=32) (by kernel_rfl)
 rw[tag_V] at this;exact this
theorem shape_of_heap {w:World} {b:Nat} {us:Array Value} {ty:TypeId} {fz:Nat×Nat} (hg:w.heap[b]? =some (.cells us ty fz)):w.shape? b=some (ty,us.size):=by
 simp only[World.shape?,hg]
theorem unfz_of_heap {w:World} {b j:Nat} {us:Array Value} {ty:TypeId} (hg:w.heap[b]? =some (.cells us ty (0,0))):w.frozen? ⟨b,j,none⟩=false:=by
 simp only[World.frozen?,hg];simp
theorem take_lay2 {row a v d:List Value} {o p q:Nat} (h1:o+v.length=p) (h2:p+d.length=q) (hl:q≤row.length) (ha:row.take o=a):(lay (lay row o v) p d).take q=a++v++d:=by
 have h3:(lay row o v).length=row.length:=length_lay _ _ _ (by omega)
 rw[size_take_lay (by omega) h2,size_take_lay (by omega) h1,ha]
theorem insert_mid (hL:(layOf Tryz.prog).OK) {c:Ctx} {w:World} {h:Hp} (hs:Sim (layOf Tryz.prog) c h w) {id idy n i:Nat} {es:List V} {e:V} {ux uy:Value}
 (hx:RV (layOf Tryz.prog) c (.ref id [] (some 31) 0 n n) ux) (hy:RV (layOf Tryz.prog) c (.ref idy [] (some 31) 0 1 1) uy) (hrx:rowOf h id n=some (some 31,es)) (hry:rowOf h idy 1=some (some 31,[e]))
 (hne:id≠idy) (hi:i < n) (hbig:(n+1)* Tryz.prog.bytesOf 32≤140737488355328):
 CallRes Tryz.prog (layOf Tryz.prog) c w 97 [ux,.int .i64 i,uy] (.ref id [] (some 31) 0 (n+1) (n+1)) (h.set id (.cells (some 31) (es.take i++[e]++es.drop i))):=by
 have hcz:=csz_V
 obtain ⟨l,hl,htot,htag,hz,hb1,hb2,hb3,hes,us0,ty0,fz0,hg,hsz,hfz,hrc⟩:=hs.row hrx
 obtain ⟨ly,hly,htoty,htagy,hzy,hyb1,hyb2,hyb3,hesy,usy,tyy,fzy,hgy,hszy,hfzy,hrcy⟩:=hs.row hry
 have hesl:=(q16z hrx).2
 obtain ⟨_,k,rfl,hlk,hm⟩:=ref_live hx hl htot (path:=[]) (o:=0) (e:=l.tag) (m:=none) rfl
 obtain ⟨_,ky,rfl,hlky,hmy⟩:=ref_live hy hly htoty (path:=[]) (o:=0) (e:=ly.tag) (m:=none) rfl
 simp only[roomR,Nat.zero_add,Nat.zero_mul] at hm hmy ⊢
 obtain ⟨hm1,hm2,hm3⟩:=hm
 have hU:=hfz
 have hzl:=hz
 have hszU:=hsz
 have hfz0:=hfz.2 rfl
 have hfzy0:=hfzy.2 rfl
 subst hfz0 hfzy0
 rw[hcz] at hsz hszy hrc hrcy
 simp only[List.length_cons,List.length_nil,Nat.zero_add,Nat.one_mul] at hrcy hyb3
 have hbne:ly.blk≠l.blk:=fun he=> hne (hs.inj id idy l ly hl hly he.symm)
 have hge:∀y∈es,y.ty=some 31:=fun y hy=>(hes y hy).1
 have hcsl:=q8z hL hrc hge
 have hvsl:=q8z hL hrcy (fun y hy=>(hesy y hy).1)
 rw[hcz] at hcsl hvsl
 simp only[List.length_cons,List.length_nil,Nat.zero_add,Nat.one_mul] at hvsl
 rw[hesl] at hcsl hrc
 have h1c:∀q∈us0.toList.take (n * 42),q.oneCell'=true:=RCs_oneCells (fun v _=> RC_oneCells v) (fun v hv=>(hes v hv).2) _ hrc
 have h1v:∀q∈usy.toList.take 42,q.oneCell'=true:=RCs_oneCells (fun v _=> RC_oneCells v) (fun v hv=>(hesy v hv).2) _ hrcy
 have hcs:∀j v,(us0.toList.take (n * 42))[j]? =some v→w.cell? ⟨l.blk,j,none⟩=some v:=fun j v hj=> by
   rw[List.getElem?_take] at hj
   split at hj
   ·rw[q15z hg];simpa using hj
   ·cases hj
 have hvs:∀j v,(usy.toList.take 42)[j]? =some v→w.cell? ⟨ly.blk,0+j,none⟩=some v:=fun j v hj=> by
   rw[List.getElem?_take] at hj
   split at hj
   ·rw[q15z hgy,Nat.zero_add];simpa using hj
   ·cases hj
 obtain ⟨i0,hi0,hi0s⟩:=TG_V.info
 rw[hcz] at hi0s
 have hby:Tryz.prog.bytesOf 32=i0.bytes:=by simp[Program.bytesOf,hi0]
 rw[hby] at hbig
 have hby0:0 < i0.bytes:=by rw[←hby];exact of_decide_eq_true (by kernel_rfl)
 have hnb:n+1≤140737488355328:=Nat.le_trans (Nat.le_mul_of_pos_right _ hby0) hbig
 have hall:RCs (layOf Tryz.prog) c (es.take i++[e]++es.drop i) ((us0.toList.take (n * 42)).take (i * 42)++usy.toList.take 42++(us0.toList.take (n * 42)).drop (i * 42)):=by
   have a:=RCs_take hL hrc hge i (by omega)
   rw[hcz] at a
   exact RCs_append.2 ⟨_,_,rfl,RCs_append.2 ⟨_,_,rfl,a.1,hrcy⟩,a.2⟩
 have hallel:∀q∈es.take i++[e]++es.drop i,q.ty=some 31∧q.solid=true:=fun q hq=> by
   rcases List.mem_append.1 hq with hq | hq
   ·rcases List.mem_append.1 hq with hq | hq
    ·exact hes q (List.mem_of_mem_take hq)
    ·exact hesy q hq
   ·exact hes q (List.mem_of_mem_drop hq)
 have hlen3:(es.take i++[e]++es.drop i).length=n+1:=by simp;omega
 by_cases hroom:n+1≤k
 ·-- room
  have hcap:(n+1)* 42≤us0.size:=by rw[hsz];exact Nat.mul_le_mul_right 42 (by omega)
  have hdl:((us0.toList.take (n * 42)).drop (i * 42)).length=(n - i)* 42:=by rw[List.length_drop,hcsl,Nat.sub_mul]
  have hU':Unfz (some 31) us0.size (0,0):=hU
  refine Calls.mono (ins_shift l.blk n k i ly.blk 0 ky (us0.toList.take (n * 42)) (usy.toList.take 42) w hi hroom (by omega) hbne hcsl hvsl hcs
    (fun j hj=> by rw[q15z hg,Array.getElem?_eq_getElem (by omega)];rfl) (fun j hj=> unfz_of_heap hg) hvs h1c h1v tyy ty0 usy.size us0.size (shape_of_heap hgy) (shape_of_heap hg) (by omega) (unfz_of_heap hgy) (unfz_of_heap hgy)) ?_
  rintro en w' ⟨rfl,rfl⟩
  have e1l:(es.take (i+1)++es.drop i).length=n+1:=by simp;omega
  have r1:RCs (layOf Tryz.prog) c (es.take (i+1)++es.drop i) ((lay us0.toList ((i+1)* 42) ((us0.toList.take (n * 42)).drop (i * 42))).take ((n+1)* 42)):=by
    rw[size_take_lay (by rw[hdl];simp;omega) (by rw[hdl];omega)]
    have a:=(RCs_take hL hrc hge (i+1) (by omega)).1
    have b:=(RCs_take hL hrc hge i (by omega)).2
    rw[hcz] at a b
    rw[List.take_take,Nat.min_eq_left (by omega)] at a
    exact RCs_append.2 ⟨_,_,rfl,a,b⟩
  have hel1:∀q∈es.take (i+1)++es.drop i,q.ty=some 31∧q.solid=true:=fun q hq=> by
    rcases List.mem_append.1 hq with hq | hq
    ·exact hes q (List.mem_of_mem_take hq)
    ·exact hes q (List.mem_of_mem_drop hq)
  obtain ⟨l1,hl1,hs1,hle1,hloc1⟩:=row_write hL hs.drew hl htag hz (w:=w.drew) hg hU' (by rw[hcz];exact hszU) (es':=es.take (i+1)++es.drop i) hel1 (by omega) (by omega) (o:=(i+1)* 42) (vs:=(us0.toList.take (n * 42)).drop (i * 42)) (by rw[hdl];omega) (by rw[e1l,hcz];exact r1)
  have hlt:id < h.length:=(List.getElem?_eq_some_iff.1 (q16z hrx).1).1
  have hrow1:rowOf (h.set id (.cells (some 31) (es.take (i+1)++es.drop i))) id (n+1)=some (some 31,es.take (i+1)++es.drop i):=by
    simp[rowOf,hlt,e1l]
  obtain ⟨l2,hl2,htot2,htag2,hz2,hb12,hb22,hb32,hes2,us1,ty1,fz1,hg1,hsz1,hU1,hrc1⟩:=hs1.row hrow1
  rw[hloc1] at hl2
  cases hl2
  have hblk1:l1.blk=l.blk:=by rw[hl1]
  have hcap1:l1.cap=l.cap:=by rw[hl1]
  rw[hblk1] at hz2 hg1
  have hover:=RCs_over hL hrc1 (hrcy.mono hle1) (fun q hq=>(hel1 q hq).1) (fun q hq=>(hesy q hq).1) (n:=i) (by rw[e1l];simp;omega)
  have ee:(es.take (i+1)++es.drop i).take i++[e]++(es.take (i+1)++es.drop i).drop (i+[e].length)=es.take i++[e]++es.drop i:=by
    have h1:(es.take (i+1)).length=i+1:=by simp;omega
    rw[List.take_append_of_le_length (by omega),List.take_take,Nat.min_eq_left (by omega),List.length_singleton,List.drop_append,h1,Nat.sub_self,List.drop_of_length_le (by omega),List.drop_zero,List.nil_append]
  have hsz1':us1.size=us0.size:=by rw[hsz1,hcap1,hcz,hsz]
  rw[ee,hcz,e1l,←lay_take _ _ _ _ (by rw[hvsl];omega) (by simp;omega)] at hover
  obtain ⟨l3,hl3,hs3,hle3,hloc3⟩:=row_write hL hs1 hloc1 htag2 (by rw[hblk1];exact hz2) (by rw[hblk1];exact hg1) hU1 (by rw[hsz1]) (es':=es.take i++[e]++es.drop i) hallel (by omega) (by omega) (o:=i * 42) (vs:=usy.toList.take 42) (by rw[hvsl,hsz1'];omega) (by rw[hlen3,hcz];exact hover)
  rw[hblk1,List.set_set] at hs3
  have hfin:=ref_mk hs3 (id:=id) (tot:=n+1) (off:=0) (len:=n+1) (k:=k) (path:=[]) (m:=none) (o:=0) (e:=l3.tag) hloc3 (by rw[hl3];exact hlen3) rfl hroom (by rw[hl3];simp only[roomR,hcap1];omega)
  have hblk3:l3.blk=l.blk:=by rw[hl3];exact hblk1
  have htag3:l3.tag=some 31:=by rw[hl3];exact htag2
  rw[hblk3,htag3] at hfin
  simp only[Nat.zero_add,Nat.zero_mul] at hfin
  exact ⟨_,_,rfl,hfin,hs3,hle1.trans hle3,(St.drew w).trans ((St.setCells _ _ _ _).trans (St.setCells _ _ _ _))⟩
 ·-- no room
  have hz:((Tryz.prog.info? 32).bind fun i=> i.zero).map (fun z=> z.cells.size)=some 42:=by kernel_rfl
  rw[hi0] at hz
  obtain ⟨z,hz0,hzc⟩:=Option.map_eq_some_iff.1 hz
  refine Calls.mono (ins_grow l.blk n k i ly.blk 0 ky (us0.toList.take (n * 42)) (usy.toList.take 42) w i0 z hi0 hz0 hi0s hzc hby0 hi (by omega) (by omega) hbig hcsl hvsl hcs hvs h1c h1v) ?_
  rintro en w' ⟨rfl,rfl⟩
  have hGn:n+1≤grownCap w (n+1) k 32:=grownCap_ge w _ _ _
  obtain ⟨G,hG⟩:∃G,G=grownCap w (n+1) k 32:=⟨_,rfl⟩
  rw[←hG] at hGn ⊢
  obtain ⟨ROW,hROW⟩:∃ROW:Array Value,ROW=((us0.toList.take (n * 42)).take (i * 42)).toArray++Builtin.zeroCells z.cells (n+1 - i)++Builtin.zeroCells z.cells (G - (n+1)):=⟨_,rfl⟩
  rw[←hROW]
  have htl:((us0.toList.take (n * 42)).take (i * 42)).length=i * 42:=by rw[List.length_take,hcsl];omega
  have hdl:((us0.toList.take (n * 42)).drop (i * 42)).length=(n - i)* 42:=by rw[List.length_drop,hcsl,Nat.sub_mul]
  have hRs:ROW.size=G * 42:=by
    rw[hROW,Array.size_append,Array.size_append,List.size_toArray,htl,size_zeroCells,size_zeroCells,hzc];omega
  have hRt:ROW.toList.take (i * 42)=(us0.toList.take (n * 42)).take (i * 42):=by
    rw[hROW,Array.toList_append,Array.toList_append,List.append_assoc,List.toList_toArray]
    exact List.take_left' htl
  have hfit:(n+1)* 42≤ROW.size:=by rw[hRs];exact Nat.mul_le_mul_right 42 hGn
  have hl':∃l':Vm.Loc,l'=⟨w.heap.size,G,some 31,n+1⟩:=⟨_,rfl⟩
  obtain ⟨l',hl'⟩:=hl'
  have hle:c.le (c.move id l'):=Ctx.le_move c id l l' hl (by rw[hl',htag]) (by rw[hl',htot];simp) (fun he=> by rw[hl',htot] at he;simp at he)
  have g1:((w.alloc (.cells ROW 32)).drew).heap[w.heap.size]? =some (.cells ROW 32 (0,0)):=heap_new (w:=w)
  have g2:=heap_setCells w.heap.size 32 (0,0) (usy.toList.take 42) (i * 42) ROW _ g1 (by rw[hvsl];omega)
  have hll:(lay ROW.toList (i * 42) (usy.toList.take 42)).length=ROW.size:=by rw[length_lay _ _ _ (by rw[hvsl];simp;omega)];simp
  have g3:=heap_setCells w.heap.size 32 (0,0) ((us0.toList.take (n * 42)).drop (i * 42)) ((i+1)* 42) _ (((w.alloc (.cells ROW 32)).drew.setCells w.heap.size (i * 42) (usy.toList.take 42)).drew) g2 (by rw[hdl,List.size_toArray,hll];omega)
  have hs':Sim (layOf Tryz.prog) (c.move id l') (h.set id (.cells (some 31) (es.take i++[e]++es.drop i))) ((((w.alloc (.cells ROW 32)).drew.setCells w.heap.size (i * 42) (usy.toList.take 42)).drew).setCells w.heap.size ((i+1)* 42) ((us0.toList.take (n * 42)).drop (i * 42))):=by
    refine hs.move hl _ hle (by rw[hl'];exact hs.zNone) (Or.inr (by rw[hl'];exact Nat.le_refl _)) (fun b hb hbl=> ?_) (fun o' ho'=> by rw[hzl] at ho';cases ho') ?_
    ·rw[q13z _ _ _ _ _ (by omega)]
     show ((w.alloc (.cells ROW 32)).drew.setCells w.heap.size (i * 42) (usy.toList.take 42)).heap[b]? =_
     rw[q13z _ _ _ _ _ (by omega)]
     exact heap_old (w:=w) hb
    ·refine ⟨by rw[hl'],by rw[hl',hlen3],by rw[hl',hlen3];exact hGn,hallel,_,32,(0,0),by rw[hl'];exact g3,?_,⟨by intro j hj;omega,fun _=> rfl⟩,?_⟩
     ·rw[List.size_toArray,length_lay _ _ _ (by rw[hdl];simp only[List.toList_toArray,hll];omega),List.toList_toArray,hll,hRs,hl',hcz]
     ·rw[hlen3,hcz,List.toList_toArray,List.toList_toArray,take_lay2 (by rw[hvsl];omega) (by rw[hdl];omega) (by simp;omega) hRt]
      exact hall.mono hle
  have hloc:(c.move id l').loc id=some l':=by simp[Ctx.move]
  have hfin:=ref_mk hs' (id:=id) (tot:=n+1) (off:=0) (len:=n+1) (k:=G) (path:=[]) (m:=none) (o:=0) (e:=l'.tag) hloc (by rw[hl']) rfl hGn (by rw[hl'];simp only[roomR];omega)
  have hblk':l'.blk=w.heap.size:=by rw[hl']
  have htag':l'.tag=some 31:=by rw[hl']
  rw[hblk',htag'] at hfin
  simp only[Nat.zero_add,Nat.zero_mul] at hfin
  exact ⟨_,_,rfl,hfin,hs',hle,(St.alloc _ _).trans ((St.drew _).trans ((St.setCells _ _ _ _).trans ((St.drew _).trans (St.setCells _ _ _ _))))⟩
theorem insert_app (hL:(layOf Tryz.prog).OK) {c:Ctx} {w:World} {h:Hp} (hs:Sim (layOf Tryz.prog) c h w) {x:V} {idy:Nat} {ux uy:Value} {n:Nat} {v:V} {h':Hp}
 (hx:RV (layOf Tryz.prog) c x ux) (hy:RV (layOf Tryz.prog) c (.ref idy [] (some 31) 0 1 1) uy) (hux:∃a k,ux= .slice a n k∧n≤k∧(a=none→n=0)) (hop:opApp 0 h (some 31) (Tryz.prog.bytesOf 32) x (.ref idy [] (some 31) 0 1 1)=some (v,h')):
 CallRes Tryz.prog (layOf Tryz.prog) c w 97 [ux,.int .i64 n,uy] v h':=by
 obtain ⟨a,k,rfl,hnk,hnil⟩:=hux
 obtain ⟨ay,ky,rfl,_⟩:=RV_ref.1 hy
 obtain ⟨hz0,hzg,hzs⟩:=zeroOf_OK (P:=Tryz.prog) (obj:=ob) (t:=32) (z:= .st 31 [.arr 27 [.s (.int .u8 0),.s (.int .u8 0),.s (.int .u8 0),.s (.int .u8 0)],.s (.int .u64 0),.arr 25 [.s (.int .u8 0),.s (.int .u8 0),.s (.int .u8 0),.s (.int .u8 0),.s (.int .u8 0),.s (.int .u8 0),.s (.int .u8 0),.s (.int .u8 0),.s (.int .u8 0),.s (.int .u8 0),.s (.int .u8 0),.s (.int .u8 0),.s (.int .u8 0),.s (.int .u8 0),.s (.int .u8 0),.s (.int .u8 0)],.imm false none [],.s (.int .i64 0),.s (.int .i64 0),.arr 25 [.s (.int .u8 0),.s (.int .u8 0),.s (.int .u8 0),.s (.int .u8 0),.s (.int .u8 0),.s (.int .u8 0),.s (.int .u8 0),.s (.int .u8 0),.s (.int .u8 0),.s (.int .u8 0),.s (.int .u8 0),.s (.int .u8 0),.s (.int .u8 0),.s (.int .u8 0),.s (.int .u8 0),.s (.int .u8 0)],.s (.bool false),.s (.bool false)]) (by kernel_rfl)
 obtain ⟨i,hi,_⟩:=TG_V.info
 have hb:Tryz.prog.bytesOf 32=i.bytes:=by simp[Program.bytesOf,hi]
 have hpos:0 < i.bytes:=by rw[←hb];exact of_decide_eq_true (by kernel_rfl)
 rw[hb] at hop
 rw[tag_V] at hzg
 obtain ⟨u,c',w',hrun,h1,h2,h3,h4⟩:=do_app (P:=Tryz.prog) hL hs (T2:=40) (ty:=40) Tryz.underlying40 TG_V hi hz0 hzg hzs (Or.inl ⟨_,Tryz.underlying40⟩) hpos hx hy hop
 refine Calls.mono (ins_end a n k ky ay w w' u hnk hnil hrun) ?_
 rintro e w2 ⟨rfl,rfl⟩
 exact ⟨u,c',rfl,h1,h2,h3,h4⟩
theorem insert_calls (hL:(layOf Tryz.prog).OK) {c:Ctx} {w:World} {vs:List V} {us:List Value} {h:Hp} {v:V} {h':Hp} (hc:insertV (some 31) (Tryz.prog.bytesOf 32) vs h=some (v,h')) (hv:RVl (layOf Tryz.prog) c vs us) (hs:Sim (layOf Tryz.prog) c h w):CallRes Tryz.prog (layOf Tryz.prog) c w 97 us v h':=by
 unfold insertV at hc
 split at hc
 case h_2=> cases hc
 rename_i _ x i idy gy
 match us,hv with
 | [ux,ui,uy],hv=>
 obtain ⟨hx,hi,hy,_⟩:=hv
 obtain ⟨rfl,_⟩:=RV_s.1 hi
 split at hc
 case h_2=> cases hc
 rename_i gy' e hry
 split at hc
 case isFalse=> cases hc
 rename_i hcc
 obtain ⟨rfl,rfl,hgr⟩:=hcc
 have hsrc:source h (.ref idy [] (some 31) 0 1 1)=some (some 31,[e]):=by simp[source,elems,Vm.rowAt,hry]
 split at hc
 ·rename_i gx
  split at hc
  case isFalse=> cases hc
  rename_i hcc
  obtain ⟨rfl,rfl⟩:=hcc
  cases hc
  obtain ⟨a,k,rfl,h1,h2,h3,h4⟩:=RV_imm.1 hx
  refine insert_app (n:=0) hL hs hx hy ⟨a,k,rfl,by simp,fun _=> rfl⟩ ?_
  have hb:Tryz.prog.bytesOf 32≤140737488355328:=of_decide_eq_true (by kernel_rfl)
  simp[opApp,hsrc,appendV,hb]
 ·rename_i id gx n m
  split at hc
  case h_2=> cases hc
  rename_i gx' es hrx
  split at hc
  case isFalse=> cases hc
  rename_i hcc
  obtain ⟨rfl,rfl,rfl,hne,h0i,hin,hbig⟩:=hcc
  cases hc
  obtain ⟨j,rfl⟩:∃j:Nat,i=j:=⟨i.toNat,by omega⟩
  have hel:=(q16z hrx).2
  simp only[Int.toNat_natCast]
  by_cases hj:j < n
  ·exact insert_mid hL hs hx hy hrx hry hne hj hbig
  ·obtain rfl:j=n:=by omega
   obtain ⟨a,k,rfl,_,hk,_⟩:=RV_ref.1 hx
   refine insert_app (n:=j) hL hs hx hy ⟨some a,k,rfl,hk,fun h=> by cases h⟩ ?_
   have hm:mayPut 0 id e=true:=by simp[mayPut]
   have t1:es.take j=es:=List.take_of_length_le (by omega)
   have t2:es.drop j=[]:=List.drop_of_length_le (by omega)
   simp[opApp,hsrc,appendV,hrx,hm,hbig,t1,t2]
 ·cases hc
theorem load_sound (hL:(layOf Tryz.prog).OK) {c:Ctx} {w:World} {h:Hp} (hs:Sim (layOf Tryz.prog) c h w) {x:V} {ux:Value} (hx:RV (layOf Tryz.prog) c x ux) {g:Option Nat} {es:List V} {l:List UInt8} (he:elems h x=some (g,es)) (hl:Vm.bytesOf es=some l):
 (Extern.Bytes.bytesOf ux).run Tryz.prog w= .ok ⟨l.toArray⟩ w:=by
 obtain ⟨a,k,rfl,hlk,hel,hcase⟩:=elems_RV hL hs hx he
 rcases hcase with rfl | ⟨b,o,us,ty,fz,rfl,hg,hr⟩
 ·simp only[Vm.bytesOf,Option.some.injEq] at hl
  subst hl
  cases a <;> simp[Extern.Bytes.bytesOf,Extern.Bytes.loadBytes]<;> rfl
 ·obtain ⟨ns,hns,hnl,rfl⟩:=bytesOf_cells es l _ hl hr
  have hseg:=seg_cells hL hg hr (fun q hq=>(hel q hq).1)
  rw[hns] at hseg
  have hrun:=Lib.run_loadBytesX (P:=Tryz.prog) (w:=w) ns ⟨b,o,none⟩ .empty (fun j x hj=> hseg j (.int .u8 x) (by simp[hj]))
  rw[hnl] at hrun
  simp only[Extern.Bytes.bytesOf,hrun]
  congr 2
  simp[Lib.bytesOf,ByteArray.empty,ByteArray.emptyWithCapacity]
  rfl
theorem cmp_calls (hL:(layOf Tryz.prog).OK) {c:Ctx} {w:World} {vs:List V} {us:List Value} {h:Hp} {v:V} {h':Hp} (hc:cmpF vs h=some (v,h')) (hv:RVl (layOf Tryz.prog) c vs us) (hs:Sim (layOf Tryz.prog) c h w):CallRes Tryz.prog (layOf Tryz.prog) c w 98 us v h':=by
 unfold cmpF at hc
 split at hc
 case h_2=> cases hc
 match us,hv with
 | [ux,uy],hv=>
 obtain ⟨hx,hy,_⟩:=hv
 split at hc
 case h_2=> cases hc
 rename_i ga a gb b' hea heb
 split at hc
 case h_2=> cases hc
 rename_i l m hla hlb
 cases hc
 have h1:=load_sound hL hs hx hea hla
 have h2:=load_sound hL hs hy heb hlb
 have hcall:(callFunc 115 #[ux,uy]).run Tryz.prog w= .ok (.value (.int .i64 (Lib.compareBytes l m))) w:=by
   rw[run_callFunc_extern Tryz.func115 (by kernel_rfl) (by kernel_rfl) (by kernel_rfl) (e:=Extern.BytealgCompare.compare) (by kernel_rfl)]
   have:(Extern.BytealgCompare.compare #[ux,uy]).run Tryz.prog w= .ok (.int .i64 (Lib.compareBytes l m)) w:=by
     change Sem.run Tryz.prog (do pure (goInt (Extern.BytealgCompare.cmp (←Extern.Bytes.bytesOf ux) (←Extern.Bytes.bytesOf uy)))) w=_
     simp only[Sem.run_bind,Sem.run_pure,h1,h2,Result.andThen]
     rw[Lib.cmp_eq]
     rfl
   rw[this];rfl
 refine Calls.mono (R:=fun e w'=> e= .returned (.int .i64 (Lib.compareBytes l m))∧w'=w) ?_ ?_
 ·go_enter Tryz.func98,Tryz.ntmps98
  go_wp2_with (simp only[hcall])
  go_ret
  exact ⟨rfl,rfl⟩
 ·rintro e w' ⟨rfl,rfl⟩
  exact ⟨_,c,rfl,RV_s.2 ⟨rfl,rfl⟩,hs,Ctx.le_refl _,St.refl _⟩
theorem pr_ok :CalleesOK Tryz.prog (layOf Tryz.prog) pr:=by
 intro f vs h v h' hr
 unfold pr at hr
 split at hr
 ·obtain ⟨x,rfl⟩:=cloneV_keeps hr
  refine ⟨⟨_,Tryz.func91,rfl,by kernel_rfl⟩,fun c w us hv hs=> ?_⟩
  match us,hv with
  | [u],hv=> exact clone_calls lay_ok hr hv.1 hs
 ·refine ⟨⟨_,Tryz.func98,rfl,by kernel_rfl⟩,fun c w us hv hs=> cmp_calls lay_ok hr hv hs⟩
 ·refine ⟨⟨_,Tryz.func97,rfl,by kernel_rfl⟩,fun c w us hv hs=> ?_⟩
  have hb:Tryz.prog.bytesOf 32=96:=by kernel_rfl
  rw[←hb] at hr
  exact insert_calls lay_ok hr hv hs
 ·exact ⟨⟨_,Tryz.func60,rfl,by kernel_rfl⟩,fun c w us hv hs=> sum_calls hr hv hs⟩
 ·cases hr
theorem pr_kp :KpP pr:=by
 intro f vs h v h' hr base
 unfold pr at hr
 split at hr
 ·exact cloneV_kp hr base
 ·have:=cmpF_same hr;subst this;exact Kp.refl _ _
 ·exact insertV_kp hr base
 ·have:=sumF_same hr;subst this;exact Kp.refl _ _
 ·cases hr
end Go.Proofs.YtannfageakbpmaaGreat
