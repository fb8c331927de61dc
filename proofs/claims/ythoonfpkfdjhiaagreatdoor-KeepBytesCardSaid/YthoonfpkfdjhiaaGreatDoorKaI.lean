/- Texts of one chain, put together (C1, C2, C3, Lk, C4, C5, C6, C7, C8, Lq, Lj, C9, D0, Arr, GtB, StA, MrA, GtC, GtD, GtE, Rd). -/
import Derived.Test.YthoonfpkfdjhiaaGreatDoorKaH
import Derived.Laws.MakeOwn
import Derived.Lib.AppendZerosOnto
import Derived.Lib.Overlaps
import Derived.Shelf.Spec.SlicesGrow
import Derived.Lib.LaidTab
import Derived.Test.YthoonfpkfdjhiaaGreatDoorKaF
import Derived.Sort.LotA
set_option linter.unusedVariables false
set_option linter.unusedSimpArgs false
set_option maxHeartbeats 16000000
set_option maxRecDepth 8000
section
namespace Go.Proofs.YthoonfpkfdjhiaaGreatDoor
open Go Go.Abs Go.RowKit
set_option maxRecDepth 100000 in
theorem fill_raw{w0:World}{im0:Base}{cx:Ctx}{a:Act}{w:World}{tmps up:List AV}{own:List (Option (List AV))}{tk:List Nat}{gl:Nat→Option (List AV)}{id:Nat}{v:Value}
 (h0:E.ok w0) (hG:GOB E im0) (r:Rel w0 im0 cx ⟨tmps,own,tk,gl,none,up⟩ a w) (hv:VR cx (.ptr id 0 0) v)
 (ho:own[id]?=some (some [tblV 0 1 0])) (hbu:(tmps++up).all (AV.bel own.length tk.length)=true) (hbo:OwnBel own own.length tk.length) {K:St→AV→Prop} (hK:K ⟨tmps,own.set id (some [tblV 0 1 256]),tk,gl,none,up⟩ (.tup [])):
 Calls E.P 215 #[v] w fun e w'=>∃z,e= .returned z∧∃cx' s y,Rel w0 im0 cx' s a w'∧VR cx' y z∧K s y:=by
 have hargs:Pw cx [AV.ptr id 0 0] [v]:=⟨rfl,fun i x u h1 h2=>by
  cases i with
  |zero=>simp only[List.getElem?_cons_zero,Option.some.injEq] at h1 h2;subst h1;subst h2;exact hv
  |succ i=>simp at h1⟩
 refine calls_of_awp (ys:=[.ptr id 0 0]) (vs:=[v]) (rs:=[]) (K:=K) h0 hG r Tryz.func215 rfl rfl rfl hargs ?_
 show AWP E _ _ ⟨[.ptr id 0 0]++List.replicate (28-1) (.v undef),own,tk,gl,none,tmps++up⟩
 have hB0:∀(tm:List AV) (ow:List (Option (List AV))) ,ow=own.set id (some [tblV 0 1 256])→AInPost E.P [] ⟨tmps,own,tk,gl,none,up⟩ K .normal ⟨tm,ow,tk,gl,none,tmps++up⟩:=by
  intro tm ow how
  rw[how]
  exact⟨rfl,hK⟩
 generalize AInPost E.P [] ⟨tmps,own,tk,gl,none,up⟩ K=Q' at hB0 ⊢
 generalize tmps++up=up' at hbu hB0 ⊢
 have hidl:id<own.length:=(List.getElem?_eq_some_iff.1 ho).1
 have hset:∀x:Option (List AV),(own.set id x)[id]?=some x:=fun x=>by rw[List.getElem?_set_self hidl]
 have h0eq:own.set id (some [tblV 0 1 0])=own:=by
  obtain⟨h1,h2⟩:=List.getElem?_eq_some_iff.1 ho
  rw[←h2,List.set_getElem_self]
 have hbt:∀i:Nat,OwnBel (own.set id (some [tblV 0 1 i])) own.length tk.length:=fun i=>hbo.set (fun e he z hz=>tbl_bel he hz)
 have hbi:∀i:Nat,WkO own.length tk.length (own.set id (some [tblV 0 1 i])) (own.set id (some [tblV 0 1 i])):=fun i=>OwnBel.wk (hbt i)
 have hw0:WkO own.length tk.length own (own.set id (some [tblV 0 1 0])):=by rw[h0eq];exact OwnBel.wk hbo
 refine AWP.seqk fun K hK=>?_
 refine AWP.region ?_;simp only[go_sem,ho]
 refine hK _ ?_;clear hK K
 refine AWP.block ?_
 refine AWP.loopM (ι:=Nat) [2,3,4,6,7,8,9,10,11,12,13,14,15,16,17,18,19,20,21,22,23,24,25,26,27] (fun(i:Nat)=>[(5,i64 i)]) (fun(i:Nat)=>own.set id (some [tblV 0 1 i])) (fun(i:Nat)=>tk) (fun(i:Nat)=>i≤256) (fun(i:Nat)=>256-i) (0) ?_ ?_ ?_
 ·(try simp only[go_sem,List.length_set]);(repeat'(first|assumption|exact wkK_self|exact .inr (decide_eq_true hidl)|refine And.intro ?_ ?_))
 ·omega
 rintro i h1
 simp only[go_sem,ho,hset,List.length_set]
 repeat'(first
 |refine AWP.seqk fun K hK=>?_
 |(refine AWP.region ?_;simp only[go_sem,ho,hset,List.length_set,ofInt_nat])
 |(refine hK _ ?_;clear hK K)
 |refine AWP.block ?_
 |refine AWP.cond rfl (fun c=>?_) (fun c=>?_)<;>(try simp only[dD] at c)
 |refine AWP.skip ?_
 |(refine AWP.exit ?_;simp only[go_sem,ho,hset,List.length_set])
 |(
  refine AWP.here 5 11 1 rfl ?_
  refine AWP.loopM (ι:=Nat) [4,11,12,13,14,15,16,17,18,19,20] (fun(j:Nat)=>[(10,i64 j),(3,bvV (Kp.stepsC j (BitVec.ofNat 32 i)))]) (fun(j:Nat)=>own.set id (some [tblV 0 1 i])) (fun(j:Nat)=>tk) (fun(j:Nat)=>j≤8) (fun(j:Nat)=>8-j) (0) ?_ ?_ ?_
  ·rw[conv_u32 (by omega)];(try simp only[go_sem,List.length_set]);(repeat'(first|assumption|exact hbi _|exact wkK_self|exact .inr (decide_eq_true hidl)|refine And.intro ?_ ?_|exact .inr rfl))
  ·omega
  rintro j h2
  simp only[go_sem,ho,hset,List.length_set])
 |exact⟨j+1,⟨⟨.inr (decide_eq_true hidl),.inr (odd_eq (by assumption)),.inr (ctr_eq (by omega))⟩,hbi _,wkK_self,hbu⟩,by omega,by omega⟩
 |exact⟨j+1,⟨⟨.inr (decide_eq_true hidl),.inr (even_eq (by assumption)),.inr (ctr_eq (by omega))⟩,hbi _,wkK_self,hbu⟩,by omega,by omega⟩
 |exact⟨i+1,⟨⟨.inr (decide_eq_true hidl),.inr (ctr_eq (by omega))⟩,hbi _,wkK_self,hbu⟩,by omega,by omega⟩
 |(
  obtain rfl:j=8:=by omega
  refine⟨by omega,(by show 3+i+1≤(tblV 0 1 i).leaves.length;rw[tbl_leaves];omega),?_⟩
  rw[List.set_set]
  have hst:(if 3+i=0∧1=(tblV 0 1 i).leaves.length then bvV (Kp.stepsC 8 (BitVec.ofNat 32 i)) else AV.agg ((tblV 0 1 i).leaves.set (3+i) (bvV (Kp.stepsC 8 (BitVec.ofNat 32 i)))))=tblV 0 1 (i+1):=tbl_store (by omega)
  refine kont (by assumption) ?_
  have hown:own.set id (some [(if 3+i=0∧1=(tblV 0 1 i).leaves.length then bvV (Kp.stepsC 8 (BitVec.ofNat 32 i)) else AV.agg ((tblV 0 1 i).leaves.set (3+i) (bvV (Kp.stepsC 8 (BitVec.ofNat 32 i)))))])=own.set id (some [tblV 0 1 (i+1)]):=by rw[hst]
  refine hown ▸ ?_)
 |refine AWP.fin (by assumption) ?_
 |(exact hB0 _ _ (by rw[show i=256 by omega])))
theorem tbl_done:stEl (tblV 0 1 256) 0 (.v (.int .u32 1))=tblV 1 1 256:=by
 have h:¬(0=0∧(AV.v (Value.int IntKind.u32 1)).leaves.length=(tblV 0 1 256).leaves.length):=by
  rw[tbl_leaves];rintro⟨_,h⟩;exact absurd h (by decide)
 unfold stEl;rw[if_neg h];rfl
theorem tup_nil{c:Ctx}{z:Value}(h:VR c (.tup []) z):z= .tuple #[]:=by
 obtain⟨vs,rfl,hl,_⟩:=h.inv_tup
 have:vs=[]:=List.eq_nil_of_length_eq_zero (by simpa using hl)
 subst this;rfl
theorem put_own{tmps:List AV}{own:List (Option (List AV))}{tk:List Nat}{gl:Nat→Option (List AV)}{up:List AV}{d:Tmp}{x:AV}:St.put ⟨tmps,own,tk,gl,none,up⟩ (some d) x=⟨tmps.set d x,own,tk,gl,none,up⟩:=rfl
set_option maxRecDepth 100000 in
theorem AWPL.crcDo{Q:Exit→St→Prop}{ops:Array Oper}{l:List Oper}{tmps up:List AV}{own:List (Option (List AV))}{tk:List Nat}{gl:Nat→Option (List AV)}{id:Nat}{d:Tmp}{dst:Option Tmp}{p x:Operand}{tys:Array TypeId}{ty ty2:TypeId}{pos pos2:String}{after after2:Array Edge}
 (hp0:St.ev ⟨tmps,own,tk,gl,none,up⟩ p= .ptr id 0 0) (hx:St.ev ⟨tmps,own,tk,gl,none,up⟩ x= .ptr id 0 0) (hd:d<tmps.length)
 (hpd:St.ev ⟨tmps.set d .any,own,tk,gl,none,up⟩ p= .ptr id 0 0)
 (ho:own[id]?=some (some [tblV 0 0 0])) (hbu:(tmps.set d .any++up).all (AV.bel own.length tk.length)=true) (hbo:OwnBel own own.length tk.length)
 (h:AWPL E ops l Q (St.put ⟨tmps.set d .any,own.set id (some [tblV 1 0 256]),tk,gl,none,up⟩ dst (.tup []))):
 AWPL E ops (⟨some d,.makeFunc (.func 215) #[x] #[],ty,pos,after,none⟩::⟨dst,.call ⟨.value (.func 214),#[p,.tmp d],tys⟩,ty2,pos2,after2,none⟩::l) Q ⟨tmps,own,tk,gl,none,up⟩:=by
 refine AWPL.boundCall (by kernel_rfl) hd (by rw[put_own,hpd,hp0]) fun w0 im0 cx a w pv rv h0 hG r hpe hpv hrv=>?_
 rw[put_own] at r
 rw[hp0] at hpv
 rw[hx] at hrv
 obtain⟨g,q,hb,rfl⟩:=hpv.inv_ptr
 obtain⟨g1,q1,hb1,rfl⟩:=hrv.inv_ptr
 rw[hb] at hb1
 simp only[Option.some.injEq,Prod.mk.injEq] at hb1
 obtain⟨rfl,rfl⟩:=hb1
 have hidl:id<own.length:=(List.getElem?_eq_some_iff.1 ho).1
 obtain⟨c0,f0⟩:=r.ownCell hb ho (idx:=0) (off:=0) rfl rfl
 obtain⟨c1,f1⟩:=r.ownCell hb ho (idx:=0) (off:=1) rfl rfl
 have r1:=r.setCell (P:=E.P) (t:=21) (by kernel_rfl) hb ho (idx:=0) (off:=1) (v:= .int .i32 1) rfl (by rw[tbl_leaves];omega) rfl rfl
 have e1:([tblV 0 0 0].set 0 (stEl (tblV 0 0 0) 1 (.v (.int .i32 1))))=[tblV 0 1 0]:=by
  show[stEl (tblV 0 0 0) 1 (.v (.int .i32 1))]=_
  unfold stEl
  rw[if_neg (by omega)];rfl
 rw[e1] at r1
 have ho1:(own.set id (some [tblV 0 1 0]))[id]?=some (some [tblV 0 1 0]):=by rw[List.getElem?_set_self hidl]
 have hbo1:OwnBel (own.set id (some [tblV 0 1 0])) own.length tk.length:=hbo.set (fun e he z hz=>tbl_bel he hz)
 have hadr:∀(cx':Ctx) (w2:World),Rel w0 im0 cx' ⟨tmps.set d .any,own.set id (some [tblV 0 1 256]),tk,gl,none,up⟩ a w2→∃q2,cx'.β[id]?=some (some (g,q2)):=by
  intro cx' w2 r2
  have h1:=r2.ev p
  have h2:St.ev ⟨tmps.set d .any,own.set id (some [tblV 0 1 256]),tk,gl,none,up⟩ p= .ptr id 0 0:=by rw[←hpd];cases p<;>rfl
  rw[h2,←hpe] at h1
  obtain⟨g',q',hb',e⟩:=h1.inv_ptr
  simp only[Value.pointer.injEq,Option.some.injEq,Addr.mk.injEq] at e
  obtain⟨rfl,_⟩:=e
  exact⟨q',hb'⟩
 have hf:=fill_raw (K:=fun s z=>s=⟨tmps.set d .any,(own.set id (some [tblV 0 1 0])).set id (some [tblV 0 1 256]),tk,gl,none,up⟩∧z= .tup []) h0 hG r1 (.ptr hb) ho1 (by rw[List.length_set];exact hbu) (by rw[List.length_set];exact hbo1) ⟨rfl,rfl⟩
 rw[List.set_set] at hf
 have hdo:=do_of g (0*q+0) ⟨g,0*q+0,none⟩ (fun w2=>∃cx',Rel w0 im0 cx' ⟨tmps.set d .any,own.set id (some [tblV 0 1 256]),tk,gl,none,up⟩ a w2) w c0 c1 f1
  (hf.mono (by
    rintro e w' ⟨z,rfl,cx',s,y,r',hy,rfl,rfl⟩
    obtain rfl:z= .tuple #[]:=tup_nil hy
    exact⟨rfl,cx',r'⟩)) (fun w2 ⟨cx',r2⟩=>by
    obtain⟨q2,hb2⟩:=hadr cx' w2 r2
    have ho2:(own.set id (some [tblV 0 1 256]))[id]?=some (some [tblV 0 1 256]):=by rw[List.getElem?_set_self hidl]
    obtain⟨d0,z0⟩:=r2.ownCell hb2 ho2 (idx:=0) (off:=0) rfl rfl
    obtain⟨d1,z1⟩:=r2.ownCell hb2 ho2 (idx:=0) (off:=1) rfl rfl
    simp only[Nat.zero_mul] at d0 d1 z0 z1 ⊢
    exact⟨d0,d1,z0,z1⟩)
 refine hdo.mono ?_
 rintro e w' ⟨rfl,w2,⟨cx',r2⟩,rfl⟩
 obtain⟨q2,hb2⟩:=hadr cx' w2 r2
 have ho2:(own.set id (some [tblV 0 1 256]))[id]?=some (some [tblV 0 1 256]):=by rw[List.getElem?_set_self hidl]
 have r3:=r2.drewW.setCell (P:=E.P) (t:=203) (by kernel_rfl) hb2 ho2 (idx:=0) (off:=0) (v:= .int .u32 1) rfl (by rw[tbl_leaves];omega) rfl rfl
 have e3:([tblV 0 1 256].set 0 (stEl (tblV 0 1 256) 0 (.v (.int .u32 1))))=[tblV 1 1 256]:=by
  show[stEl (tblV 0 1 256) 0 (.v (.int .u32 1))]=_
  rw[tbl_done]
 rw[e3,List.set_set] at r3
 have ho3:(own.set id (some [tblV 1 1 256]))[id]?=some (some [tblV 1 1 256]):=by rw[List.getElem?_set_self hidl]
 have r4:=r3.setCell (P:=E.P) (t:=21) (by kernel_rfl) hb2 ho3 (idx:=0) (off:=1) (v:= .int .i32 0) rfl (by rw[tbl_leaves];omega) rfl rfl
 have e4:([tblV 1 1 256].set 0 (stEl (tblV 1 1 256) 1 (.v (.int .i32 0))))=[tblV 1 0 256]:=by
  show[stEl (tblV 1 1 256) 1 (.v (.int .i32 0))]=_
  unfold stEl
  rw[if_neg (by omega)];rfl
 rw[e4,List.set_set] at r4
 simp only[Nat.zero_mul] at r4 ⊢
 exact⟨_,rfl,cx',_,.tup [],r4,.base (.tup [] [] rfl (by simp)),h⟩
theorem drop3{a b c:AV}{l:List AV}{n:Nat}:List.drop (3+n) (a::b::c::l)=List.drop n l:=by
 rw[show 3+n=n+1+1+1 by omega];rfl
theorem drop_z{l:List AV}{n:Nat}:(List.drop n l)[0]?=l[n]?:=by rw[List.getElem?_drop,Nat.add_zero]
theorem sums_at(b:UInt8):(sumsV 256)[b.toNat]?=some (bvV (Kp.tabC (BitVec.ofNat 32 b.toNat))):=by
 have:=b.toNat_lt
 rw[sums_get (by omega),if_pos (by omega)]
theorem u8_lt(b:UInt8):((b.toNat:Int)<256)=True:=by have:=b.toNat_lt;simp;omega
set_option maxRecDepth 100000 in
theorem AWPL.crcDone{Q:Exit→St→Prop}{ops:Array Oper}{l:List Oper}{tmps up:List AV}{own:List (Option (List AV))}{tk:List Nat}{gl:Nat→Option (List AV)}{id:Nat}{d:Tmp}{dst:Option Tmp}{p x:Operand}{tys:Array TypeId}{ty ty2:TypeId}{pos pos2:String}{after after2:Array Edge}
 (hp0:St.ev ⟨tmps,own,tk,gl,none,up⟩ p= .ptr id 0 0) (hx:St.ev ⟨tmps,own,tk,gl,none,up⟩ x= .ptr id 0 0) (hd:d<tmps.length)
 (hpd:St.ev ⟨tmps.set d .any,own,tk,gl,none,up⟩ p= .ptr id 0 0)
 (ho:own[id]?=some (some [tblV 1 0 256])) (hbu:(tmps.set d .any++up).all (AV.bel own.length tk.length)=true) (hbo:OwnBel own own.length tk.length)
 (h:AWPL E ops l Q (St.put ⟨tmps.set d .any,own,tk,gl,none,up⟩ dst (.tup []))):
 AWPL E ops (⟨some d,.makeFunc (.func 215) #[x] #[],ty,pos,after,none⟩::⟨dst,.call ⟨.value (.func 214),#[p,.tmp d],tys⟩,ty2,pos2,after2,none⟩::l) Q ⟨tmps,own,tk,gl,none,up⟩:=by
 refine AWPL.boundCall (by kernel_rfl) hd (by rw[put_own,hpd,hp0]) fun w0 im0 cx a w pv rv h0 hG r hpe hpv hrv=>?_
 rw[put_own] at r
 rw[hp0] at hpv
 obtain⟨g,q,hb,rfl⟩:=hpv.inv_ptr
 obtain⟨c0,f0⟩:=r.ownCell hb ho (idx:=0) (off:=0) rfl rfl
 refine(do_done ⟨g,0*q+0,none⟩ 1 (by decide) _ w c0).mono ?_
 rintro e w' ⟨rfl,rfl⟩
 exact⟨_,rfl,cx,_,.tup [],r,.base (.tup [] [] rfl (by simp)),h⟩
set_option maxRecDepth 100000 in
theorem of0_call{ops:Array Oper}{l0:List Oper}{Q:Exit→St→Prop}{tmps up:List AV}{gl:Nat→Option (List AV)}{own:List (Option (List AV))}{tk:List Nat}{dst:Option Tmp}{x0 x1:Operand}{tys:Array TypeId}{ty:TypeId}{pos:String}{after:Array Edge}{id:Nat}{b:UInt8}
 (hx0:St.ev ⟨tmps,own,tk,gl,none,up⟩ x0= .ptr id 0 0)
 (hx1:St.ev ⟨tmps,own,tk,gl,none,up⟩ x1=u8 b)
 (ho:own[id]?=some (some [tblV 0 0 0])) (hbu:(tmps++up).all (AV.bel own.length tk.length)=true) (hbo:OwnBel own own.length tk.length)
 (h0:AWPL E ops l0 Q (St.put ⟨tmps,own.set id (some [tblV 1 0 256]),tk,gl,none,up⟩ dst (bvV (Kp.tabC (BitVec.ofNat 32 b.toNat))))):
 AWPL E ops (⟨dst,.call ⟨.value (.func 178),#[x0,x1],tys⟩,ty,pos,after,none⟩::l0) Q ⟨tmps,own,tk,gl,none,up⟩:=by
 refine AWPL.call (caps:=[]) (rs:=[.tmp 4]) Tryz.func178 rfl Tryz.ntmps178 rfl (by kernel_rfl) rfl rfl ?_
 show AWP E _ _ ⟨([St.ev _ x0,St.ev _ x1]++[])++List.replicate (17-2) (.v undef),own,tk,gl,none,tmps++up⟩
 rw[hx0,hx1]
 have hB0:∀(tm:List AV) (ow:List (Option (List AV))) (u0:AV),ow=own.set id (some [tblV 1 0 256])→tm[4]?=some u0→u0=bvV (Kp.tabC (BitVec.ofNat 32 b.toNat))→AInPost E.P [.tmp 4] ⟨tmps,own,tk,gl,none,up⟩ (fun s z=>AWPL E ops l0 Q (s.put dst z)) .ret ⟨tm,ow,tk,gl,none,tmps++up⟩:=by
  intro tm ow u0   how hu0 eu0
  rw[how];rw[eu0] at hu0
  refine⟨rfl,?_⟩
  have gu0:St.ev ⟨tm,own.set id (some [tblV 1 0 256]),tk,gl,none,tmps++up⟩ (.tmp 4)=bvV (Kp.tabC (BitVec.ofNat 32 b.toNat)):=by simp[St.ev,List.getD_eq_getElem?_getD,hu0]
  show AWPL E ops l0 Q (St.put _ dst (tupOf [St.ev _ (.tmp 4)]))
  rw[gu0]
  exact h0
 generalize AInPost E.P [.tmp 4] ⟨tmps,own,tk,gl,none,up⟩ (fun s z=>AWPL E ops l0 Q (s.put dst z))=Q' at hB0 ⊢
 generalize tmps++up=up' at hbu hB0 ⊢
 clear h0 hx0 hx1
 have hset:∀x:Option (List AV),(own.set id x)[id]?=some x:=fun x=>by rw[List.getElem?_set_self (lt_of_get ho)]
 repeat'(first
 |(
  refine AWP.here 1 5 6 rfl ?_
  refine AWP.regionL ?_
  refine AWPL.at 6 4 rfl ?_
  simp only[go_sem,ho,hset,List.length_set]
  refine AWPL.crcDo (id:=id) rfl rfl (by simp) rfl (by assumption) (by simpa[AV.bel,AV.bel2,AV.bel1,lt_of_get ho] using hbu) hbo ?_
  simp only[go_sem,ho,hset,List.length_set]
  refine AWPL.of ?_
  simp only[go_sem,ho,hset,List.length_set])
 |refine AWP.seqk fun K hK=>?_
 |(
  refine AWP.here 2 11 7 rfl ?_
  refine AWP.region ?_;simp only[go_sem,ho,hset,List.length_set,tblV,drop3,drop_z,sums_at,u8_lt,true_and])
 |(refine AWP.region ?_;simp only[go_sem,ho,hset,List.length_set])
 |(refine hK _ ?_;clear hK K)
 |(
  refine AWP.ret ?_
  (try simp only[inb_ret,athen_ret])
  exact hB0 _ _ _ rfl rfl rfl))
set_option maxRecDepth 100000 in
theorem of1_call{ops:Array Oper}{l0:List Oper}{Q:Exit→St→Prop}{tmps up:List AV}{gl:Nat→Option (List AV)}{own:List (Option (List AV))}{tk:List Nat}{dst:Option Tmp}{x0 x1:Operand}{tys:Array TypeId}{ty:TypeId}{pos:String}{after:Array Edge}{id:Nat}{b:UInt8}
 (hx0:St.ev ⟨tmps,own,tk,gl,none,up⟩ x0= .ptr id 0 0)
 (hx1:St.ev ⟨tmps,own,tk,gl,none,up⟩ x1=u8 b)
 (ho:own[id]?=some (some [tblV 1 0 256])) (hbu:(tmps++up).all (AV.bel own.length tk.length)=true) (hbo:OwnBel own own.length tk.length)
 (h0:AWPL E ops l0 Q (St.put ⟨tmps,own,tk,gl,none,up⟩ dst (bvV (Kp.tabC (BitVec.ofNat 32 b.toNat))))):
 AWPL E ops (⟨dst,.call ⟨.value (.func 178),#[x0,x1],tys⟩,ty,pos,after,none⟩::l0) Q ⟨tmps,own,tk,gl,none,up⟩:=by
 refine AWPL.call (caps:=[]) (rs:=[.tmp 4]) Tryz.func178 rfl Tryz.ntmps178 rfl (by kernel_rfl) rfl rfl ?_
 show AWP E _ _ ⟨([St.ev _ x0,St.ev _ x1]++[])++List.replicate (17-2) (.v undef),own,tk,gl,none,tmps++up⟩
 rw[hx0,hx1]
 have hB0:∀(tm:List AV) (ow:List (Option (List AV))) (u0:AV),ow=own→tm[4]?=some u0→u0=bvV (Kp.tabC (BitVec.ofNat 32 b.toNat))→AInPost E.P [.tmp 4] ⟨tmps,own,tk,gl,none,up⟩ (fun s z=>AWPL E ops l0 Q (s.put dst z)) .ret ⟨tm,ow,tk,gl,none,tmps++up⟩:=by
  intro tm ow u0   how hu0 eu0
  rw[how];rw[eu0] at hu0
  refine⟨rfl,?_⟩
  have gu0:St.ev ⟨tm,own,tk,gl,none,tmps++up⟩ (.tmp 4)=bvV (Kp.tabC (BitVec.ofNat 32 b.toNat)):=by simp[St.ev,List.getD_eq_getElem?_getD,hu0]
  show AWPL E ops l0 Q (St.put _ dst (tupOf [St.ev _ (.tmp 4)]))
  rw[gu0]
  exact h0
 generalize AInPost E.P [.tmp 4] ⟨tmps,own,tk,gl,none,up⟩ (fun s z=>AWPL E ops l0 Q (s.put dst z))=Q' at hB0 ⊢
 generalize tmps++up=up' at hbu hB0 ⊢
 clear h0 hx0 hx1
 have hset:∀x:Option (List AV),(own.set id x)[id]?=some x:=fun x=>by rw[List.getElem?_set_self (lt_of_get ho)]
 repeat'(first
 |(
  refine AWP.here 1 5 6 rfl ?_
  refine AWP.regionL ?_
  refine AWPL.at 6 4 rfl ?_
  simp only[go_sem,ho,hset,List.length_set]
  refine AWPL.crcDone (id:=id) rfl rfl (by simp) rfl (by assumption) (by simpa[AV.bel,AV.bel2,AV.bel1,lt_of_get ho] using hbu) hbo ?_
  simp only[go_sem,ho,hset,List.length_set]
  refine AWPL.of ?_
  simp only[go_sem,ho,hset,List.length_set])
 |refine AWP.seqk fun K hK=>?_
 |(
  refine AWP.here 2 11 7 rfl ?_
  refine AWP.region ?_;simp only[go_sem,ho,hset,List.length_set,tblV,drop3,drop_z,sums_at,u8_lt,true_and])
 |(refine AWP.region ?_;simp only[go_sem,ho,hset,List.length_set])
 |(refine hK _ ?_;clear hK K)
 |(
  refine AWP.ret ?_
  (try simp only[inb_ret,athen_ret])
  exact hB0 _ _ _ rfl rfl rfl))
def tD(d:Bool):AV:=bif d then tblV 1 0 256 else tblV 0 0 0
theorem all1:bvV (List.foldl Kp.upC (BitVec.allOnes 32) ([]:List (List UInt8)).flatten)=AV.v (.int .u32 4294967295):=by
 show AV.v (.int .u32 ((BitVec.allOnes 32).toNat:Int))=_
 rw[show((BitVec.allOnes 32).toNat:Int)=4294967295 by decide]
theorem tD_bel{d:Bool}{no nt:Nat}:OwnBel [some [tD d]] no nt:=by
 cases d
 ·exact OwnBel.cons (fun es h e he z hz=>by cases h;exact tbl_bel he hz) OwnBel.nil
 ·exact OwnBel.cons (fun es h e he z hz=>by cases h;exact tbl_bel he hz) OwnBel.nil
theorem tD_wk{d:Bool}{no nt:Nat}{x:Option (List AV)}(h:some [tD d]=x):some [tD d]=none∨some [tD d]=x∧∀es,x=some es→∀e∈es,∀z∈e.leaves,z.bel no nt=true:=
 .inr ⟨h,fun es he e hm z hz=>by
  subst h;cases he
  cases d
  ·exact tbl_bel (d:=0) (l:=0) (i:=0) hm hz
  ·exact tbl_bel (d:=1) (l:=0) (i:=256) hm hz⟩
theorem tD_wk2{d:Bool}{no nt:Nat}:some [tD d]=none∨∀es,some [tD d]=some es→∀e∈es,∀z∈e.leaves,z.bel no nt=true:=(tD_wk (no:=no) (nt:=nt) (rfl:some [tD d]=some [tD d])).imp id fun h=>h.2
theorem fold_next{l:List (List UInt8)}{i j:Nat}{x:List UInt8}{s0:BitVec 32}(hx:l[i]?=some x)(hj:¬(j:Int)<(x.length:Int)):
 ((l.take (i+1)).flatten.foldl Kp.upC s0)=(x.take j).foldl Kp.upC ((l.take i).flatten.foldl Kp.upC s0):=by
 rw[List.take_add_one,hx,Option.toList_some,List.flatten_append,List.foldl_append,show x.take j=x from List.take_of_length_le (by omega)]
 simp
theorem not_bv(s:BitVec 32):IntKind.u32.wrap ((BitVec.ofInt 32 (if IntKind.u32.signed=true then -1 else IntKind.u32.max) ^^^ BitVec.ofInt 32 (s.toNat:Int)).toNat:Int)=((~~~ s).toNat:Int):=by
 have e:BitVec.ofInt 32 (if IntKind.u32.signed=true then -1 else IntKind.u32.max)=BitVec.allOnes 32:=by decide
 rw[ofInt_nat,wrap_bv,e,BitVec.allOnes_xor]
theorem sum_leaf{l:List (List UInt8)}{i:Nat}(h:¬(i:Int)<(l.length:Int)):IntKind.u32.wrap ((BitVec.ofInt 32 (if IntKind.u32.signed=true then -1 else IntKind.u32.max) ^^^ BitVec.ofInt 32 (((l.take i).flatten.foldl Kp.upC (BitVec.allOnes 32)).toNat:Int)).toNat:Int)=((Kp.sumC l.flatten).toNat:Int):=by
 rw[not_bv,List.take_of_length_le (by omega)];rfl
def idxC(s:BitVec 32)(b:UInt8):UInt8:=UInt8.ofNat ((s ^^^ BitVec.ofNat 32 b.toNat) &&& 255#32).toNat
theorem of_call{ops:Array Oper}{l0:List Oper}{Q:Exit→St→Prop}{tmps up:List AV}{gl:Nat→Option (List AV)}{own:List (Option (List AV))}{tk:List Nat}{dst:Option Tmp}{x0 x1:Operand}{tys:Array TypeId}{ty:TypeId}{pos:String}{after:Array Edge}{id:Nat}{b:UInt8}{d:Bool}
 (hx0:St.ev ⟨tmps,own,tk,gl,none,up⟩ x0= .ptr id 0 0) (hx1:St.ev ⟨tmps,own,tk,gl,none,up⟩ x1=u8 b)
 (ho:own[id]?=some (some [tD d])) (hbu:(tmps++up).all (AV.bel own.length tk.length)=true) (hbo:OwnBel own own.length tk.length)
 (h0:AWPL E ops l0 Q (St.put ⟨tmps,own.set id (some [tD true]),tk,gl,none,up⟩ dst (bvV (Kp.tabC (BitVec.ofNat 32 b.toNat))))):
 AWPL E ops (⟨dst,.call ⟨.value (.func 178),#[x0,x1],tys⟩,ty,pos,after,none⟩::l0) Q ⟨tmps,own,tk,gl,none,up⟩:=by
 cases d
 ·exact of0_call hx0 hx1 ho hbu hbo h0
 ·refine of1_call hx0 hx1 ho hbu hbo ?_
  have e:own.set id (some [tD true])=own:=by
   obtain⟨h1,h2⟩:=List.getElem?_eq_some_iff.1 ho
   rw[←h2,List.set_getElem_self]
  rw[e] at h0;exact h0
theorem xor_idx(s:BitVec 32)(b:UInt8):AV.v (.int .u8 (IntKind.u8.wrap ((BitVec.ofInt 8 (IntKind.u8.wrap (s.toNat:Int)) ^^^ BitVec.ofInt 8 (b.toNat:Int)).toNat:Int)))=u8 (idxC s b):=by
 have hb:=b.toNat_lt
 have hw:∀n:Nat,IntKind.u8.wrap (n:Int)=((n%256:Nat):Int):=by
  intro n
  simp only[IntKind.wrap,IntKind.bits,IntKind.signed,Bool.false_and,Bool.false_eq_true,if_false]
  omega
 have ho:∀n:Nat,(BitVec.ofInt 8 (n:Int)).toNat=n%256:=by intro n;simp
 have h3:(BitVec.ofInt 8 (IntKind.u8.wrap (s.toNat:Int)) ^^^ BitVec.ofInt 8 (b.toNat:Int)).toNat=(s.toNat ^^^ b.toNat)%256:=by
  rw[BitVec.toNat_xor,hw,ho,ho,Nat.mod_mod,show(256:Nat)=2^8 by rfl,Nat.xor_mod_two_pow]
 have h4:(idxC s b).toNat=(s.toNat ^^^ b.toNat)%256:=by
  unfold idxC
  rw[BitVec.toNat_and,BitVec.toNat_xor,BitVec.toNat_ofNat,Nat.mod_eq_of_lt (show b.toNat<2^32 by omega),show(255#32).toNat=2^8-1 by rfl,Nat.and_two_pow_sub_one_eq_mod]
  simp
 rw[h3,hw,Nat.mod_mod,←h4];rfl
theorem idx_bv(s:BitVec 32)(b:UInt8):BitVec.ofNat 32 (idxC s b).toNat=(s ^^^ BitVec.ofNat 32 b.toNat) &&& 255#32:=by
 unfold idxC
 apply BitVec.eq_of_toNat_eq
 have h:((s ^^^ BitVec.ofNat 32 b.toNat) &&& 255#32).toNat<256:=by
  rw[BitVec.toNat_and,show(255#32).toNat=2^8-1 by rfl,Nat.and_two_pow_sub_one_eq_mod];omega
 rw[BitVec.toNat_ofNat]
 simp only[UInt8.toNat_ofNat']
 omega
theorem fdiv_8(x:BitVec 32):((x.toNat:Int)).fdiv (2^min 8 32)=((x >>> 8).toNat:Int):=by
 rw[BitVec.toNat_ushiftRight,Nat.shiftRight_eq_div_pow,Int.fdiv_eq_ediv_of_nonneg _ (by decide)]
 rfl
theorem up_eq{x:List UInt8}{j:Nat}{b:UInt8}{s0:BitVec 32}(hb:x[j]?=some b):
 bvV ((x.take (j+1)).foldl Kp.upC s0)=AV.v (.int .u32 (IntKind.u32.wrap ((BitVec.ofInt 32 ((((x.take j).foldl Kp.upC s0).toNat:Int).fdiv (2^min 8 32)) ^^^ BitVec.ofInt 32 ((Kp.tabC (BitVec.ofNat 32 (idxC ((x.take j).foldl Kp.upC s0) b).toNat)).toNat:Int)).toNat:Int))):=by
 rw[fdiv_8,ofInt_nat,ofInt_nat,wrap_bv,idx_bv,List.take_add_one,hb,Option.toList_some,List.foldl_append]
 rfl
theorem sumof_c(l:List (List UInt8))(hl:l.length≤1000)(hs:∀p∈l,p.length≤100000):ACalls E 137 [.sl none 1 (l.map bytesV)] (fun r t=>r=bvV (Kp.sumC l.flatten)∧t=[]):=by
 refine ACalls.of_awp (n:=33) (rs:=[.tmp 2]) Tryz.func137 rfl Tryz.ntmps137 rfl ?_
 repeat'(first
 |(
  refine AWP.here 9 21 9 rfl ?_
  refine AWP.regionL ?_
  refine AWPL.at 9 6 rfl ?_
  simp only[go_sem]
  refine of_call (id:=0) (d:=d) rfl (xor_idx _ _) rfl rfl tD_bel ?_
  simp only[go_sem]
  refine AWPL.of ?_
  simp only[go_sem])
 |refine AWP.seqk fun K hK=>?_
 |(
  refine AWP.here 5 13 3 rfl ?_
  obtain⟨x,hx⟩:∃x,l[i]?=some x:=⟨_,List.getElem?_eq_getElem (by omega)⟩
  have hxl:=hs x (List.mem_of_getElem? hx)
  refine AWP.region ?_;simp only[go_sem,hx,Option.map_some,List.getElem?_map])
 |(refine AWP.region ?_;simp only[go_sem])
 |(refine hK _ ?_;clear hK K)
 |refine AWP.block ?_
 |refine AWP.cond rfl (fun c=>?_) (fun c=>?_)<;>(try simp only[dD] at c)
 |refine AWP.skip ?_
 |(refine AWP.exit ?_;simp only[go_sem])
 |((first|refine AGet.nth ?_ (fun b hb=>?_)|with_reducible refine And.intro ?_ ?_);(focus(first|omega|(simp;done)));(try simp only[hb,go_sem]))
 |(
  refine AWP.here 4 12 1 rfl ?_
  refine AWP.loopM (ι:=Nat×Bool) [6,8,12,13,14,15,16,17,18,19,20,21,22,23,24,25,26,27,28,29,30] (fun⟨i,d⟩=>[(11,i64 i),(4,bvV ((l.take i).flatten.foldl Kp.upC (BitVec.allOnes 32)))]) (fun⟨i,d⟩=>[some [tD d]]) (fun⟨i,d⟩=>[]) (fun⟨i,d⟩=>i≤l.length) (fun⟨i,d⟩=>l.length-i) ((0,false)) ?_ ?_ ?_
  ·(try simp only[go_sem]);(try simp only[go_sem]);(repeat'(first|exact .inr all1|exact tD_wk rfl|refine And.intro ?_ ?_))
  ·exact Nat.zero_le _
  rintro⟨i,d⟩ h1
  simp only[go_sem])
 |(
  refine AWP.here 7 18 1 rfl ?_
  refine AWP.loopM (ι:=Nat×Bool) [8,18,19,20,21,22,23,24,25,26,27,28,29] (fun⟨j,d⟩=>[(17,i64 j),(4,bvV ((x.take j).foldl Kp.upC ((l.take i).flatten.foldl Kp.upC (BitVec.allOnes 32))))]) (fun⟨j,d⟩=>[some [tD d]]) (fun⟨j,d⟩=>[]) (fun⟨j,d⟩=>j≤x.length) (fun⟨j,d⟩=>x.length-j) ((0,d)) ?_ ?_ ?_
  ·(try simp only[go_sem]);(try simp only[go_sem]);(repeat'(first|exact tD_wk2|refine And.intro ?_ ?_|exact .inr rfl))
  ·exact Nat.zero_le _
  rintro⟨j,d⟩ h2
  simp only[go_sem])
 |(
  refine⟨(i+1,d),?_,?_,?_⟩
  ·(try simp only[go_sem]);(try rw[wrap64_id (by omega) (by omega)]);(try simp only[go_sem]);(repeat'(first|exact tD_wk2|exact .inr (by rw[fold_next (by assumption) (by assumption)])|refine And.intro ?_ ?_|exact .inr rfl))
  ·omega
  ·(try simp only[]);omega)
 |(
  refine⟨(j+1,true),?_,?_,?_⟩
  ·(try simp only[go_sem]);(try rw[wrap64_id (by omega) (by omega)]);(try simp only[go_sem]);(repeat'(first|exact tD_wk2|exact .inr (up_eq (by assumption))|refine And.intro ?_ ?_|exact .inr rfl))
  ·omega
  ·(try simp only[]);omega)
 |(
  refine AWP.ret ?_
  refine AEnd.is ?_;simp only[go_sem,out_v,out_s,out_n,v_int,v_bool,v_str]<;>(exact sum_leaf (by omega)))
 |refine AWP.fin (by assumption) ?_)
end Go.Proofs.YthoonfpkfdjhiaaGreatDoor
end
section
namespace Go.Abs
open Go Go.RowKit
theorem AWPL.makeT{E:Env}{Q:Exit→St→Prop}{st:St}{ops:Array Oper}{l:List Oper}{dst:Option Tmp}{t ty:TypeId}{pos:String}{after:Array Edge}{x y:Operand}{kl kc:IntKind}{e:TypeId}{k n m:Nat}{zs:List AV}
 (hai:appInfo E.P t=some (e,k,n)) (hzv:tzero E.P e=some zs) (hx:st.ev x= .v (.int kl 0)) (hy:st.ev y= .v (.int kc (m:Int))) (hm:m*k≤1000000) (hm2:m≤1000000) (hn:n*m≤1000000000)
 (h:AWPL E ops l Q (St.put { st with tk:=st.tk++[0] } dst (.sl (some st.tk.length) k []))):AWPL E ops (⟨dst,.makeSlice t x y,ty,pos,after,none⟩::l) Q st:=by
 intro w0 im0 cx a w h0 hG r
 refine wpList_step (fun K' hK'=>?_)
 have hw:Region.wanted ⟨dst,.makeSlice t x y,ty,pos,after,none⟩ (yielded ops a.tmps)=true:=rfl
 rw[if_pos hw]
 obtain⟨hu,hs,hk0,i,zv,hi,hz,hsize,hbytes,hzs⟩:=appInfo_ok hai
 have hzl:zs=zv.cells.toList.map leafOf∧zs.all AV.leafy=true:=by
  unfold tzero at hzv
  simp only[hi,hz,Option.bind_some] at hzv
  split at hzv
  ·rename_i hall
   simp only[Option.some.injEq] at hzv
   exact⟨hzv.symm,by rw[←hzv];exact hall⟩
  ·simp at hzv
 have ex:a.eval x= .int kl 0:=by have:=r.ev x;rw[hx] at this;exact this.inv_v
 have ey:a.eval y= .int kc (m:Int):=by have:=r.ev y;rw[hy] at this;exact this.inv_v
 have hsz:m*i.size≤16777216:=by rw[hsize];omega
 have hby:(i.bytes:Int)*(m:Int)≤281474976710656:=by
  rw[hbytes]
  have h2:((n*m:Nat):Int)≤281474976710656:=by omega
  rwa[Int.natCast_mul] at h2
 have hrun:=run_makeSlice (P:=E.P) (w:=w) t e i zv hu hi hz kl kc 0 (m:Int) (by omega) (by omega) (by simpa using hsz) hby (by omega)
 simp only[Int.toNat_natCast] at hrun
 have hlen:zs.length=k:=by rw[hzl.1];simp[hzs]
 have hcells:Cells cx.im k ([]:List AV) (madeCells zv.cells (m*i.size)).toList:=⟨fun j z hj=>by simp at hj,fun j z q u hj hq=>by simp at hj⟩
 obtain⟨c',hle,r2,hv⟩:=r.newTok (below_alloc w (.cells (madeCells zv.cells (m*i.size)) e)) (g:=w.heap.size) (k:=k) (cap:=m) (es:=[]) (Nat.le_refl _) (heap_new w _) (.inl rfl)
  (by rw[size_madeCells,hsize];exact Nat.le_refl _) (by simp) hcells
 simp only[List.length_nil] at r2 hv
 refine wp_value (w':=w.alloc (.cells (madeCells zv.cells (m*i.size)) e)) (v:= .slice (some ⟨w.heap.size,0,none⟩) 0 m) ?_ (hK' _ _ (h w0 im0 _ _ _ h0 hG (r2.put dst hv)))
 simp only[execOp,ex,ey,Sem.run_bind,hrun,Result.andThen_ok,Sem.run_pure];rfl
end Go.Abs
end
section
namespace Go.Proofs.YthoonfpkfdjhiaaGreatDoor
open Go Go.Abs Go.RowKit
theorem w8(n:Nat):IntKind.u8.wrap (n:Int)=((n%256:Nat):Int):=by
 simp only[IntKind.wrap,IntKind.bits,IntKind.signed,Bool.false_and,Bool.false_eq_true,if_false]
 omega
theorem u8_nat(n:Nat):u8 (UInt8.ofNat n)=AV.v (.int .u8 ((n%256:Nat):Int)):=by
 show AV.v (.int .u8 (((UInt8.ofNat n).toNat:Nat):Int))=_
 rw[Kp.u8n]
theorem fd_nat(n k:Nat):((n:Nat):Int).fdiv (2^k)=((n/2^k:Nat):Int):=by
 rw[Int.fdiv_eq_ediv_of_nonneg _ (Int.pow_nonneg (by decide))];simp
theorem be4_av(x:BitVec 32):[AV.v (.int .u8 (IntKind.u8.wrap ((x.toNat:Int).fdiv (2^min 24 32)))),AV.v (.int .u8 (IntKind.u8.wrap ((x.toNat:Int).fdiv (2^min 16 32)))),AV.v (.int .u8 (IntKind.u8.wrap ((x.toNat:Int).fdiv (2^min 8 32)))),AV.v (.int .u8 (IntKind.u8.wrap (x.toNat:Int)))]=(Kp.be4 x).map u8:=by
 rw[show min 24 32=24 by rfl,show min 16 32=16 by rfl,show min 8 32=8 by rfl,fd_nat,fd_nat,fd_nat,w8,w8,w8,w8]
 show _=[u8 (UInt8.ofNat (x.toNat/16777216)),u8 (UInt8.ofNat (x.toNat/65536)),u8 (UInt8.ofNat (x.toNat/256)),u8 (UInt8.ofNat x.toNat)]
 rw[u8_nat,u8_nat,u8_nat,u8_nat]
theorem rec_leaf(rc:List UInt8):(Kp.be2 rc.length).map u8++[AV.v (.int .u8 (IntKind.u8.wrap (((Kp.sumC [Kp.be2 rc.length,rc].flatten).toNat:Int).fdiv (2^min 24 32)))),AV.v (.int .u8 (IntKind.u8.wrap (((Kp.sumC [Kp.be2 rc.length,rc].flatten).toNat:Int).fdiv (2^min 16 32)))),AV.v (.int .u8 (IntKind.u8.wrap (((Kp.sumC [Kp.be2 rc.length,rc].flatten).toNat:Int).fdiv (2^min 8 32)))),AV.v (.int .u8 (IntKind.u8.wrap ((Kp.sumC [Kp.be2 rc.length,rc].flatten).toNat:Int)))]++rc.map u8=(Kp.recC rc).map u8:=by
 rw[be4_av]
 unfold Kp.recC
 simp[List.map_append]
theorem room_eq{rc:List UInt8}(h:rc.length≤4096):AV.v (.int .i64 (IntKind.i64.wrap (6+(rc.length:Int))))=AV.v (.int .i64 ((6+rc.length:Nat):Int)):=by
 rw[wrap64_id (by omega) (by omega),Int.natCast_add];rfl
theorem two_len{rc:List UInt8}{n:Nat}(h:rc.length≤100000):∀p∈[Kp.be2 n,rc],p.length≤100000:=by
 intro p hp
 simp only[List.mem_cons,List.not_mem_nil,or_false] at hp
 rcases hp with rfl|rfl
 ·rw[Kp.be2_len];omega
 ·exact h
theorem be2_av{n:Nat}:[AV.v (.int .u8 (IntKind.u8.wrap ((n:Int).fdiv (2^min 8 64)))),AV.v (.int .u8 (IntKind.u8.wrap (n:Int)))]=(Kp.be2 n).map u8:=by
 have hw:∀n:Nat,IntKind.u8.wrap (n:Int)=((n%256:Nat):Int):=by
  intro n
  simp only[IntKind.wrap,IntKind.bits,IntKind.signed,Bool.false_and,Bool.false_eq_true,if_false]
  omega
 have hd:(n:Int).fdiv (2^min 8 64)=((n/256:Nat):Int):=by
  rw[Int.fdiv_eq_ediv_of_nonneg _ (by decide)];rfl
 have hu:∀n:Nat,u8 (UInt8.ofNat n)=AV.v (.int .u8 ((n%256:Nat):Int)):=by
  intro n
  show AV.v (.int .u8 (((UInt8.ofNat n).toNat:Nat):Int))=_
  rw[Kp.u8n]
 rw[hd,hw,hw]
 show _=[u8 (UInt8.ofNat (n/256)),u8 (UInt8.ofNat n)]
 rw[hu,hu]
theorem crcput_c(rc:List UInt8)(h1:1≤rc.length)(h2:rc.length≤4096):ACalls E 93 [bytesV rc] (fun r t=>r= .tup [bytesV (Kp.recC rc),i64 0]∧t=[]):=by
 refine ACalls.of_awp (n:=49) (rs:=[.tmp 2,.tmp 3]) Tryz.func93 rfl Tryz.ntmps93 rfl ?_
 repeat'(first
 |(
  refine AWP.here 6 26 4 rfl ?_
  refine AWP.regionL ?_
  refine AWPL.at 4 2 rfl ?_
  simp only[go_sem,Kp.be2_len,List.length_append,List.length_map,List.nil_append]
  refine AWPL.makeT (e:=5) (k:=1) (n:=1) (m:=6+rc.length) (zs:=[.v (.int .u8 0)]) (by kernel_rfl) (by kernel_rfl) (by rfl) (room_eq h2) (by omega) (by omega) (by omega) ?_
  refine AWPL.of ?_
  simp only[go_sem,Kp.be2_len,List.length_append,List.length_map,List.nil_append])
 |refine AWP.seqk fun K hK=>?_
 |(
  refine AWP.here 4 16 7 rfl ?_
  refine AWP.region ?_;simp only[go_sem,Kp.be2_len,List.length_append,List.length_map,List.nil_append,be2_av])
 |(refine AWP.region ?_;simp only[go_sem,Kp.be2_len,List.length_append,List.length_map,List.nil_append])
 |(refine hK _ ?_;clear hK K)
 |refine AWP.cond rfl (fun c=>?_) (fun c=>?_)<;>first|exact Bool.noConfusion c|(try simp only[dD] at c)
 |refine AWP.skip ?_
 |(refine ACall.one (sumof_c [Kp.be2 rc.length,rc] (by show 2≤1000;omega) (two_len (by omega))) (by kernel_rfl) rfl ?_;simp only[go_sem,Kp.be2_len,List.length_append,List.length_map,List.nil_append])
 |(refine AGuard.splitN (fun h=>?_) (fun h=>?_)<;>simp only[h,go_sem,Kp.be2_len,List.length_append,List.length_map,List.nil_append]<;>(try simp only[dD] at h))
 |((with_reducible refine And.intro ?_ ?_);(focus(first|omega|(simp;done)));(try simp only[hb,go_sem,Kp.be2_len,List.length_append,List.length_map,List.nil_append]))
 |(
  refine AWP.ret ?_
  refine AEnd.is ?_;simp only[go_sem,out_v,out_s,out_n,v_int,v_bool,v_str]<;>(first|(exfalso;omega)|exact rec_leaf rc)))
theorem nil_of{l:List UInt8}{bb:Bool}(h:¬l.map u8=[]→bb=false)(c:bb=true):l=[]:=by
 by_cases e:l=[]
 ·exact e
 ·have:=h (by simpa using e)
  rw[this] at c;exact absurd c (by decide)
theorem bclone_c(l:List UInt8)(hl:l.length≤1000000):ACalls E 77 [bytesV l] (fun r t=>r=bytesV l∧t=[]):=by
 refine ACalls.of_awp (n:=8) (rs:=[.tmp 2]) Tryz.func77 rfl Tryz.ntmps77 rfl ?_
 repeat'(first
 |refine fun(bb:Bool) (hbb:¬List.map u8 l=[]→bb=false)=>?_
 |refine AWP.seqk fun K hK=>?_
 |(refine AWP.region ?_;simp only[go_sem,List.length_map,List.nil_append])
 |(refine hK _ ?_;clear hK K)
 |refine AWP.cond rfl (fun c=>?_) (fun c=>?_)<;>(try simp only[dD] at c)
 |refine AWP.skip ?_
 |((with_reducible refine And.intro ?_ ?_);(focus(first|omega|(simp;done)));(try simp only[hb,go_sem,List.length_map,List.nil_append]))
 |(
  refine AWP.ret ?_
  refine AEnd.is ?_;simp only[go_sem,out_v,out_s,out_n,v_int,v_bool,v_str]<;>((have he:l=[]:=nil_of (by assumption) (by assumption);subst he;trivial))))
theorem inst64(x y:BitVec 64):@HOr.hOr (BitVec 64) (BitVec 64) (BitVec 64) (@instHOrOfOrOp (BitVec IntKind.i64.bits) (@BitVec.instOrOp IntKind.i64.bits)) x y=x |||y:=rfl
theorem inst32(x y:BitVec 32):@HOr.hOr (BitVec 32) (BitVec 32) (BitVec 32) (@instHOrOfOrOp (BitVec IntKind.u32.bits) (@BitVec.instOrOp IntKind.u32.bits)) x y=x |||y:=rfl
theorem or_add{a b k:Nat}(h:b<2^k):(a*2^k) |||b=a*2^k+b:=by
 rw[Nat.mul_comm a];exact(Nat.two_pow_add_eq_or_of_lt h a).symm
theorem head_or(b0 b1:UInt8):IntKind.i64.wrap ((BitVec.ofInt 64 (IntKind.i64.wrap (IntKind.i64.wrap (b0.toNat:Int)*2^min 8 64)) |||BitVec.ofInt 64 (IntKind.i64.wrap (b1.toNat:Int))).toNat:Int)=((b0.toNat*256+b1.toNat:Nat):Int):=by
 have h0:=b0.toNat_lt
 have h1:=b1.toNat_lt
 have e1:IntKind.i64.wrap (IntKind.i64.wrap (b0.toNat:Int)*2^min 8 64)=((b0.toNat*2^8:Nat):Int):=by
  rw[wrap64_id (x:=(b0.toNat:Int)) (by omega) (by omega),show min 8 64=8 by rfl,wrap64_id (by omega) (by omega)]
  simp
 have e2:IntKind.i64.wrap (b1.toNat:Int)=((b1.toNat:Nat):Int):=wrap64_id (by omega) (by omega)
 have ho:∀n:Nat,n<2^64→(BitVec.ofInt 64 (n:Int)).toNat=n:=by intro n hn;simp;omega
 rw[e1,e2,BitVec.toNat_or,ho _ (by omega),ho _ (by omega),or_add (by omega),wrap64_id (by omega) (by omega)]
theorem wr32(n:Nat)(h:n<2^32):IntKind.u32.wrap (n:Int)=(n:Int):=by
 simp only[IntKind.wrap,IntKind.bits,IntKind.signed,Bool.false_and,Bool.false_eq_true,if_false]
 omega
theorem or32{A b k a:Nat}(hA:A=a*2^k)(hb:b<2^k)(h:A+b<2^32):IntKind.u32.wrap ((BitVec.ofInt 32 (A:Int) |||BitVec.ofInt 32 (b:Int)).toNat:Int)=((A+b:Nat):Int):=by
 have ho:∀n:Nat,n<2^32→(BitVec.ofInt 32 (n:Int)).toNat=n:=by intro n hn;simp;omega
 rw[BitVec.toNat_or,ho _ (by omega),ho _ (by omega),hA,or_add hb,wr32 _ (by omega)]
theorem or4(b2 b3 b4 b5:UInt8):IntKind.u32.wrap ((BitVec.ofInt 32 (IntKind.u32.wrap ((BitVec.ofInt 32 (IntKind.u32.wrap ((BitVec.ofInt 32 (IntKind.u32.wrap (IntKind.u32.wrap (b2.toNat:Int)*2^min 24 32)) |||BitVec.ofInt 32 (IntKind.u32.wrap (IntKind.u32.wrap (b3.toNat:Int)*2^min 16 32))).toNat:Int)) |||BitVec.ofInt 32 (IntKind.u32.wrap (IntKind.u32.wrap (b4.toNat:Int)*2^min 8 32))).toNat:Int)) |||BitVec.ofInt 32 (IntKind.u32.wrap (b5.toNat:Int))).toNat:Int)=((b2.toNat*16777216+b3.toNat*65536+b4.toNat*256+b5.toNat:Nat):Int):=by
 have h2:=b2.toNat_lt
 have h3:=b3.toNat_lt
 have h4:=b4.toNat_lt
 have h5:=b5.toNat_lt
 have ho:∀n:Nat,n<2^32→(BitVec.ofInt 32 (n:Int)).toNat=n:=by intro n hn;simp;omega
 have sh:∀(b:UInt8) (k:Nat),b.toNat*2^k<2^32→IntKind.u32.wrap (IntKind.u32.wrap (b.toNat:Int)*2^k)=((b.toNat*2^k:Nat):Int):=by
  intro b k hk
  have:=b.toNat_lt
  rw[wr32 _ (by omega),show((b.toNat:Int)*2^k)=((b.toNat*2^k:Nat):Int) by simp,wr32 _ hk]
 rw[show min 24 32=24 by rfl,show min 16 32=16 by rfl,show min 8 32=8 by rfl,sh b2 24 (by omega),sh b3 16 (by omega),sh b4 8 (by omega),wr32 _ (by omega:b5.toNat<2^32)]
 rw[or32 (k:=24) rfl (by omega) (by omega),or32 (k:=16) (a:=b2.toNat*2^8+b3.toNat) (by omega) (by omega) (by omega),or32 (k:=8) (a:=b2.toNat*2^16+b3.toNat*2^8+b4.toNat) (by omega) (by omega) (by omega)]
theorem head_of{l:List UInt8}{b0 b1:UInt8}(h0:l[0]?=some b0)(h1:l[1]?=some b1):b0.toNat*256+b1.toNat=Kp.headC l:=by
 unfold Kp.headC Kp.bAt
 rw[List.getD_eq_getElem?_getD,List.getD_eq_getElem?_getD,h0,h1];rfl
theorem head_lt(l:List UInt8):Kp.headC l<65536:=by
 unfold Kp.headC Kp.bAt
 have:=(l.getD 0 0).toNat_lt
 have:=(l.getD 1 0).toNat_lt
 omega
theorem head6{l:List UInt8}:IntKind.i64.wrap (6+((Kp.headC l:Nat):Int))=((6+Kp.headC l:Nat):Int):=by
 have:=head_lt l
 rw[wrap64_id (by omega) (by omega)];simp
theorem next_len{l:List UInt8}{n:Nat}(h:n≤100000):∀p∈[l.take 2,(l.take n).drop 6],p.length≤100000:=by
 intro p hp
 simp only[List.mem_cons,List.not_mem_nil,or_false] at hp
 rcases hp with rfl|rfl
 ·rw[List.length_take];omega
 ·rw[List.length_drop,List.length_take];omega
theorem nx_a{l:List UInt8}(h:l.length<6):Kp.nextC l=([],0,2):=by unfold Kp.nextC;rw[if_pos h]
theorem nx_b{l:List UInt8}(h:¬l.length<6)(h2:Kp.headC l<1∨4096<Kp.headC l):Kp.nextC l=([],0,3):=by unfold Kp.nextC;rw[if_neg h,if_pos h2]
theorem nx_c{l:List UInt8}(h:¬l.length<6)(h2:¬(Kp.headC l<1∨4096<Kp.headC l))(h3:l.length<6+Kp.headC l):Kp.nextC l=([],0,2):=by unfold Kp.nextC;rw[if_neg h,if_neg h2,if_pos h3]
theorem six:∀{l:List UInt8} {b0 b1 b2 b3 b4 b5:UInt8},l[0]?=some b0→l[1]?=some b1→l[2]?=some b2→l[3]?=some b3→l[4]?=some b4→l[5]?=some b5→∃t,l=b0::b1::b2::b3::b4::b5::t
 |a0::a1::a2::a3::a4::a5::t,_,_,_,_,_,_,h0,h1,h2,h3,h4,h5=>by cases h0;cases h1;cases h2;cases h3;cases h4;cases h5;exact⟨t,rfl⟩
theorem sum_iff{b0 b1 b2 b3 b4 b5:UInt8}{t:List UInt8}(hn:b0.toNat*256+b1.toNat≤t.length):
 Kp.recC (t.take (b0.toNat*256+b1.toNat))=b0::b1::b2::b3::b4::b5::t.take (b0.toNat*256+b1.toNat)↔(Kp.sumC ([b0,b1]++t.take (b0.toNat*256+b1.toNat))).toNat=b2.toNat*16777216+b3.toNat*65536+b4.toNat*256+b5.toNat:=by
 have h0:=b0.toNat_lt
 have h1:=b1.toNat_lt
 have h2:=b2.toNat_lt
 have h3:=b3.toNat_lt
 have h4:=b4.toNat_lt
 have h5:=b5.toNat_lt
 have hl:(t.take (b0.toNat*256+b1.toNat)).length=b0.toNat*256+b1.toNat:=by rw[List.length_take];omega
 have hb:Kp.be2 (b0.toNat*256+b1.toNat)=[b0,b1]:=by
  unfold Kp.be2
  rw[show(b0.toNat*256+b1.toNat)/256=b0.toNat by omega]
  have e0:UInt8.ofNat b0.toNat=b0:=by simp
  have e1:UInt8.ofNat (b0.toNat*256+b1.toNat)=b1:=by
   apply UInt8.toNat_inj.1;rw[Kp.u8n];omega
  rw[e0,e1]
 unfold Kp.recC
 rw[hl,hb]
 generalize Kp.sumC ([b0,b1]++t.take (b0.toNat*256+b1.toNat))=x
 have hx:=x.isLt
 show b0::b1::UInt8.ofNat (x.toNat/16777216)::UInt8.ofNat (x.toNat/65536)::UInt8.ofNat (x.toNat/256)::UInt8.ofNat x.toNat::_=_↔_
 have q:∀(n:Nat) (b:UInt8),UInt8.ofNat n=b↔n%256=b.toNat:=by
  intro n b
  rw[←UInt8.toNat_inj,Kp.u8n]
 constructor
 ·intro e
  injection e with _ e;injection e with _ e;injection e with e2 e;injection e with e3 e;injection e with e4 e;injection e with e5 _
  rw[q] at e2 e3 e4 e5;omega
 ·intro e
  rw[(q _ b2).2 (by omega),(q _ b3).2 (by omega),(q _ b4).2 (by omega),(q _ b5).2 (by omega)]
  rfl
theorem nx_sum{l:List UInt8}{b0 b1 b2 b3 b4 b5:UInt8}(h0:l[0]?=some b0)(h1:l[1]?=some b1)(h2:l[2]?=some b2)(h3:l[3]?=some b3)(h4:l[4]?=some b4)(h5:l[5]?=some b5)(hn:¬l.length<6+Kp.headC l):
 (l.take (6+Kp.headC l)).drop 6=(l.drop 6).take (Kp.headC l)∧(Kp.recC ((l.drop 6).take (Kp.headC l))=l.take (6+Kp.headC l)↔(Kp.sumC [l.take 2,(l.take (6+Kp.headC l)).drop 6].flatten).toNat=b2.toNat*16777216+b3.toNat*65536+b4.toNat*256+b5.toNat):=by
 have e:=head_of h0 h1
 obtain⟨t,rfl⟩:=six h0 h1 h2 h3 h4 h5
 rw[←e] at hn ⊢
 obtain⟨n,hk⟩:∃n,b0.toNat*256+b1.toNat=n:=⟨_,rfl⟩
 rw[hk] at hn ⊢
 have hd:(b0::b1::b2::b3::b4::b5::t).drop 6=t:=rfl
 have ht:(b0::b1::b2::b3::b4::b5::t).take (6+n)=b0::b1::b2::b3::b4::b5::t.take n:=by
  rw[Nat.add_comm];rfl
 have h2:(b0::b1::b2::b3::b4::b5::t).take 2=[b0,b1]:=rfl
 have hl:n≤t.length:=by simp only[List.length_cons] at hn;omega
 rw[hd,ht,h2]
 refine⟨rfl,?_⟩
 have:=sum_iff (b0:=b0) (b1:=b1) (b2:=b2) (b3:=b3) (b4:=b4) (b5:=b5) (t:=t) (by omega)
 rw[hk] at this
 rw[this]
 show _↔(Kp.sumC [[b0,b1],t.take n].flatten).toNat=_
 rw[List.flatten_cons,List.flatten_cons,List.flatten_nil,List.append_nil]
theorem nx_d{l:List UInt8}{b0 b1 b2 b3 b4 b5:UInt8}(h0:l[0]?=some b0)(h1:l[1]?=some b1)(h2:l[2]?=some b2)(h3:l[3]?=some b3)(h4:l[4]?=some b4)(h5:l[5]?=some b5)(ha:¬l.length<6)(hb:¬(Kp.headC l<1∨4096<Kp.headC l))(hn:¬l.length<6+Kp.headC l)
 (hs:¬(((Kp.sumC [l.take 2,(l.take (6+Kp.headC l)).drop 6].flatten).toNat:Nat):Int)=((b2.toNat*16777216+b3.toNat*65536+b4.toNat*256+b5.toNat:Nat):Int)):Kp.nextC l=([],0,11):=by
 unfold Kp.nextC
 rw[if_neg ha,if_neg hb,if_neg hn,if_neg (fun h=>hs (by rw[(nx_sum h0 h1 h2 h3 h4 h5 hn).2.1 h]))]
theorem nx_e{l:List UInt8}{b0 b1 b2 b3 b4 b5:UInt8}(h0:l[0]?=some b0)(h1:l[1]?=some b1)(h2:l[2]?=some b2)(h3:l[3]?=some b3)(h4:l[4]?=some b4)(h5:l[5]?=some b5)(ha:¬l.length<6)(hb:¬(Kp.headC l<1∨4096<Kp.headC l))(hn:¬l.length<6+Kp.headC l)
 (hs:(((Kp.sumC [l.take 2,(l.take (6+Kp.headC l)).drop 6].flatten).toNat:Nat):Int)=((b2.toNat*16777216+b3.toNat*65536+b4.toNat*256+b5.toNat:Nat):Int)):Kp.nextC l=((l.take (6+Kp.headC l)).drop 6,6+Kp.headC l,0):=by
 have q:=nx_sum h0 h1 h2 h3 h4 h5 hn
 unfold Kp.nextC
 rw[if_neg ha,if_neg hb,if_neg hn,if_pos (q.2.2 (by omega)),q.1]
theorem crcnext_c(l:List UInt8)(hl:l.length≤1000000):ACalls E 179 [bytesV l] (fun r t=>r= .tup [bytesV (Kp.nextC l).1,i64 (Kp.nextC l).2.1,i64 (Kp.nextC l).2.2]∧t=[]):=by
 have hh:=head_lt l
 refine ACalls.of_awp (n:=69) (rs:=[.tmp 2,.tmp 3,.tmp 4]) Tryz.func179 rfl Tryz.ntmps179 rfl ?_
 repeat'(first
 |refine AWP.seqk fun K hK=>?_
 |(
  refine AWP.here 3 11 11 rfl ?_
  obtain⟨b0,hb0⟩:∃b0,l[0]?=some b0:=⟨_,List.getElem?_eq_getElem (by omega)⟩
  obtain⟨b1,hb1⟩:∃b1,l[1]?=some b1:=⟨_,List.getElem?_eq_getElem (by omega)⟩
  refine AWP.regionO [0,1,2,3,4,5,6,7,8,9,10] [] (by kernel_rfl) (by kernel_rfl) rfl ?_;simp only[go_sem,hb0,hb1,Option.map_some,List.getElem?_map,inst64,head_or,head_of hb0 hb1])
 |(
  refine AWP.here 6 27 5 rfl ?_
  refine AWP.region ?_;simp only[go_sem,head6])
 |(
  refine AWP.here 8 32 5 rfl ?_
  refine AWP.region ?_;simp only[go_sem,head6,Int.toNat_natCast])
 |(
  refine AWP.here 9 36 23 rfl ?_
  obtain⟨b2,hb2⟩:∃b2,l[2]?=some b2:=⟨_,List.getElem?_eq_getElem (by omega)⟩
  obtain⟨b3,hb3⟩:∃b3,l[3]?=some b3:=⟨_,List.getElem?_eq_getElem (by omega)⟩
  obtain⟨b4,hb4⟩:∃b4,l[4]?=some b4:=⟨_,List.getElem?_eq_getElem (by omega)⟩
  obtain⟨b5,hb5⟩:∃b5,l[5]?=some b5:=⟨_,List.getElem?_eq_getElem (by omega)⟩
  refine AWP.regionO [0,1,2,3,4,5,6,7,8,9,10,11,12,13,14,15,16,17,18,19,20,21,22] [] (by kernel_rfl) (by kernel_rfl) rfl ?_;simp only[go_sem,hb2,hb3,hb4,hb5,Option.map_some,List.getElem?_map,inst32,or4])
 |(refine AWP.region ?_;simp only[go_sem])
 |(refine hK _ ?_;clear hK K)
 |refine AWP.cond rfl (fun c=>?_) (fun c=>?_)<;>first|exact Bool.noConfusion c|(try simp only[dD] at c)
 |refine AWP.skip ?_
 |(refine ACall.one (sumof_c [l.take 2,(l.take (6+Kp.headC l)).drop 6] (by show 2≤1000;omega) (next_len (by omega))) (by kernel_rfl) rfl ?_;simp only[go_sem])
 |(refine ACall.one (bclone_c ((l.take (6+Kp.headC l)).drop 6) (by rw[List.length_drop,List.length_take];omega)) (by kernel_rfl) rfl ?_;simp only[go_sem])
 |(refine AGuard.splitN (fun h=>?_) (fun h=>?_)<;>simp only[h,go_sem]<;>(try simp only[dD] at h))
 |((with_reducible refine And.intro ?_ ?_);(focus(first|omega|(simp;done)));(try simp only[hb,go_sem]))
 |(
  refine AWP.ret ?_
  refine AEnd.is ?_;simp only[go_sem,out_v,out_s,out_n,v_int,v_bool,v_str]<;>(first|(rw[nx_d hb0 hb1 hb2 hb3 hb4 hb5 (by omega) (by omega) (by omega) (by assumption)];exact⟨trivial,rfl,rfl⟩)|(rw[nx_e hb0 hb1 hb2 hb3 hb4 hb5 (by omega) (by omega) (by omega) (by assumption)];exact⟨rfl,head6,rfl⟩)|(rw[nx_a (by omega)];exact⟨trivial,rfl,rfl⟩)|(rw[nx_b (by omega) (by omega)];exact⟨trivial,rfl,rfl⟩)|(rw[nx_c (by omega) (by omega) (by omega)];exact⟨trivial,rfl,rfl⟩))))
theorem all_end{l:List UInt8}{i:Nat}{acc:List (List UInt8)}(h:Kp.allC l=(acc++(Kp.allC (l.drop i)).1,i+(Kp.allC (l.drop i)).2))(e:¬(Kp.nextC (l.drop i)).2.2=0∨(Kp.nextC (l.drop i)).2.1=0):Kp.allC l=(acc,i):=by
 have e:¬(Kp.nextC (l.drop i)).2.2=0:=by
  rcases e with e|e
  ·exact e
  ·intro h;have:=(Kp.next_ok h).2.1;omega
 rw[Kp.all_stop e] at h;rw[h];simp
theorem all_mu{l:List UInt8}{i:Nat}(h1:i≤l.length)(e:(Kp.nextC (l.drop i)).2.2=0):l.length-(i+(Kp.nextC (l.drop i)).2.1)<l.length-i:=by
 have h:=Kp.next_ok e
 have hl:=congrArg List.length h.2.2
 rw[List.length_append,Kp.rec_len,List.length_drop] at hl
 have:=h.1.1
 omega
theorem all_go{l:List UInt8}{i:Nat}{acc:List (List UInt8)}(h1:i≤l.length)(h2:acc.length≤i)(h:Kp.allC l=(acc++(Kp.allC (l.drop i)).1,i+(Kp.allC (l.drop i)).2))(e:(Kp.nextC (l.drop i)).2.2=0):
 i+(Kp.nextC (l.drop i)).2.1≤l.length∧(acc++[(Kp.nextC (l.drop i)).1]).length≤i+(Kp.nextC (l.drop i)).2.1∧
 Kp.allC l=(acc++[(Kp.nextC (l.drop i)).1]++(Kp.allC (l.drop (i+(Kp.nextC (l.drop i)).2.1))).1,i+(Kp.nextC (l.drop i)).2.1+(Kp.allC (l.drop (i+(Kp.nextC (l.drop i)).2.1))).2):=by
 have hn:=Kp.next_ok e
 have hl:=congrArg List.length hn.2.2
 rw[List.length_append,Kp.rec_len,List.length_drop] at hl
 have:=hn.1.1
 refine⟨by omega,by rw[List.length_append,List.length_singleton];omega,?_⟩
 rw[Kp.all_step e,List.drop_drop] at h
 rw[h,List.append_assoc,Nat.add_assoc];rfl
theorem crcall_c(l:List UInt8)(hl:l.length≤1000000):ACalls E 139 [bytesV l] (fun r t=>r= .tup [.sl (some 0) 1 ((Kp.allC l).1.map bytesV),i64 (Kp.allC l).2]∧t=[(Kp.allC l).1.length]):=by
 refine ACalls.of_awp (n:=32) (rs:=[.tmp 2,.tmp 3]) Tryz.func139 rfl Tryz.ntmps139 rfl ?_
 repeat'(first
 |refine AWP.seqk fun K hK=>?_
 |(
  refine AWP.here 6 25 5 rfl ?_
  obtain⟨q1,q2,q3⟩:=all_go h1 h2 h3 (by omega)
  have q4:=all_mu h1 (by omega)
  have hw:IntKind.i64.wrap ((i:Int)+((Kp.nextC (l.drop i)).2.1:Int))=((i+(Kp.nextC (l.drop i)).2.1:Nat):Int):=by rw[wrap64_id (by omega) (by omega)];simp
  refine AWP.region ?_;simp only[go_sem])
 |(
  refine AWP.here 7 29 4 rfl ?_
  refine AWP.region ?_;simp only[go_sem,hw])
 |(refine AWP.region ?_;simp only[go_sem])
 |(refine hK _ ?_;clear hK K)
 |refine AWP.block ?_
 |refine AWP.cond rfl (fun c=>?_) (fun c=>?_)<;>first|exact Bool.noConfusion c|(try simp only[dD] at c)
 |refine AWP.skip ?_
 |(refine ACall.one (crcnext_c (l.drop i) (by rw[List.length_drop];omega)) (by kernel_rfl) rfl ?_;simp only[go_sem])
 |(refine AGuard.split (fun h=>?_) (fun h=>?_)<;>simp only[h,go_sem]<;>(try simp only[dD] at h))
 |((with_reducible refine And.intro ?_ ?_);(focus(omega));(try simp only[hb,go_sem]))
 |(
  refine AWP.here 3 10 11 rfl ?_
  refine AWP.nilTok 4 1 rfl ?_
  simp only[go_sem]
  refine AWP.loopM (ι:=Nat×List (List UInt8)) [2,3,6,7,8,9,10,11,12,13,14,15,16,17,18,19,20,21,22,23,24,25,26,27,28,29,30,31] (fun⟨i,acc⟩=>[(5,i64 i),(4,.sl (some 0) 1 (acc.map bytesV))]) (fun⟨i,acc⟩=>[]) (fun⟨i,acc⟩=>[acc.length]) (fun⟨i,acc⟩=>i≤l.length∧acc.length≤i∧Kp.allC l=(acc++(Kp.allC (l.drop i)).1,i+(Kp.allC (l.drop i)).2)) (fun⟨i,acc⟩=>l.length-i) ((0,[])) ?_ ?_ ?_
  ·(try simp only[go_sem]);(repeat'(first|fail));done
  ·exact⟨by omega,by simp,by simp⟩
  rintro⟨i,acc⟩ ⟨h1,h2,h3⟩
  simp only[go_sem])
 |(
  refine⟨(i+(Kp.nextC (l.drop i)).2.1,acc++[(Kp.nextC (l.drop i)).1]),?_,?_,?_⟩
  ·(try simp only[go_sem]);(try rw[wrap64_id (by omega) (by omega)]);(repeat'((simp;done)));done
  ·(exact⟨q1,q2,q3⟩)
  ·(try simp only[]);omega)
 |(
  refine AWP.ret ?_
  simp only[go_sem];((rw[all_end h3 (by omega)];exact⟨[(true,0)],.tup [.sl (some 0) 1 _,.v _],rfl,⟨⟨rfl,rfl,rfl⟩,rfl,trivial⟩,rfl,rfl⟩))))
def strF(P:Program)(t:TypeId):Array Field:=match P.underlying t with|some (.struct f)=>f|_=>#[]
@[go_sem] theorem ud46:Tryz.prog.underlying 46=some (.struct (strF Tryz.prog 46)):=by kernel_rfl
abbrev dkV(d:Kp.Dk):AV:= .agg [bytesV d.f0.safe,bytesV d.f0.tail,bytesV d.f1.safe,bytesV d.f1.tail]
theorem w641:IntKind.i64.wrap 1=1:=by decide
theorem w642:IntKind.i64.wrap 2=2:=by decide
theorem dk_cl{d:Kp.Dk}{no nt:Nat}:∀e∈[dkV d],∀z∈e.leaves,z.bel no nt=true:=by
 intro e he z hz
 simp only[List.mem_singleton] at he
 subst he
 simp only[AV.leaves,List.mem_cons,List.not_mem_nil,or_false] at hz
 rcases hz with rfl|rfl|rfl|rfl<;>rfl
theorem dk_wk{d:Kp.Dk}{no nt:Nat}:some [dkV d]=none∨∀es,some [dkV d]=some es→∀e∈es,∀z∈e.leaves,z.bel no nt=true:= .inr fun es h=>by cases h;exact dk_cl
theorem dk_bel{d:Kp.Dk}{no nt:Nat}:some [dkV d]=none∨some [dkV d]=some [dkV d]∧∀es,some [dkV d]=some es→∀e∈es,∀z∈e.leaves,z.bel no nt=true:= .inr ⟨rfl,fun es h=>by cases h;exact dk_cl⟩
theorem zd_cl{no nt:Nat}:∀e∈[AV.agg [.nilS,.nilS,.nilS,.nilS]],∀z∈e.leaves,z.bel no nt=true:=by
 intro e he z hz
 simp only[List.mem_singleton] at he
 subst he
 simp only[AV.leaves,List.mem_cons,List.not_mem_nil,or_false] at hz
 rcases hz with rfl|rfl|rfl|rfl<;>rfl
theorem zd_wk{no nt:Nat}:some [AV.agg [.nilS,.nilS,.nilS,.nilS]]=none∨∀es,some [AV.agg [.nilS,.nilS,.nilS,.nilS]]=some es→∀e∈es,∀z∈e.leaves,z.bel no nt=true:= .inr fun es h=>by cases h;exact zd_cl
theorem has_1{n:Int}(h:0≤n):decide (n<2)=Kp.hasD n:=by
 unfold Kp.hasD
 rcases(by omega:n<2∨2≤n) with h2|h2
 ·rcases(by omega:n=0∨n=1) with rfl|rfl<;>rfl
 ·rw[decide_eq_false (by omega),decide_eq_false (by omega),decide_eq_false (by omega)];rfl
theorem has_0{n:Int}(h:¬0≤n):false=Kp.hasD n:=by
 unfold Kp.hasD
 rw[decide_eq_false (by omega),decide_eq_false (by omega)];rfl
def smD(d:Kp.Dk):Prop:=d.f0.safe.length≤200000∧d.f0.tail.length≤200000∧d.f1.safe.length≤200000∧d.f1.tail.length≤200000
theorem okF_yes{f:Kp.Fi}(h:f.safe.length+f.tail.length≤65536):Kp.okF f=true:=decide_eq_true h
theorem okF_no{f:Kp.Fi}(h:¬f.safe.length+f.tail.length≤65536):Kp.okF f=false:=decide_eq_false h
theorem right_yes{d:Kp.Dk}(h0:Kp.okF d.f0=true)(h1:Kp.okF d.f1=true):Kp.rightD d=true:=by unfold Kp.rightD;rw[h0,h1];rfl
theorem right_no{d:Kp.Dk}(h:¬d.f0.safe.length+d.f0.tail.length≤65536∨¬d.f1.safe.length+d.f1.tail.length≤65536):Kp.rightD d=false:=by
 unfold Kp.rightD
 rcases h with h|h
 ·rw[okF_no h];rfl
 ·rw[okF_no h,Bool.and_false]
theorem dright_c(d:Kp.Dk)(hd:smD d):ACalls E 97 [dkV d] (fun r t=>r=bl (Kp.rightD d)∧t=[]):=by
 obtain⟨s0,s1,s2,s3⟩:=hd
 have hw0:IntKind.i64.wrap ((d.f0.safe.length:Int)+(d.f0.tail.length:Int))=(d.f0.safe.length:Int)+(d.f0.tail.length:Int):=wrap64_id (by omega) (by omega)
 have hw1:IntKind.i64.wrap ((d.f1.safe.length:Int)+(d.f1.tail.length:Int))=(d.f1.safe.length:Int)+(d.f1.tail.length:Int):=wrap64_id (by omega) (by omega)
 refine ACalls.of_awp (n:=19) (rs:=[.tmp 2]) Tryz.func97 rfl Tryz.ntmps97 rfl ?_
 repeat'(first
 |refine AWP.seqk fun K hK=>?_
 |(
  refine AWP.here 3 9 3 rfl ?_
  obtain rfl|rfl:i=0∨i=1:=by omega
  refine AWP.region ?_;simp only[go_sem])
 |(
  refine AWP.here 4 10 8 rfl ?_
  refine AWP.region ?_;simp only[go_sem,hw0,hw1])
 |(refine AWP.region ?_;simp only[go_sem])
 |(refine hK _ ?_;clear hK K)
 |refine AWP.block ?_
 |refine AWP.cond rfl (fun c=>?_) (fun c=>?_)<;>(try simp only[dD] at c)
 |refine AWP.skip ?_
 |(refine AWP.exit ?_;simp only[go_sem])
 |((with_reducible refine And.intro ?_ ?_);(focus((simp;done)));(try simp only[hb,go_sem]))
 |(
  refine AWP.here 2 8 1 rfl ?_
  refine AWP.loopM (ι:=Nat) [2,4,8,9,10,11,12,13,14,15,16,17,18] (fun(i:Nat)=>[(7,i64 i),(6,dkV d)]) (fun(i:Nat)=>[some [dkV d]]) (fun(i:Nat)=>[]) (fun(i:Nat)=>i≤2∧(1≤i→Kp.okF d.f0=true)∧(2≤i→Kp.okF d.f1=true)) (fun(i:Nat)=>2-i) (0) ?_ ?_ ?_
  ·(try simp only[go_sem]);(try simp only[go_sem,w641,w642]);(repeat'(exact dk_wk))
  ·exact⟨by omega,fun h=>by omega,fun h=>by omega⟩
  rintro i ⟨h1,h2,h3⟩
  simp only[go_sem])
 |(
  refine⟨1,?_,?_,?_⟩
  ·(try simp only[go_sem]);(try rw[wrap64_id (by omega) (by omega)]);(try simp only[go_sem,w641,w642]);(repeat'(first|exact dk_wk|refine And.intro ?_ ?_))
  ·exact⟨by omega,fun _=>by(exact okF_yes (by omega)),fun h=>by(exfalso;omega)⟩
  ·(try simp only[]);omega)
 |(
  refine⟨2,?_,?_,?_⟩
  ·(try simp only[go_sem]);(try rw[wrap64_id (by omega) (by omega)]);(try simp only[go_sem,w641,w642]);(repeat'(exact dk_wk))
  ·exact⟨by omega,fun _=>by(exact h2 (by omega)),fun h=>by(exact okF_yes (by omega))⟩
  ·(try simp only[]);omega)
 |(
  refine AWP.ret ?_
  refine AEnd.is ?_;simp only[go_sem,out_v,out_s,out_n,v_int,v_bool,v_str]<;>(first|(rw[right_no (.inl (by omega))];done)|(rw[right_no (.inr (by omega))];done)|(rw[right_yes (h2 (by omega)) (h3 (by omega))];done)))
 |refine AWP.fin (by assumption) ?_)
theorem dhas_c(d:Kp.Dk)(n:Int):ACalls E 138 [dkV d,i64 n] (fun r t=>r=bl (Kp.hasD n)∧t=[]):=by
 refine ACalls.of_awp (n:=11) (rs:=[.tmp 4]) Tryz.func138 rfl Tryz.ntmps138 rfl ?_
 repeat'(first
 |refine AWP.seqk fun K hK=>?_
 |(refine AWP.region ?_;simp only[go_sem])
 |(refine hK _ ?_;clear hK K)
 |(refine AGuard.split (fun h=>?_) (fun h=>?_)<;>simp only[h,go_sem]<;>(try simp only[dD] at h))
 |(
  refine AWP.ret ?_
  refine AEnd.is ?_;simp only[go_sem,out_v,out_s,out_n,v_int,v_bool,v_str]<;>(first|exact has_1 (by assumption)|exact has_0 (by assumption))))
theorem down_c(d:Kp.Dk)(hd:smD d):ACalls E 102 [dkV d] (fun r t=>r=dkV d∧t=[]):=by
 obtain⟨s0,s1,s2,s3⟩:=hd
 refine ACalls.of_awp (n:=23) (rs:=[.cell 2 49]) Tryz.func102 rfl Tryz.ntmps102 rfl ?_
 repeat'(first
 |refine AWP.seqk fun K hK=>?_
 |(
  refine AWP.here 3 9 5 rfl ?_
  obtain rfl|rfl:i=0∨i=1:=by omega
  refine AWP.region ?_;simp only[go_sem])
 |(refine AWP.region ?_;simp only[go_sem])
 |(refine AWP.here 4 11 11 rfl ?_;refine AWP.regionO [0,1,2,4,5,8,3,6,7,9,10] [] (by kernel_rfl) (by kernel_rfl) rfl ?_;simp only[go_sem])
 |(refine hK _ ?_;clear hK K)
 |refine AWP.block ?_
 |refine AWP.cond rfl (fun c=>?_) (fun c=>?_)<;>(try simp only[dD] at c)
 |refine AWP.skip ?_
 |(refine AWP.exit ?_;simp only[go_sem])
 |(refine ACall.one (bclone_c _ (by omega)) (by kernel_rfl) rfl ?_;simp only[go_sem])
 |(
  refine AWP.here 2 8 1 rfl ?_
  refine AWP.loopM (ι:=Nat) [3,4,8,9,10,11,12,13,14,15,16,17,18,19,20,21] (fun(i:Nat)=>[(7,i64 i),(6,dkV d)]) (fun(i:Nat)=>[some [dkV d],some [.agg [.nilS,.nilS,.nilS,.nilS]]]) (fun(i:Nat)=>[]) (fun(i:Nat)=>i≤2) (fun(i:Nat)=>2-i) (0) ?_ ?_ ?_
  ·(try simp only[go_sem]);(try simp only[go_sem,w641,w642]);(repeat'(first|exact dk_wk|exact zd_wk|refine And.intro ?_ ?_))
  ·omega
  rintro i h1
  simp only[go_sem])
 |(
  refine⟨1,?_,?_,?_⟩
  ·(try simp only[go_sem]);(try rw[wrap64_id (by omega) (by omega)]);(try simp only[go_sem,w641,w642]);(repeat'(first|exact dk_wk|exact zd_wk|refine And.intro ?_ ?_))
  ·omega
  ·(try simp only[]);omega)
 |(
  refine⟨2,?_,?_,?_⟩
  ·(try simp only[go_sem]);(try rw[wrap64_id (by omega) (by omega)]);(try simp only[go_sem,w641,w642]);(repeat'(first|exact dk_wk|exact zd_wk|refine And.intro ?_ ?_))
  ·omega
  ·(try simp only[]);omega)
 |(
  refine AWP.ret ?_
  refine AEnd.is ?_;simp only[go_sem,out_v,out_s,out_n,v_int,v_bool,v_str]<;>(first|fail))
 |refine AWP.fin (by assumption) ?_)
end Go.Proofs.YthoonfpkfdjhiaaGreatDoor
end
section
namespace Go.Abs
open Go Go.RowKit
theorem Cells.ocells{c:Ctx}{k:Nat}{es:List AV}{cs:List Value}(h:Cells c.im k es cs):OCells c k es cs:=
 ⟨h.1,fun i e j x he hx=>by obtain⟨u,h1,h2,h3⟩:=h.2 i e j x he hx;exact⟨u,h1,.base h2,.inr h3⟩⟩
section
variable{P:Program}{w0:World}{im0:Base}{c:Ctx}{st:St}{a:Act}{w:World}
theorem copy_ok(r:Rel w0 im0 c st a w){t tx ty e:TypeId}{k n':Nat}(hai:appInfo P t=some (e,k,n')){id off len cap:Nat}{es xs:List AV}{v xv:Value}{x:AV}
 (hv:VR c (.mu id k off len cap) v) (hxv:VR c x xv) (hsrc:ASrc x k=some xs) (ho:st.own[id]?=some (some es)) (hfit:off+len≤es.length) (hxl:xs.length≤len) (hpos:0<len):
 ∃w',(Builtin.copy_ #[t,tx] ty #[v,xv]).run P w= .ok (goInt xs.length) w'∧Rel w0 im0 c { st with own:=st.own.set id (some (es.take off++(xs++es.drop (off+xs.length)))) } a w':=by
 obtain⟨hu,hs,hk0,ii,zv,hi,hz,hsize,hbytes,hzs⟩:=appInfo_ok hai
 rcases hv.inv_mu with⟨g,hb,hcap,hve⟩|⟨hl0,_,_⟩
 rotate_left
 ·omega
 have hown:=r.own id g k _ hb ho
 obtain⟨cs,ty',lo,hi',hblk,hfr,hsz,hlv,hcell⟩:=hown.blk
 obtain⟨news,hnl,hcells,hlen,hone,hfirst⟩:=src_ok (P:=P) r hxv hk0 hsrc
 have hoc:OCells c k es cs.toList:=⟨hlv,fun i e j x he hx=>by obtain⟨u,h1,h2⟩:=hcell i e j x he hx;exact⟨u,by simpa using h1,h2⟩⟩
 have hq:cs.toList.length=cs.size:=Array.length_toList
 have hmul:(off+xs.length)*k≤es.length*k:=Nat.mul_le_mul_right _ (by omega)
 rw[Nat.add_mul] at hmul
 have hfro:∀o,o<cs.toList.length→¬(lo≤o∧o<hi'):=fun o h1 h2=>by
  have h1:o<cs.size:=by simpa using h1
  rcases hfr with h|h<;>omega
 have hcs:cs=cs.toList.toArray:=by simp
 have hfit2:off*k+0+news.length≤cs.toList.length:=by rw[hnl,hq];omega
 have hst:=run_storePut (P:=P) g (off*k) ty' lo hi' news 0 cs.toList w (by rw[←hcs];exact hblk) hfro hfit2 hone
 rw[Nat.add_zero] at hst
 have hrun:(Builtin.copy_ #[t,tx] ty #[v,xv]).run P w= .ok (goInt xs.length) (w.setRow g (putV cs.toList (off*k) news).toArray):=by
  have hmin:Nat.min xs.length len=xs.length:=Nat.min_eq_left hxl
  have hso:=tsz_run hs w
  subst hve
  simp only[Builtin.copy_,List.getElem?_toArray,List.getElem?_cons_zero,List.getElem?_cons_succ,Sem.run_bind,underlying_run hu,Result.andThen_ok,hlen w,hso,hmin,hfirst w (fun _ _=>rfl),hst,Sem.run_pure]
 have hcs'len:(putV cs.toList (off*k) news).length=cs.size:=by rw[putV_length];simp
 have hOC:OCells c k (es.take off++(xs++es.drop (off+xs.length))) (putV cs.toList (off*k) news):=by
  have e1:putV cs.toList (off*k) news=cs.toList.take (off*k)++(news++cs.toList.drop ((off+xs.length)*k)):=by
   apply List.ext_getElem?
   intro p
   have htl:(cs.toList.take (off*k)).length=off*k:=by rw[List.length_take,hq];omega
   rw[putV_get _ _ _ _ (by simpa using hfit2)]
   by_cases hp:p<off*k
   ·rw[if_neg (by omega),List.getElem?_append_left (by rw[htl];exact hp),List.getElem?_take,if_pos hp]
   ·rw[List.getElem?_append_right (by rw[htl];omega),htl]
    by_cases hp2:p<off*k+news.length
    ·rw[if_pos ⟨by omega,hp2⟩,List.getElem?_append_left (by omega)]
    ·rw[if_neg (by omega),List.getElem?_append_right (by omega),List.getElem?_drop,hnl,Nat.add_mul]
     congr 1;rw[hnl] at hp2;omega
  rw[e1]
  refine(hoc.takeN off (by omega)).append (by rw[List.length_take,List.length_take,hq,Nat.min_eq_left (show off≤es.length by omega)];omega) ?_
  exact hcells.ocells.append hnl (hoc.drop (off+xs.length))
 have hnewlen:(es.take off++(xs++es.drop (off+xs.length))).length=es.length:=by simp only[List.length_append,List.length_take,List.length_drop];omega
 have hset:=r.setOwn (w':=w.setRow g (putV cs.toList (off*k) news).toArray) (es':=es.take off++(xs++es.drop (off+xs.length))) hb ho (fun b hne=>setRow_other w g b _ hne) (below_setRow r.below hown.new _)
  ⟨(putV cs.toList (off*k) news).toArray,ty',lo,hi',setRow_heap w g cs _ ty' (lo,hi') hblk,by
    rcases hfr with h|h
    ·exact .inl h
    ·exact .inr (by simpa[putV_length] using h),by
    rw[hnewlen];simp only[List.size_toArray,hcs'len];exact hsz,hOC.1,fun i e j x he hx=>by
    obtain⟨u,h1,h2⟩:=hOC.2 i e j x he hx
    exact⟨u,by simpa using h1,h2⟩⟩
 exact⟨_,hrun,hset⟩
end
theorem AWPL.copyMu{E:Env}{Q:Exit→St→Prop}{st:St}{ops:Array Oper}{l:List Oper}{dst:Option Tmp}{t tx ty:TypeId}{x y:Operand}{pos:String}{after:Array Edge}{e:TypeId}{k n id off len cap:Nat}{es xs:List AV}
 (hai:appInfo E.P t=some (e,k,n)) (hx:st.ev x= .mu id k off len cap) (hsrc:ASrc (st.ev y) k=some xs) (ho:st.own[id]?=some (some es)) (hfit:off+len≤es.length) (hxl:xs.length≤len) (hpos:0<len)
 (h:AWPL E ops l Q (St.put { st with own:=st.own.set id (some (es.take off++(xs++es.drop (off+xs.length)))) } dst (.v (goInt xs.length)))):AWPL E ops (⟨dst,.call ⟨.builtin .copy,#[x,y],#[t,tx]⟩,ty,pos,after,none⟩::l) Q st:=by
 intro w0 im0 cx a w h0 hG r
 refine wpList_step (fun K' hK'=>?_)
 have hw:Region.wanted ⟨dst,.call ⟨.builtin .copy,#[x,y],#[t,tx]⟩,ty,pos,after,none⟩ (yielded ops a.tmps)=true:=rfl
 rw[if_pos hw]
 have hv:=r.ev x
 rw[hx] at hv
 obtain⟨w',hrun,r2⟩:=copy_ok (P:=E.P) (tx:=tx) (ty:=ty) r hai hv (r.ev y) hsrc ho hfit hxl hpos
 refine wp_value (w':=w') (v:=goInt xs.length) ?_ (hK' _ _ (h w0 im0 _ _ _ h0 hG (r2.put dst (.base (.v _)))))
 simp[execOp,resolve,invoke,Sem.run_bind,builtin,hrun]
theorem AWPL.copyNone{E:Env}{Q:Exit→St→Prop}{st:St}{ops:Array Oper}{l:List Oper}{dst:Option Tmp}{t tx ty:TypeId}{x y:Operand}{pos:String}{after:Array Edge}{e:TypeId}{k n id off:Nat}
 (hai:appInfo E.P t=some (e,k,n)) (hx:st.ev x= .mu id k off 0 0) (hsrc:ASrc (st.ev y) k=some [])
 (h:AWPL E ops l Q (St.put st dst (.v (goInt 0)))):AWPL E ops (⟨dst,.call ⟨.builtin .copy,#[x,y],#[t,tx]⟩,ty,pos,after,none⟩::l) Q st:=by
 intro w0 im0 cx a w h0 hG r
 refine wpList_step (fun K' hK'=>?_)
 have hw:Region.wanted ⟨dst,.call ⟨.builtin .copy,#[x,y],#[t,tx]⟩,ty,pos,after,none⟩ (yielded ops a.tmps)=true:=rfl
 rw[if_pos hw]
 obtain⟨hu,hs,hk0,ii,zv,hi,hz,hsize,hbytes,hzs⟩:=appInfo_ok hai
 have hv:=r.ev x
 rw[hx] at hv
 obtain⟨news,hnl,hcells,hlen,hone,hfirst⟩:=src_ok (P:=E.P) r (r.ev y) hk0 hsrc
 have hn0:news=[]:=List.eq_nil_of_length_eq_zero (by rw[hnl];simp)
 subst hn0
 have hso:=tsz_run hs w
 have hrun:(Builtin.copy_ #[t,tx] ty #[a.eval x,a.eval y]).run E.P w= .ok (goInt 0) w:=by
  rcases hv.inv_mu with⟨g,hb,hcap,hve⟩|⟨_,_,hve⟩
  ·rw[hve]
   have hf:=hfirst w (fun _ _=>rfl)
   have hl:=hlen w
   simp only[List.length_nil] at hf hl
   simp only[Builtin.copy_,List.getElem?_toArray,List.getElem?_cons_zero,List.getElem?_cons_succ,Sem.run_bind,underlying_run hu,Result.andThen_ok,hl,hso,Nat.min_self,show Nat.min 0 0=0 from rfl,hf,Sem.run_pure]
   simp[storeCells]
  ·rw[hve]
   have hf:=hfirst w (fun _ _=>rfl)
   have hl:=hlen w
   simp only[List.length_nil] at hf hl
   simp only[Builtin.copy_,List.getElem?_toArray,List.getElem?_cons_zero,List.getElem?_cons_succ,Sem.run_bind,underlying_run hu,Result.andThen_ok,hl,hso,show Nat.min 0 0=0 from rfl,hf,Sem.run_pure]
   simp
 refine wp_value (w':=w) (v:=goInt 0) ?_ (hK' _ _ (h w0 im0 _ _ _ h0 hG (r.put dst (.base (.v _)))))
 simp[execOp,resolve,invoke,Sem.run_bind,builtin,hrun]
theorem AWPL.makeMu{E:Env}{Q:Exit→St→Prop}{st:St}{ops:Array Oper}{l:List Oper}{dst:Option Tmp}{t ty:TypeId}{pos:String}{after:Array Edge}{x y:Operand}{kl kc:IntKind}{e:TypeId}{k n m:Nat}{zs:List AV}{z:AV}
 (hai:appInfo E.P t=some (e,k,n)) (hzv:tzero E.P e=some zs) (hx:st.ev x= .v (.int kl (m:Int))) (hy:st.ev y= .v (.int kc (m:Int))) (hz':z.leaves=zs) (hm:m≤100000) (hk:k≤100) (hn:n≤100000)
 (h:AWPL E ops l Q (St.put { st with own:=st.own++[some (List.replicate m z)] } dst (.mu st.own.length k 0 m m))):AWPL E ops (⟨dst,.makeSlice t x y,ty,pos,after,none⟩::l) Q st:=by
 intro w0 im0 cx a w h0 hG r
 refine wpList_step (fun K' hK'=>?_)
 have hw:Region.wanted ⟨dst,.makeSlice t x y,ty,pos,after,none⟩ (yielded ops a.tmps)=true:=rfl
 rw[if_pos hw]
 obtain⟨hu,hs,hk0,i,zv,hi,hz,hsize,hbytes,hzs⟩:=appInfo_ok hai
 have hzl:zs=zv.cells.toList.map leafOf∧zs.all AV.leafy=true:=by
  unfold tzero at hzv
  simp only[hi,hz,Option.bind_some] at hzv
  split at hzv
  ·rename_i hall
   simp only[Option.some.injEq] at hzv
   exact⟨hzv.symm,by rw[←hzv];exact hall⟩
  ·simp at hzv
 have ex:a.eval x= .int kl (m:Int):=by have:=r.ev x;rw[hx] at this;exact this.inv_v
 have ey:a.eval y= .int kc (m:Int):=by have:=r.ev y;rw[hy] at this;exact this.inv_v
 have hsz:m*i.size≤16777216:=by rw[hsize];exact Nat.le_trans (Nat.mul_le_mul hm hk) (by decide)
 have hby:(i.bytes:Int)*(m:Int)≤281474976710656:=by
  rw[hbytes]
  have:n*m≤100000*100000:=Nat.mul_le_mul hn hm
  have h2:((n*m:Nat):Int)≤281474976710656:=by omega
  rwa[Int.natCast_mul] at h2
 have hrun:=run_makeSlice (P:=E.P) (w:=w) t e i zv hu hi hz kl kc (m:Int) (m:Int) (by omega) (Int.le_refl _) (by simpa using hsz) hby (by omega)
 simp only[Int.toNat_natCast] at hrun
 have hlen:zs.length=k:=by rw[hzl.1];simp[hzs]
 have hcells:OCells cx k (List.replicate m z) (madeCells zv.cells (m*i.size)).toList:=by
  refine⟨fun j e hj=>?_,fun j e q u hj hq=>?_⟩
  ·rw[List.getElem?_replicate] at hj
   split at hj
   ·simp only[Option.some.injEq] at hj;subst hj;rw[hz'];exact hlen
   ·simp at hj
  ·rw[List.getElem?_replicate] at hj
   split at hj
   ·rename_i hjm
    simp only[Option.some.injEq] at hj;subst hj
    rw[hz'] at hq
    have hqk:q<k:=by rw[←hlen];exact lt_of_get hq
    have hqz:q<zv.cells.size:=by omega
    have hu1:u=leafOf zv.cells[q]:=by
     rw[hzl.1,List.getElem?_map] at hq
     simp[hqz] at hq
     exact hq.symm
    have hlt:j*k+q<m*i.size:=by rw[hsize];exact idx_lt hjm hqk
    have hmod:(j*k+q)%zv.cells.size=q:=by rw[hzs,Nat.mul_comm,Nat.mul_add_mod,Nat.mod_eq_of_lt hqk]
    refine⟨zv.cells[q],?_,?_⟩
    ·simp only[madeCells,Array.toList_map,List.getElem?_map,Array.toList_range,List.getElem?_range hlt,Option.map_some,hmod]
     simp[hqz]
    ·have hv:VR0 cx.im u zv.cells[q]:=by rw[hu1];exact leafOf_ok _ _
     have hlf:u.leafy=true:=List.all_eq_true.1 hzl.2 u (List.mem_of_getElem? hq)
     exact⟨.base hv,.inr (VR.leafy (c:=cx) (.base hv) hlf)⟩
   ·simp at hj
 obtain⟨hle,r2⟩:=r.addOwn (below_alloc w (.cells (madeCells zv.cells (m*i.size)) e)) (g:=w.heap.size) (k:=k) (es:=List.replicate m z) (Nat.le_refl _)
  ⟨madeCells zv.cells (m*i.size),e,0,0,heap_new w _,.inl rfl,by rw[size_madeCells,hsize,List.length_replicate];exact Nat.le_refl _,hcells.1,fun j e' q u hj hq=>by
    obtain⟨v,h1,h2⟩:=hcells.2 j e' q u hj hq
    exact⟨v,by simpa using h1,h2⟩⟩
 have hv:VR { cx with β:=cx.β++[some (w.heap.size,k)] } (.mu st.own.length k 0 m m) (.slice (some ⟨w.heap.size,0,none⟩) m m):=by
  have hb:(cx.β++[some (w.heap.size,k)])[st.own.length]?=some (some (w.heap.size,k)):=by
   rw[←r.ownlen,List.getElem?_append_right (Nat.le_refl _)];simp
  have:=VR.mu (c:={ cx with β:=cx.β++[some (w.heap.size,k)] }) (id:=st.own.length) (off:=0) (len:=m) (cap:=m) hb (Nat.le_refl _)
  rwa[Nat.zero_mul] at this
 refine wp_value (w':=w.alloc (.cells (madeCells zv.cells (m*i.size)) e)) (v:= .slice (some ⟨w.heap.size,0,none⟩) m m) ?_ (hK' _ _ (h w0 im0 _ _ _ h0 hG (r2.put dst hv)))
 simp only[execOp,ex,ey,Sem.run_bind,hrun,Result.andThen_ok,Sem.run_pure]
section
variable{P:Program}{w0:World}{im0:Base}{c:Ctx}{st:St}{a:Act}{w:World}
end
section
variable{E:Env}{Q:Exit→St→Prop}{st:St}{ops:Array Oper}{l:List Oper}
end
end Go.Abs
end
section
namespace Go.Proofs.YthoonfpkfdjhiaaGreatDoor
open Go Go.Abs Go.RowKit Go.Shelf
def growRen:Go.Shelf.Ren:=⟨fun|4=>140|n=>n,fun|0=>0|3=>3|4=>4|9=>9|20=>20|22=>30|25=>5|n=>n,fun|n=>n⟩
theorem growLays:Go.Proofs.Lays8.n4 Tryz.prog growRen:={
 mixed:=by kernel_rfl
 f4:=⟨Tryz.f140.name,by kernel_rfl,Tryz.func140.trans (congrArg some (by kernel_rfl))⟩
 t0:=Tryz.underlying0
 a0:=Tryz.isAgg0
 z0:=Tryz.sizeOf0
 v0:=Tryz.zeroValue0
 t3:=Tryz.underlying3
 a3:=Tryz.isAgg3
 z3:=Tryz.sizeOf3
 v3:=Tryz.zeroValue3
 t4:=Tryz.underlying4
 a4:=Tryz.isAgg4
 z4:=Tryz.sizeOf4
 v4:=Tryz.zeroValue4
 t9:=Tryz.underlying9
 a9:=Tryz.isAgg9
 z9:=Tryz.sizeOf9
 v9:=Tryz.zeroValue9
 t20:=Tryz.underlying20
 a20:=Tryz.isAgg20
 z20:=Tryz.sizeOf20
 v20:=Tryz.zeroValue20
 t22:=Tryz.underlying30
 a22:=Tryz.isAgg30
 z22:=Tryz.sizeOf30
 v22:=Tryz.zeroValue30 }
theorem grow_c(n:Nat)(hn:n≤1000000):ACalls E 140 [.nilS,i64 n] (fun r t=>r= .sl (some 0) 1 []∧t=[0]):=by
 intro w im vs hok hg him hpw
 obtain⟨hl,hp⟩:=hpw
 match vs,hl with
 |[v0,v1],_=>
  have h0:=hp 0 _ v0 rfl rfl
  have h1:=hp 1 _ v1 rfl rfl
  cases h0;cases h1
  by_cases h:n=0
  ·subst h
   refine(Any8.slices_Grow_room growLays none 0 0 0 w (Nat.le_refl _) (by omega) (by omega) (by omega)).mono ?_
   rintro e w' ⟨rfl,rfl⟩
   refine⟨_,.sl (some 0) 1 [],[⟨none,0,0,1⟩],im,rfl,Below.refl _ _,.refl _,fun _ _ _=>rfl,him,⟨fun i T b h1 h2=>?_,fun i j T U b d h1 h2 h3 h4 hij=>?_⟩,.tok rfl (.sl0 1 none 0) rfl (Nat.le_refl _) (fun _=> .inl ⟨rfl,rfl⟩),rfl,rfl⟩
   ·cases i with
    |zero=>simp only[List.getElem?_cons_zero,Option.some.injEq] at h1;subst h1;simp at h2
    |succ i=>simp at h1
   ·cases i with
    |zero=>simp only[List.getElem?_cons_zero,Option.some.injEq] at h1;subst h1;simp at h3
    |succ i=>simp at h1
  ·obtain⟨i0,z,hi0,hz0,hs0,hb0,hzc⟩:∃i0 z,Tryz.prog.info? 5=some i0∧i0.zero=some z∧i0.size=1∧i0.bytes=1∧z.cells.size=1:=by
    obtain⟨_,_,_,i,zv,h1,h2,h3,h4,h5⟩:=appInfo_ok (P:=Tryz.prog) (t:=30) (e:=5) (k:=1) (n:=1) ap30
    exact⟨i,zv,h1,h2,h3,h4,h5⟩
   refine(Any8.slices_Grow_grow growLays i0 z hi0 hz0 (by omega) none 0 0 n [] w (Nat.le_refl _) (by omega) (by rw[hb0];omega) (by omega) (by simp) (fun _=>rfl) (fun a ha=>by simp at ha)).mono ?_
   rintro e w' ⟨rfl,rfl⟩
   have hG:=grownCap_ge w (0+n) 0 (growRen.t 25)
   have hnone:∀o,im w.heap.size o=none:=fun o=>by
    cases hx:im w.heap.size o with
    |none=>rfl
    |some x=>exact absurd (World.block_lt_of_cell? w ⟨w.heap.size,o,none⟩ (him _ _ _ hx)) (Nat.lt_irrefl _)
   have hblk:∀ob,(w.drew.alloc ob).heap[w.heap.size]?=some ob:=fun ob=>heap_new w.drew ob
   refine⟨_,.sl (some 0) 1 [],[⟨some w.heap.size,0,grownCap w (0+n) 0 (growRen.t 25),1⟩],im,rfl,below_drew_alloc (D:=E.dr) w _,.refl _,fun _ _ _=>rfl,fun b o x hx=>?_,⟨fun i T b h1 h2=>?_,fun i j T U b d h1 h2 h3 h4 hij=>?_⟩,
    .tok rfl (.sl0 1 _ _) rfl (Nat.le_refl _) (fun _=> .inr ⟨_,rfl,rfl⟩),rfl,rfl⟩
   ·have hlt:=World.block_lt_of_cell? w ⟨b,o,none⟩ (him b o x hx)
    rw[cell_of_block ((below_drew_alloc (D:=E.dr) w _).block b hlt)];exact him b o x hx
   ·cases i with
    |succ i=>simp at h1
    |zero=>
     simp only[List.getElem?_cons_zero,Option.some.injEq] at h1;subst h1
     simp only[Option.some.injEq] at h2;subst h2
     refine⟨Nat.le_refl _,Nat.zero_le _,fun o _=>hnone o,_,5,0,0,hblk _,.inl rfl,?_⟩
     show grownCap w (0+n) 0 (growRen.t 25)*1≤_
     rw[Array.size_append,Array.size_append,zeroCells_size,zeroCells_size,hzc]
     simp only[List.size_toArray,List.length_nil]
     omega
   ·cases i with
    |zero=>cases j with
     |zero=>exact absurd rfl hij
     |succ j=>simp at h2
    |succ i=>simp at h1
theorem flat_next{ls:List (List UInt8)}{i:Nat}{b:List UInt8}(h:ls[i]?=some b):(ls.take (i+1)).flatten=(ls.take i).flatten++b:=by rw[Go.Fld.take_next h,List.flatten_append];simp
theorem flat_le{ls:List (List UInt8)}(i:Nat):(ls.take i).flatten.length≤ls.flatten.length:=by
 conv=>rhs;rw[←List.take_append_drop i ls,List.flatten_append,List.length_append]
 omega
theorem flat_all{ls:List (List UInt8)}{i:Nat}(h:¬(i:Int)<(ls.length:Int)):(ls.take i).flatten=ls.flatten:=by rw[List.take_of_length_le (by omega)]
theorem concat_c(ls:List (List UInt8))(hl:ls.flatten.length≤1000000)(hn:ls.length≤1000000):ACalls E 103 [.sl none 1 (ls.map bytesV)] (fun r t=>r=bytesV ls.flatten∧t=[]):=by
 refine ACalls.of_awp (n:=36) (rs:=[.tmp 2]) Tryz.func103 rfl Tryz.ntmps103 rfl ?_
 repeat'(first
 |refine AWP.seqk fun K hK=>?_
 |(
  refine AWP.here 4 13 3 rfl ?_
  obtain⟨b,hb⟩:∃b,ls[i]?=some b:=⟨_,List.getElem?_eq_getElem (by omega)⟩
  have hfn:=flat_next hb
  have hlb:=flat_le (ls:=ls) (i+1)
  rw[hfn,List.length_append] at hlb
  have hw:IntKind.i64.wrap (((ls.take i).flatten.length:Int)+(b.length:Int))=(((ls.take i).flatten.length+b.length:Nat):Int):=by rw[wrap64_id (by omega) (by omega)];simp
  refine AWP.region ?_;simp only[go_sem,hb,Option.map_some,List.getElem?_map])
 |(
  refine AWP.here 5 15 5 rfl ?_
  refine AWP.region ?_;simp only[go_sem,hw])
 |(
  refine AWP.here 12 29 3 rfl ?_
  obtain⟨b,hb⟩:∃b,ls[k]?=some b:=⟨_,List.getElem?_eq_getElem (by omega)⟩
  have hfn:=flat_next hb
  have hlb:=flat_le (ls:=ls) (k+1)
  rw[hfn,List.length_append] at hlb
  refine AWP.region ?_;simp only[go_sem,hb,Option.map_some,List.getElem?_map])
 |(refine AWP.region ?_;simp only[go_sem])
 |(refine hK _ ?_;clear hK K)
 |refine AWP.block ?_
 |refine AWP.cond rfl (fun c=>?_) (fun c=>?_)<;>first|exact Bool.noConfusion c|(try simp only[dD] at c)
 |refine AWP.skip ?_
 |(refine AWP.exit ?_;simp only[go_sem])
 |(refine ACall.of (grow_c (ls.take i).flatten.length (by omega)) (by kernel_rfl) rfl ?_;rintro r t ⟨rfl,rfl⟩;simp only[go_sem])
 |((with_reducible refine And.intro ?_ ?_);(focus(first|omega|(simp;done)));(try simp only[hb,go_sem]))
 |(
  refine AWP.here 3 12 1 rfl ?_
  refine AWP.loopN (ι:=Nat) [5,12,13,14,15,16,17,18,19,20,21,22] (fun(i:Nat)=>[(3,i64 ((ls.take i).flatten.length:Nat)),(11,i64 i)]) (fun(i:Nat)=>i≤ls.length∧(ls.take i).flatten.length≤ls.flatten.length) (fun(i:Nat)=>ls.length-i) (0) ?_ ?_ ?_
  ·(try simp only[go_sem]);(repeat'(exact .inr rfl));done
  ·exact⟨by omega,flat_le 0⟩
  rintro i ⟨h1,h2⟩
  simp only[go_sem])
 |(
  refine AWP.here 11 28 1 rfl ?_
  refine AWP.loopM (ι:=Nat) [8,28,29,30,31,32,33,34] (fun(k:Nat)=>[(6,.sl (some 0) 1 ((ls.take k).flatten.map u8)),(27,i64 k)]) (fun(k:Nat)=>[]) (fun(k:Nat)=>[(ls.take k).flatten.length]) (fun(k:Nat)=>k≤ls.length) (fun(k:Nat)=>ls.length-k) (0) ?_ ?_ ?_
  ·(try simp only[go_sem]);(repeat'(first|refine And.intro ?_ ?_|exact .inr rfl|trivial));done
  ·omega
  rintro k g1
  simp only[go_sem])
 |(
  refine⟨i+1,?_,?_,?_⟩
  ·(try simp only[go_sem]);(try rw[wrap64_id (by omega) (by omega)]);(try simp only[flat_next hb,List.length_append]);(try simp only[go_sem]);(try rw[wrap64_id (by omega) (by omega)]);simp
  ·exact⟨by omega,flat_le (i+1)⟩
  ·(try simp only[]);omega)
 |(
  refine⟨k+1,?_,?_,?_⟩
  ·(try simp only[go_sem]);(try rw[wrap64_id (by omega) (by omega)]);(try simp only[hfn,List.length_append]);(try simp only[go_sem]);(try rw[wrap64_id (by omega) (by omega)]);simp
  ·omega
  ·(try simp only[]);omega)
 |(
  refine AWP.ret ?_
  refine AEnd.is ?_;simp only[go_sem,out_v,out_s,out_n,v_int,v_bool,v_str]<;>((rw[flat_all (ls:=ls) (i:=k) (by omega)];done)))
 |refine AWP.fin (by assumption) ?_)
end Go.Proofs.YthoonfpkfdjhiaaGreatDoor
end
section
namespace Go.Proofs.YthoonfpkfdjhiaaGreatDoor
open Go Go.Abs Go.RowKit
theorem has_or{n:Int}(h:Kp.hasD n=true):n=0∨n=1:=by
 unfold Kp.hasD at h
 simpa using h
theorem may_no{d:Kp.Dk}{n:Int}(h:Kp.rightD d=false∨Kp.hasD n=false):¬Kp.mayD d n=true:=by
 unfold Kp.mayD
 rcases h with h|h<;>rw[h]<;>simp
theorem may_yes{d:Kp.Dk}{n:Int}(h:Kp.rightD d=true)(h2:Kp.hasD n=true):Kp.mayD d n=true:=by unfold Kp.mayD;rw[h,h2];rfl
theorem read_no{d:Kp.Dk}{n:Int}(h:Kp.rightD d=false∨Kp.hasD n=false):Kp.readD d n=[]:=by unfold Kp.readD;rw[if_neg (may_no h)]
theorem read_0{d:Kp.Dk}(h:Kp.rightD d=true):Kp.readD d 0=[d.f0.safe,d.f0.tail].flatten:=by unfold Kp.readD;rw[if_pos (may_yes h rfl)];simp[Kp.allF,Kp.fileD]
theorem read_1{d:Kp.Dk}(h:Kp.rightD d=true):Kp.readD d 1=[d.f1.safe,d.f1.tail].flatten:=by unfold Kp.readD;rw[if_pos (may_yes h rfl)];simp[Kp.allF,Kp.fileD]
theorem okF_len{f:Kp.Fi}(h:Kp.okF f=true):f.safe.length+f.tail.length≤65536:=of_decide_eq_true h
theorem right_len{d:Kp.Dk}(h:Kp.rightD d=true):d.f0.safe.length+d.f0.tail.length≤65536∧d.f1.safe.length+d.f1.tail.length≤65536:=by
 unfold Kp.rightD at h
 rw[Bool.and_eq_true] at h
 exact⟨okF_len h.1,okF_len h.2⟩
theorem write_no{d:Kp.Dk}{n:Int}{b:List UInt8}(h:Kp.rightD d=false∨Kp.hasD n=false):Kp.writeD d n b=(d,1):=by unfold Kp.writeD;rw[if_neg (may_no h)]
theorem write_f0{d:Kp.Dk}{b:List UInt8}(h:Kp.rightD d=true)(hl:65536<d.f0.safe.length+d.f0.tail.length+b.length):Kp.writeD d 0 b=(d,5):=by
 unfold Kp.writeD;rw[if_pos (may_yes h rfl),if_neg]
 simp only[Kp.allF,Kp.fileD,if_pos,List.length_append];omega
theorem write_f1{d:Kp.Dk}{b:List UInt8}(h:Kp.rightD d=true)(hl:65536<d.f1.safe.length+d.f1.tail.length+b.length):Kp.writeD d 1 b=(d,5):=by
 unfold Kp.writeD;rw[if_pos (may_yes h rfl),if_neg]
 show ¬(Kp.allF d.f1).length+b.length≤65536
 simp only[Kp.allF,List.length_append];omega
theorem write_0{d:Kp.Dk}{b:List UInt8}(h:Kp.rightD d=true)(hl:d.f0.safe.length+d.f0.tail.length+b.length≤65536):Kp.writeD d 0 b=(⟨⟨d.f0.safe,[d.f0.tail,b].flatten⟩,d.f1⟩,0):=by
 unfold Kp.writeD;rw[if_pos (may_yes h rfl),if_pos]
 ·simp[Kp.setD,Kp.fileD]
 ·simp only[Kp.allF,Kp.fileD,if_pos,List.length_append];omega
theorem write_1{d:Kp.Dk}{b:List UInt8}(h:Kp.rightD d=true)(hl:d.f1.safe.length+d.f1.tail.length+b.length≤65536):Kp.writeD d 1 b=(⟨d.f0,⟨d.f1.safe,[d.f1.tail,b].flatten⟩⟩,0):=by
 unfold Kp.writeD;rw[if_pos (may_yes h rfl),if_pos]
 ·simp[Kp.setD,Kp.fileD]
 ·show(Kp.allF d.f1).length+b.length≤65536
  simp only[Kp.allF,List.length_append];omega
theorem sync_no{d:Kp.Dk}{n:Int}(h:Kp.rightD d=false∨Kp.hasD n=false):Kp.syncD d n=(d,1):=by unfold Kp.syncD;rw[if_neg (may_no h)]
theorem sync_0{d:Kp.Dk}(h:Kp.rightD d=true):Kp.syncD d 0=(⟨⟨Kp.readD d 0,[]⟩,d.f1⟩,0):=by
 unfold Kp.syncD Kp.readD;rw[if_pos (may_yes h rfl),if_pos (may_yes h rfl)];simp[Kp.setD]
theorem sync_1{d:Kp.Dk}(h:Kp.rightD d=true):Kp.syncD d 1=(⟨d.f0,⟨Kp.readD d 1,[]⟩⟩,0):=by
 unfold Kp.syncD Kp.readD;rw[if_pos (may_yes h rfl),if_pos (may_yes h rfl)];simp[Kp.setD]
theorem read_all{d:Kp.Dk}{n:Int}(h:Kp.rightD d=true)(h2:Kp.hasD n=true):Kp.readD d n=Kp.allF (Kp.fileD d n):=by unfold Kp.readD;rw[if_pos (may_yes h h2)]
theorem read_len{d:Kp.Dk}{n:Int}(h:smD d):(Kp.readD d n).length≤400000:=by
 obtain⟨s0,s1,s2,s3⟩:=h
 unfold Kp.readD Kp.fileD
 split
 ·split<;>simp only[Kp.allF,List.length_append]<;>omega
 ·simp
theorem cut_no{d:Kp.Dk}{n k:Int}(h:Kp.rightD d=false∨Kp.hasD n=false):Kp.cutD d n k=(d,1):=by unfold Kp.cutD;rw[if_neg (fun e=>may_no h e.1)]
theorem cut_n{d:Kp.Dk}{n k:Int}(h:k<0∨((Kp.readD d n).length:Int)<k):Kp.cutD d n k=(d,1):=by
 unfold Kp.cutD;rw[if_neg]
 rintro⟨e,e1,e2⟩
 unfold Kp.readD at h
 rw[if_pos e] at h
 omega
theorem cut_0{d:Kp.Dk}{k:Int}(h:Kp.rightD d=true)(h1:0≤k)(h2:k≤((Kp.readD d 0).length:Int)):Kp.cutD d 0 k=(⟨⟨(Kp.readD d 0).take k.toNat,[]⟩,d.f1⟩,0):=by
 rw[read_all h rfl] at h2 ⊢
 unfold Kp.cutD;rw[if_pos ⟨may_yes h rfl,h1,h2⟩];rfl
theorem cut_1{d:Kp.Dk}{k:Int}(h:Kp.rightD d=true)(h1:0≤k)(h2:k≤((Kp.readD d 1).length:Int)):Kp.cutD d 1 k=(⟨d.f0,⟨(Kp.readD d 1).take k.toNat,[]⟩⟩,0):=by
 rw[read_all h rfl] at h2 ⊢
 unfold Kp.cutD;rw[if_pos ⟨may_yes h rfl,h1,h2⟩];rfl
theorem dread_c(d:Kp.Dk)(n:Int)(hd:smD d):ACalls E 99 [dkV d,i64 n] (fun r t=>r=bytesV (Kp.readD d n)∧t=[]):=by
 have hd0:=hd
 obtain⟨s0,s1,s2,s3⟩:=hd
 refine ACalls.of_awp (n:=26) (rs:=[.tmp 4]) Tryz.func99 rfl Tryz.ntmps99 rfl ?_
 repeat'(first
 |refine AWP.seqk fun K hK=>?_
 |(
  refine AWP.here 3 14 13 rfl ?_
  obtain rfl|rfl:=has_or (n:=n) (by assumption)
  refine AWP.regionO [0,1,2,3,4,5,6,7,8,9,10,11,12] [] (by kernel_rfl) (by kernel_rfl) rfl ?_;simp only[go_sem])
 |(refine AWP.region ?_;simp only[go_sem])
 |(refine AWP.here 3 14 13 rfl ?_;refine AWP.regionO [0,1,2,3,4,5,6,7,8,9,10,11,12] [] (by kernel_rfl) (by kernel_rfl) rfl ?_;simp only[go_sem])
 |(refine hK _ ?_;clear hK K)
 |refine AWP.cond rfl (fun c=>?_) (fun c=>?_)<;>first|exact Bool.noConfusion c|(try simp only[dD] at c)
 |refine AWP.skip ?_
 |(refine ACall.one (dright_c d hd0) (by kernel_rfl) rfl ?_;simp only[go_sem])
 |(refine ACall.one (dhas_c d n) (by kernel_rfl) rfl ?_;simp only[go_sem])
 |(refine ACall.one (concat_c [d.f0.safe,d.f0.tail] (by simp;omega) (by simp)) (by kernel_rfl) rfl ?_;simp only[go_sem])
 |(refine ACall.one (concat_c [d.f1.safe,d.f1.tail] (by simp;omega) (by simp)) (by kernel_rfl) rfl ?_;simp only[go_sem])
 |(refine AGuard.split (fun h=>?_) (fun h=>?_)<;>simp only[h,go_sem]<;>(try simp only[dD] at h))
 |(
  refine AWP.ret ?_
  refine AEnd.is ?_;simp only[go_sem,out_v,out_s,out_n,v_int,v_bool,v_str]<;>(first|(rw[read_no (.inl (by assumption))];trivial)|(rw[read_no (.inr (by assumption))];trivial)|(rw[read_0 (by assumption)];done)|(rw[read_1 (by assumption)];done))))
theorem dwrite_c(d:Kp.Dk)(n:Int)(b:List UInt8)(hd:smD d)(hb:b.length≤200000):ACalls E 94 [dkV d,i64 n,bytesV b] (fun r t=>r= .tup [dkV (Kp.writeD d n b).1,i64 (Kp.writeD d n b).2]∧t=[]):=by
 have hd0:=hd
 obtain⟨s0,s1,s2,s3⟩:=hd
 refine ACalls.of_awp (n:=51) (rs:=[.cell 6 49,.tmp 7]) Tryz.func94 rfl Tryz.ntmps94 rfl ?_
 repeat'(first
 |refine AWP.seqk fun K hK=>?_
 |(
  refine AWP.here 4 21 4 rfl ?_
  have hq:=right_len (d:=d) (by assumption)
  have hw0:IntKind.i64.wrap (65536-(d.f0.safe.length:Int))=65536-(d.f0.safe.length:Int):=wrap64_id (by omega) (by omega)
  have hx0:IntKind.i64.wrap (65536-(d.f0.safe.length:Int)-(d.f0.tail.length:Int))=65536-(d.f0.safe.length:Int)-(d.f0.tail.length:Int):=wrap64_id (by omega) (by omega)
  have hw1:IntKind.i64.wrap (65536-(d.f1.safe.length:Int))=65536-(d.f1.safe.length:Int):=wrap64_id (by omega) (by omega)
  have hx1:IntKind.i64.wrap (65536-(d.f1.safe.length:Int)-(d.f1.tail.length:Int))=65536-(d.f1.safe.length:Int)-(d.f1.tail.length:Int):=wrap64_id (by omega) (by omega)
  obtain rfl|rfl:=has_or (n:=n) (by assumption)
  refine AWP.region ?_;simp only[go_sem])
 |(
  refine AWP.here 5 24 15 rfl ?_
  refine AWP.regionO [0,1,2,3,4,5,6,7,8,9,10,11,12,13,14] [] (by kernel_rfl) (by kernel_rfl) rfl ?_;simp only[go_sem,hw0,hw1,hx0,hx1])
 |(refine AWP.region ?_;simp only[go_sem])
 |(refine hK _ ?_;clear hK K)
 |refine AWP.cond rfl (fun c=>?_) (fun c=>?_)<;>first|exact Bool.noConfusion c|(try simp only[dD] at c)
 |refine AWP.skip ?_
 |(refine ACall.one (down_c d hd0) (by kernel_rfl) rfl ?_;simp only[go_sem])
 |(refine ACall.one (dright_c d hd0) (by kernel_rfl) rfl ?_;simp only[go_sem])
 |(refine ACall.one (dhas_c d n) (by kernel_rfl) rfl ?_;simp only[go_sem])
 |(refine ACall.one (concat_c [d.f0.tail,b] (by simp;omega) (by simp)) (by kernel_rfl) rfl ?_;simp only[go_sem])
 |(refine ACall.one (concat_c [d.f1.tail,b] (by simp;omega) (by simp)) (by kernel_rfl) rfl ?_;simp only[go_sem])
 |(refine AGuard.split (fun h=>?_) (fun h=>?_)<;>simp only[h,go_sem]<;>(try simp only[dD] at h))
 |((with_reducible refine And.intro ?_ ?_);(focus((simp;done)));(try simp only[hb,go_sem]))
 |(
  refine AWP.ret ?_
  refine AEnd.is ?_;simp only[go_sem,out_v,out_s,out_n,v_int,v_bool,v_str]<;>(first|(rw[write_no (.inl (by assumption))];exact⟨⟨rfl,rfl,rfl,rfl⟩,rfl⟩)|(rw[write_no (.inr (by assumption))];exact⟨⟨rfl,rfl,rfl,rfl⟩,rfl⟩)|(rw[write_f0 (by assumption) (by omega)];exact⟨⟨rfl,rfl,rfl,rfl⟩,rfl⟩)|(rw[write_f1 (by assumption) (by omega)];exact⟨⟨rfl,rfl,rfl,rfl⟩,rfl⟩)|(rw[write_0 (by assumption) (by omega)];exact⟨⟨rfl,rfl,rfl,rfl⟩,rfl⟩)|(rw[write_1 (by assumption) (by omega)];exact⟨⟨rfl,rfl,rfl,rfl⟩,rfl⟩))))
end Go.Proofs.YthoonfpkfdjhiaaGreatDoor
end
section
namespace Go.Abs
open Go Go.RowKit
section
variable{H:Type}{enc:TypeId×Value→H}{P:Program}{t:TypeId}
end
end Go.Abs
end
section
namespace Go.Bk
open Go Go.Abs
def zeroV:Vn:=⟨⟨[],[],[],0,0⟩,[],0,false⟩
def newG(n p:Int):Gt×Int:=if n<1∨4<n∨timeB p=false then(⟨[],[],false,0,0⟩,1) else(⟨List.replicate n.toNat zeroV,[],false,0,p⟩,0)
theorem new_no{n p:Int}(h:n<1∨4<n∨timeB p=false):newG n p=(⟨[],[],false,0,0⟩,1):=if_pos h
theorem new_yes{n p:Int}(h1:1≤n)(h2:n≤4)(h:timeB p=true):newG n p=(⟨List.replicate n.toNat zeroV,[],false,0,p⟩,0):=if_neg (by rw[h];simp;omega)
end Go.Bk
end
section
set_option linter.unusedSectionVars false
namespace Go.Stb
set_option linter.unusedSectionVars false
open Go.Sort
variable{α:Type}[Inhabited α]
section
variable(lt:α→α→Bool)
end
section
variable{lt:α→α→Bool}
theorem srt_congr{a b:Nat}{d d':Array α}(hs:SortedIn lt a b d)(h:∀i,a≤i→i<b→d'[i]! =d[i]!):SortedIn lt a b d':=fun i j hi hij hj=>by
 rw[h i hi (by omega),h j (by omega) hj]
 exact hs i j hi hij hj
inductive Ch(lt:α→α→Bool)(s n:Nat)(d:Array α):Nat→Prop
 |done {a:Nat} (h:n≤a):Ch lt s n d a
 |step {a:Nat} (h:SortedIn lt a (min (a+s) n) d) (hn:Ch lt s n d (a+s)):Ch lt s n d a
theorem Ch.congr{s n a:Nat}{d d':Array α}(h:Ch lt s n d a)(e:∀i,a≤i→d'[i]! =d[i]!):Ch lt s n d' a:=by
 induction h with
 |done h=>exact .done h
 |step h _ ih=>exact .step (srt_congr h fun i x y=>e i x) (ih fun i hi=>e i (by omega))
theorem Ch.head{s n a:Nat}{d:Array α}(h:Ch lt s n d a):SortedIn lt a (min (a+s) n) d:=by
 cases h with
 |done h=>exact fun i j x y z=>by omega
 |step h _=>exact h
theorem Ch.tail{s n a:Nat}{d:Array α}(h:Ch lt s n d a):Ch lt s n d (a+s):=by
 cases h with
 |done h=>exact .done (by omega)
 |step _ h=>exact h
end
end Go.Stb
end
section
namespace Go.Bk
open Go Go.Abs
instance:Inhabited Po:=⟨⟨[],[],0,0,false⟩⟩
end Go.Bk
end
section
namespace Go.Bk
open Go Go.Abs
end Go.Bk
end
section
namespace Go.Bk
open Go Go.Abs
section
variable{g:Gt}{k:Nat}{o:Od}{v:Vn}
end
end Go.Bk
end
section
namespace Go.Proofs.YthoonfpkfdjhiaaGreatDoor
open Go Go.RowKit Go.Bk Go.Abs Go.Fld Go.Msg Go.Txt
section
variable{H:Type}{enc:TypeId×Value→H}
variable{w:World}{r:Reach}{b0 base:Nat}{spare:Nat→Bool}{held:Bool}{v:Value}{d:DataW H}{ps:List MemPlace}
theorem list_map{α:Type}{f:α→AV}{Q:α→Prop}:∀{es:List AV},(∀y∈es,∃b,Q b∧y=f b)→∃L:List α,es=L.map f∧∀b∈L,Q b
 |[],_=>⟨[],rfl,by simp⟩
 |e::es,h=>by
  obtain⟨b,hb,rfl⟩:=h e (List.mem_cons_self ..)
  obtain⟨L,rfl,hL⟩:=list_map (es:=es) fun y hy=>h y (List.mem_cons_of_mem _ hy)
  exact⟨b::L,rfl,fun x hx=>by rcases List.mem_cons.1 hx with rfl|hx;exact hb;exact hL x hx⟩
theorem c23:Tryz.prog.cellsOf 23=8:=by kernel_rfl
theorem c25:Tryz.prog.cellsOf 25=10:=by kernel_rfl
theorem c27:Tryz.prog.cellsOf 27=6:=by kernel_rfl
theorem c29:Tryz.prog.cellsOf 29=29:=by kernel_rfl
set_option maxRecDepth 100000 in
theorem arg_ask(hv:Value.okWide Tryz.prog w r b0 29 v)(hd:DataW.Trod enc Tryz.prog w base spare held 29 v d ps):∃a:Ak,akOk a∧VR0 (imOf w) (akV a) v:=by
 obtain⟨ls,h,hx⟩:=arg_struct Tryz.underlying29
  (reads_struct Tryz.underlying29 rfl c29 (readsF_cons (reads_int Tryz.underlying3) (by kernel_rfl) rfl (readsF_cons (reads_int Tryz.underlying3) (by kernel_rfl) rfl (readsF_cons (reads_struct Tryz.underlying23 rfl c23 (readsF_cons (reads_string Tryz.underlying9) (by kernel_rfl) rfl (readsF_cons (reads_string Tryz.underlying9) (by kernel_rfl) rfl (readsF_cons (reads_string Tryz.underlying9) (by kernel_rfl) rfl (readsF_cons (reads_bool Tryz.underlying4) (by kernel_rfl) rfl (readsF_cons (reads_int Tryz.underlying2) (by kernel_rfl) rfl (readsF_cons (reads_int Tryz.underlying2) (by kernel_rfl) rfl (readsF_cons (reads_int Tryz.underlying2) (by kernel_rfl) rfl (readsF_cons (reads_bool Tryz.underlying4) (by kernel_rfl) rfl (readsF_nil 8)))))))))) (by kernel_rfl) rfl (readsF_cons (reads_string Tryz.underlying9) (by kernel_rfl) rfl (readsF_cons (reads_struct Tryz.underlying25 rfl c25 (readsF_cons (reads_string Tryz.underlying9) (by kernel_rfl) rfl (readsF_cons (reads_string Tryz.underlying9) (by kernel_rfl) rfl (readsF_cons (reads_string Tryz.underlying9) (by kernel_rfl) rfl (readsF_cons (reads_string Tryz.underlying9) (by kernel_rfl) rfl (readsF_cons (reads_string Tryz.underlying9) (by kernel_rfl) rfl (readsF_cons (reads_int Tryz.underlying3) (by kernel_rfl) rfl (readsF_cons (reads_bool Tryz.underlying4) (by kernel_rfl) rfl (readsF_cons (reads_int Tryz.underlying2) (by kernel_rfl) rfl (readsF_cons (reads_int Tryz.underlying2) (by kernel_rfl) rfl (readsF_cons (reads_int Tryz.underlying2) (by kernel_rfl) rfl (readsF_nil 10)))))))))))) (by kernel_rfl) rfl (readsF_cons (reads_int Tryz.underlying2) (by kernel_rfl) rfl (readsF_cons (reads_bool Tryz.underlying4) (by kernel_rfl) rfl (readsF_cons (reads_struct Tryz.underlying27 rfl c27 (readsF_cons (reads_string Tryz.underlying9) (by kernel_rfl) rfl (readsF_cons (reads_string Tryz.underlying9) (by kernel_rfl) rfl (readsF_cons (reads_int Tryz.underlying2) (by kernel_rfl) rfl (readsF_cons (reads_int Tryz.underlying2) (by kernel_rfl) rfl (readsF_cons (reads_int Tryz.underlying2) (by kernel_rfl) rfl (readsF_cons (reads_int Tryz.underlying2) (by kernel_rfl) rfl (readsF_nil 6)))))))) (by kernel_rfl) rfl (readsF_nil 29)))))))))) hv hd
 obtain⟨_,_,⟨k,_,rfl⟩,⟨_,_,⟨vn,_,rfl⟩,⟨_,_,⟨_,_,⟨s1,hs1,rfl⟩,⟨_,_,⟨s2,hs2,rfl⟩,⟨_,_,⟨s3,hs3,rfl⟩,⟨_,_,⟨b4,rfl⟩,⟨_,_,⟨n5,_,rfl⟩,⟨_,_,⟨n6,_,rfl⟩,⟨_,_,⟨n7,_,rfl⟩,⟨_,_,⟨b8,rfl⟩,rfl,rfl⟩,rfl⟩,rfl⟩,rfl⟩,rfl⟩,rfl⟩,rfl⟩,rfl⟩,⟨_,_,⟨d1,hd1,rfl⟩,⟨_,_,⟨_,_,⟨x1,hx1,rfl⟩,⟨_,_,⟨x2,hx2,rfl⟩,⟨_,_,⟨x3,hx3,rfl⟩,⟨_,_,⟨x4,hx4,rfl⟩,⟨_,_,⟨x5,hx5,rfl⟩,⟨_,_,⟨x6,_,rfl⟩,⟨_,_,⟨x7,rfl⟩,⟨_,_,⟨x8,_,rfl⟩,⟨_,_,⟨x9,_,rfl⟩,⟨_,_,⟨x10,_,rfl⟩,rfl,rfl⟩,rfl⟩,rfl⟩,rfl⟩,rfl⟩,rfl⟩,rfl⟩,rfl⟩,rfl⟩,rfl⟩,⟨_,_,⟨w0,_,rfl⟩,⟨_,_,⟨o,rfl⟩,⟨_,_,⟨_,_,⟨l1,hl1,rfl⟩,⟨_,_,⟨l2,hl2,rfl⟩,⟨_,_,⟨l3,_,rfl⟩,⟨_,_,⟨l4,_,rfl⟩,⟨_,_,⟨l5,_,rfl⟩,⟨_,_,⟨l6,_,rfl⟩,rfl,rfl⟩,rfl⟩,rfl⟩,rfl⟩,rfl⟩,rfl⟩,rfl,rfl⟩,rfl⟩,rfl⟩,rfl⟩,rfl⟩,rfl⟩,rfl⟩,rfl⟩:=h
 unfold maxLen at hs1 hs2 hs3 hd1 hx1 hx2 hx3 hx4 hx5 hl1 hl2
 exact⟨⟨k,vn,⟨s1,s2,s3,b4,n5,n6,n7,b8⟩,d1,⟨x1,x2,x3,x4,x5,x6,x7,x8,x9,x10⟩,w0,o,⟨l1,l2,l3,l4,l5,l6⟩⟩,⟨hs1,hs2,hs3,hd1,hl1,hl2,hx1,hx2,hx3,hx4,hx5⟩,hx⟩
theorem c5:Tryz.prog.cellsOf 5=1:=by kernel_rfl
set_option maxRecDepth 100000 in
theorem arg_bytes(hv:Value.okWide Tryz.prog w r b0 30 v)(hd:DataW.Trod enc Tryz.prog w base spare held 30 v d ps):∃l:List UInt8,l.length≤9223372036854775807∧VR0 (imOf w) (bytesV l) v:=by
 obtain⟨x,hx,h⟩:=arg_slice false Tryz.underlying30 c5 (by decide) (fun _=>rfl) (reads_int Tryz.underlying5) hv hd
 rcases h with rfl|⟨es,h1,h2,rfl⟩
 ·cases hx;exact⟨[],by simp,.sl0 1 none 0⟩
 ·obtain⟨L,rfl,_⟩:=list_map (f:=u8) (Q:=fun _=>True) (es:=es) (fun y hy=>by
   obtain⟨l,⟨n,hn,rfl⟩,rfl⟩:=h2 y hy
   have hn':0≤n∧n<256:=by
    simp only[Lit.wf,Bool.and_eq_true,decide_eq_true_eq] at hn
    simp only[IntKind.min,IntKind.max,IntKind.bits,IntKind.signed] at hn
    simp at hn
    omega
   refine⟨UInt8.ofNat n.toNat,trivial,?_⟩
   show AV.v (.int .u8 n)=u8 _
   have:((UInt8.ofNat n.toNat).toNat:Int)=n:=by simp;omega
   rw[u8_at,this])
  exact⟨L,by unfold maxLen at h1;simpa using h1,hx⟩
end
end Go.Proofs.YthoonfpkfdjhiaaGreatDoor
end
