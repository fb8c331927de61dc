/- Texts of one chain, put together (BN10, BN1b, Vs, BShelf, Q21, Le, Sr, Q2, Q3, Q4, Q19, Q22, Q5, Q6, Q29). -/
import Derived.Test.YthoonfpkfdjhiaaGreatDoorKdL
import Derived.Test.YthoonfpkfdjhiaaGreatDoorKdK
import Derived.Test.YthoonfpkfdjhiaaGreatDoorKdF
import Derived.Test.YthoonfpkfdjhiaaGreatDoorKdG
import Derived.Shelf.Bits.Mul64
import Derived.Shelf.SlIter.Sorted
import Derived.Shelf.SortM.Plain
import Derived.Shelf.SortM.SortNone
import Derived.Ground.GgzProg
import Derived.Ground.SlgmProg
import Derived.Test.YthoonfpkfdjhiaaGreatDoorProg
import Derived.Test.YthoonfpkfdjhiaaGreatDoorKdE
import Derived.Test.YthoonfpkfdjhiaaGreatDoorKdD
import Derived.RangeFuncBox
import Derived.RangeFuncLeaves
import Derived.Shelf.Abstract
import Derived.WalkKit
import Derived.OwnWalkIn
import Derived.TacticsInMore
import Derived.LoopNIn
import Derived.LoopIn
import Derived.Test.YthoonfpkfdjhiaaGreatDoorKdA
set_option linter.unusedVariables false
set_option linter.unusedSimpArgs false
set_option maxHeartbeats 16000000
set_option maxRecDepth 8000
section
namespace Go.Proofs.YthoonfpkfdjhiaaGreatDoor
open Go Go.az Go.RowKit Go.Bk
theorem Cn{b:Bk}{x:Ex}(h:b.bad≠0∨256≤b.ids.length):cP b x=(b,4):=by unfold cP;rw[if_pos h]
theorem Za{b:Bk}{x:Ex}(h0:b.bad=0)(h1:¬256≤b.ids.length)(h:nK b.ids x.id=true):cP b x=(b,2):=by unfold cP;rw[if_neg (by simp[h0];omega),if_pos h]
theorem Zb{b b2:Bk}{x:Ex}{e:Int}(h0:b.bad=0)(h1:¬256≤b.ids.length)(h:nK b.ids x.id=false)(hb:cf ⟨b.aq,b.av,b.ids++[x.id],b.clock,b.bad⟩ x=(b2,e))(he:¬e=0):cP b x=(⟨b2.aq,b2.av,b2.ids,b2.clock,e⟩,3):=by
 unfold cP;rw[if_neg (by simp[h0];omega),if_neg (by simp[h])]
 have hb':cf { b with ids:=b.ids++[x.id] } x=(b2,e):=hb
 simp only[hb']
 rw[if_pos he]
theorem Y9{b b2:Bk}{x:Ex}{e:Int}(h0:b.bad=0)(h1:¬256≤b.ids.length)(h:nK b.ids x.id=false)(hb:cf ⟨b.aq,b.av,b.ids++[x.id],b.clock,b.bad⟩ x=(b2,e))(he:e=0):cP b x=(⟨b2.aq,b2.av,b2.ids,x.time,b2.bad⟩,1):=by
 unfold cP;rw[if_neg (by simp[h0];omega),if_neg (by simp[h])]
 have hb':cf { b with ids:=b.ids++[x.id] } x=(b2,e):=hb
 simp only[hb']
 rw[if_neg (by simp[he])]
theorem tr:∀i,i≠2→i<4→ct [0,1,2,3] i=some i:=by
 intro i h1 h2
 have:i=0∨i=1∨i=3:=by omega
 rcases this with rfl|rfl|rfl<;>rfl
theorem s6{os ids y1 y2:AV}{k c m:Nat}{l:List Dn}{x:Ex}{rest:List (Option (List AV))}(h0:os.bZ (ct [0,1,2,3])=os)(hi:ids.bZ (ct [0,1,2,3])=ids)(h1:y1.bZ (ct [0,1,2,3])=y1)(h2:y2.bZ (ct [0,1,2,3])=y2):
 jC (Z0::some [.agg [os,.mu 2 9 0 k c,ids,y1,y2]]::some (l.map cF++spare 9 m)::some [ao x]::rest) [0,1,2,3]=[Z0,some [.agg [os,.mu 2 9 0 k c,ids,y1,y2]],some (l.map cF++spare 9 m),some [ao x]]:=by
 show[Z0,some [.agg [os.bZ _,.mu 2 9 0 k c,ids.bZ _,y1.bZ _,y2.bZ _]],some ((l.map cF++spare 9 m).map _),some [ao x]]=_
 rw[o8,h0,hi,h1,h2]
theorem Th(l:List Bs)(s:Bs):l.map str++[str s]=(l++[s]).map str:=by simp
theorem aa.KG{E:Env}{c:Code}{Q:Exit→St→Prop}{tmps tmps' up:List AV}{own' rest:List (Option (List AV))}{tk tk':List Nat}{gl:Nat→Option (List AV)}{n:Nat}(hup:up.all (kp n)=true)(hn:n≤own'.length)(h0:1≤tk'.length)(hb:iI own'.length tk'.length own'=true)(h1:jL own'.length tk'.length tmps tmps')(hk:jj tk tk')
 (hw:aa E c Q ⟨tmps',own',tk',gl,none,up⟩):aa E c Q ⟨tmps,own'++rest,tk,gl,none,up⟩:=
 aa.weaken (t:=⟨tmps',own',tk',gl,none,up⟩) ⟨h1,wT hb,hk,rfl,rfl,rfl,List.all_eq_true.2 fun x hx=>vc hn h0 (List.all_eq_true.1 hup x hx)⟩ hw
set_option maxRecDepth 100000 in
theorem YW{ops:Array Oper}{l:List Oper}{Q:Exit→St→Prop}{tmps up:List AV}{gl:Nat→Option (List AV)}{b:Bk}{x:Ex}{m:Nat}{dst:Option Tmp}{x0 x1:Operand}{tys:Array TypeId}{ty:TypeId}{pos:String}{after:Array Edge}
 (hx0:St.ev ⟨tmps,[Z0,some [aS b m],some (aR b m),some [ao x]],[b.ids.length],gl,none,up⟩ x0= .ptr 1 0 0) (hx1:St.ev ⟨tmps,[Z0,some [aS b m],some (aR b m),some [ao x]],[b.ids.length],gl,none,up⟩ x1=ao x)
 (hx:dh x=true) (htf:∀f∈b.av,0≤f.time∧f.time≤4611686018427387904) (hi:b.ids.length≤1000000) (ho:b.aq.length≤1000000) (hf:b.av.length≤1000000) (hup:(tmps++up).all (kp 4)=true)
 (h:∀(b':Bk) (e:Int) (m':Nat),cP b x=(b',e)→al E ops l Q (St.put ⟨tmps,[Z0,some [aS b' m'],some (aR b' m'),some [ao x]],[b'.ids.length],gl,none,up⟩ dst (i64 e))):
 al E ops (⟨dst,.call ⟨.value (.func 173),#[x0,x1],tys⟩,ty,pos,after,none⟩::l) Q ⟨tmps,[Z0,some [aS b m],some (aR b m),some [ao x]],[b.ids.length],gl,none,up⟩:=by
 refine al.call (caps:=[]) (rs:=[.tmp 4]) Tryz.func173 rfl Tryz.ntmps173 rfl ae rfl rfl ?_
 show aa E _ _ ⟨([St.ev ⟨tmps,[Z0,some [aS b m],some (aR b m),some [ao x]],[b.ids.length],gl,none,up⟩ x0,St.ev ⟨tmps,[Z0,some [aS b m],some (aR b m),some [ao x]],[b.ids.length],gl,none,up⟩ x1]++[])++List.replicate (51-2) (.v undef),[Z0,some [aS b m],some (aR b m),some [ao x]],[b.ids.length],gl,none,tmps++up⟩
 rw[hx0,hx1]
 have hK:∀(tm:List AV) (ow:List (Option (List AV))) (tk:List Nat) (b':Bk) (e:Int) (m':Nat),cP b x=(b',e)→ow=[Z0,some [aS b' m'],some (aR b' m'),some [ao x]]→tk=[b'.ids.length]→tm[4]?=some (i64 e)→bT E.P [.tmp 4] ⟨tmps,[Z0,some [aS b m],some (aR b m),some [ao x]],[b.ids.length],gl,none,up⟩ (fun s z=>al E ops l Q (s.put dst z)) .ret ⟨tm,ow,tk,gl,none,tmps++up⟩:=by
  intro tm ow tk b' e m' hb' how htk h4
  subst how;subst htk
  refine⟨rfl,?_⟩
  have:St.ev ⟨tm,[Z0,some [aS b' m'],some (aR b' m'),some [ao x]],[b'.ids.length],gl,none,tmps++up⟩ (.tmp 4)=i64 e:=by simp[St.ev,List.getD_eq_getElem?_getD,h4]
  show al E ops l Q (St.put _ dst (fx [St.ev _ (.tmp 4)]))
  rw[this]
  exact h b' e m' hb'
 generalize bT E.P [.tmp 4] ⟨tmps,[Z0,some [aS b m],some (aR b m),some [ao x]],[b.ids.length],gl,none,up⟩ (fun s z=>al E ops l Q (s.put dst z))=Q' at hK ⊢
 generalize tmps++up=up' at hup hK ⊢
 clear h hx0 hx1
 refine aa.ah fun K1 hK1=>?_
 refine aa.region ?_
 simp only[go_sem]
 refine hK1 _ ?_;clear hK1 K1
 refine aa.ah fun K2 hK2=>?_
 refine aa.ah fun K3 hK3=>?_
 refine aa.region ?_
 simp only[go_sem]
 repeat'(first|(refine aP.split (fun h=>?_) (fun h=>?_)<;>simp only[h,go_sem]<;>try simp only[dD] at h)|((with_reducible refine And.intro ?_ ?_);(focus(((simp;done))));(try simp only[hb,go_sem])))
 all_goals(
  refine hK3 _ ?_;clear hK3 K3
  refine aa.cond rfl (fun c18=>?_) (fun c18=>?_)
  ·(
    try simp only[dD] at c18
    refine aa.ah fun K4 hK4=>?_
    refine aa.region ?_
    simp only[go_sem]
    refine hK4 _ ?_;clear hK4 K4
    refine aa.dJ [0,1,2,3] [Z0,some [aS b m],some (aR b m),some [ao x]] [b.ids.length] 4 aj tr hup (Nat.le_refl _) (s6 rfl rfl rfl rfl) qX ⟨rfl,trivial⟩ (Nat.le_refl _) ?_
    refine aa.ret ?_
    try simp only[go_sem]
    clear hK2 K2
    first
    |exact hK _ _ _ b _ m (Cn (.inl af)) rfl rfl rfl
    |exact hK _ _ _ b _ m (Cn (.inr ab)) rfl rfl rfl)
  ·first|exact Bool.noConfusion c18|(
    try simp only[dD] at c18
    refine aa.skip ?_
    refine hK2 _ ?_;clear hK2 K2
    refine aa.ah fun K5 hK5=>?_
    refine aa.ah fun K6 hK6=>?_
    refine aa.bA [0,1,2,3,4,5,6] [] ae ae rfl ?_
    simp only[go_sem]
    repeat'((refine ak.one (Xg b.ids x.id ab) ae rfl ?_;simp only[go_sem]))
    refine hK6 _ ?_;clear hK6 K6
    refine aa.cond rfl (fun oZ=>?_) (fun oZ=>?_)
    ·(
      try simp only[dD] at oZ
      refine aa.ah fun K7 hK7=>?_
      refine aa.region ?_
      simp only[go_sem]
      refine hK7 _ ?_;clear hK7 K7
      refine aa.dJ [0,1,2,3] [Z0,some [aS b m],some (aR b m),some [ao x]] [b.ids.length] 4 aj tr hup (Nat.le_refl _) (s6 rfl rfl rfl rfl) qX ⟨rfl,trivial⟩ (Nat.le_refl _) ?_
      refine aa.ret ?_
      try simp only[go_sem]
      clear hK5 K5
      (exact hK _ _ _ b _ m (Za ab ab af) rfl rfl rfl))
    ·(
      try simp only[dD] at oZ
      refine aa.skip ?_
      refine hK5 _ ?_;clear hK5 K5
      refine aa.ah fun K8 hK8=>?_
      refine aa.bA [0,1,2,3,4,5,6,7,8,9,10,11] [] ae ae rfl ?_
      simp only[go_sem]
      repeat'(((with_reducible refine And.intro ?_ ?_);(focus((omega)));(try simp only[hb,go_sem])))
      refine hK8 _ ?_;clear hK8 K8
      refine aa.ah fun K9 hK9=>?_
      refine aa.ah fun K10 hK10=>?_
      rw[Th b.ids x.id]
      refine aa.KG (tmps':=[.ptr 1 0 0,.any,.any,.ptr 4 0 0,.any,.any,.any,.any,.any,.any,.any,.any,.any,.any,.any,.any,.any,.any,.any,.any,.any,.any,.any,.any,.any,.any,.any,.any,.any,.any,.any,.any,.any,.any,.any,.any,.any,.any,.any,.any,.any,.any,.any,.any,.any,.any,.any,.any,.any,.any,.any]) (own':=[Z0,some [aS ⟨b.aq,b.av,b.ids++[x.id],b.clock,b.bad⟩ m],some (aR ⟨b.aq,b.av,b.ids++[x.id],b.clock,b.bad⟩ m),some [ao x],some [ao x]]) (rest:=[]) (tk':=[(b.ids++[x.id]).length]) hup (Nat.le_of_ble_eq_true rfl) (Nat.le_refl _) iu ⟨.inr ⟨rfl,rfl⟩,.inl rfl,.inl rfl,.inr ⟨rfl,rfl⟩,.inl rfl,.inl rfl,.inl rfl,.inl rfl,.inl rfl,.inl rfl,.inl rfl,.inl rfl,.inl rfl,.inl rfl,.inl rfl,.inl rfl,.inl rfl,.inl rfl,.inl rfl,.inl rfl,.inl rfl,.inl rfl,.inl rfl,.inl rfl,.inl rfl,.inl rfl,.inl rfl,.inl rfl,.inl rfl,.inl rfl,.inl rfl,.inl rfl,.inl rfl,.inl rfl,.inl rfl,.inl rfl,.inl rfl,.inl rfl,.inl rfl,.inl rfl,.inl rfl,.inl rfl,.inl rfl,.inl rfl,.inl rfl,.inl rfl,.inl rfl,.inl rfl,.inl rfl,.inl rfl,.inl rfl,trivial⟩ ⟨by simp,trivial⟩ ?_
      refine aa.aW ?_
      refine al.app (l1:=[_,_]) (l2:=_::_) ?_
      simp only[go_sem]
      rw[show b.ids.length+1=(b.ids++[x.id]).length by simp]
      refine DK (b:=⟨b.aq,b.av,b.ids++[x.id],b.clock,b.bad⟩) (x:=x) (m:=m) rfl rfl hx htf ho hf (po aj rfl hup) ?_
      intro b2 e2 m2 hb2
      refine al.of ?_
      simp only[go_sem]
      refine hK10 _ ?_;clear hK10 K10
      refine aa.ah fun K11 hK11=>?_
      refine aa.region ?_
      simp only[go_sem]
      refine hK11 _ ?_;clear hK11 K11
      refine aa.cond rfl (fun c41=>?_) (fun c41=>?_)
      ·(
        try simp only[dD] at c41
        refine aa.ah fun K12 hK12=>?_
        refine aa.region ?_
        simp only[go_sem]
        refine hK12 _ ?_;clear hK12 K12
        refine aa.ah fun K13 hK13=>?_
        refine aa.region ?_
        simp only[go_sem]
        refine hK13 _ ?_;clear hK13 K13
        refine aa.dJ [0,1,2,3] [Z0,some [aS ⟨b2.aq,b2.av,b2.ids,b2.clock,e2⟩ m2],some (aR ⟨b2.aq,b2.av,b2.ids,b2.clock,e2⟩ m2),some [ao x]] [b2.ids.length] 4 aj tr hup (Nat.le_refl _) (s6 rfl rfl rfl rfl) qX ⟨rfl,trivial⟩ (Nat.le_refl _) ?_
        refine aa.ret ?_
        try simp only[go_sem]
        clear hK9 K9
        (exact hK _ _ _ _ _ m2 (Zb ab ab af hb2 af) rfl rfl rfl))
      ·(
        try simp only[dD] at c41
        refine aa.skip ?_
        refine hK9 _ ?_;clear hK9 K9
        refine aa.ah fun K14 hK14=>?_
        refine aa.region ?_
        simp only[go_sem]
        refine hK14 _ ?_;clear hK14 K14
        refine aa.ah fun K15 hK15=>?_
        refine aa.region ?_
        simp only[go_sem]
        refine hK15 _ ?_;clear hK15 K15
        refine aa.dJ [0,1,2,3] [Z0,some [aS ⟨b2.aq,b2.av,b2.ids,x.time,b2.bad⟩ m2],some (aR ⟨b2.aq,b2.av,b2.ids,x.time,b2.bad⟩ m2),some [ao x]] [b2.ids.length] 4 aj tr hup (Nat.le_refl _) (s6 rfl rfl rfl rfl) qX ⟨rfl,trivial⟩ (Nat.le_refl _) ?_
        refine aa.ret ?_
        try simp only[go_sem]
        (exact hK _ _ _ _ _ m2 (Y9 ab ab af hb2 ab) rfl rfl rfl)))))
theorem Tm(x:Ex):ai E 56 [ao x] (fun r t=>r=bl (dh x)∧t=[]):=by
 refine ai.aC (n:=57) (rs:=[.tmp 2]) Tryz.func56 rfl Tryz.ntmps56 rfl ?_
 repeat'(first
 |refine aa.ah fun K hK=>?_
 |(refine aa.region ?_;simp only[go_sem])
 |(refine hK _ ?_;clear hK K)
 |refine aa.block ?_
 |refine aa.cond rfl (fun c=>?_) (fun c=>?_)<;>first|exact Bool.noConfusion c|(try simp only[dD] at c)
 |refine aa.skip ?_
 |(refine ak.one (Tq _) ae rfl ?_;simp only[go_sem])
 |(refine ak.one (Tt _) ae rfl ?_;simp only[go_sem])
 |(refine ak.one (TA _) ae rfl ?_;simp only[go_sem])
 |(refine aP.split (fun h=>?_) (fun h=>?_)<;>simp only[h,go_sem]<;>(try simp only[dD] at h))
 |(
  refine aa.ret ?_
  refine aM.is ?_;simp only[go_sem,aI,aH,aG,aK,aJ,aL]<;>(simp_all[dh])))
abbrev lx(b:Bk):AV:= .agg [bu b.aq,dn b.av,.sl none 1 (b.ids.map str),i64 b.clock,i64 b.bad]
theorem tg(b:Bk)(m:Nat):(aR b m).take b.av.length=b.av.map cF:=yz _
theorem mr{α:Type}[DecidableEq α]{a b:List α}(h:¬a.length=b.length):decide (a=b)=false:=decide_eq_false fun e=>h (by rw[e])
theorem mv{α:Type}[DecidableEq α]{a b:List α}{i:Nat}{x y:α}(h1:a[i]?=some x)(h2:b[i]?=some y)(h:x≠y):decide (a=b)=false:=decide_eq_false fun e=>h (by rw[e,h2,Option.some.injEq] at h1;exact h1.symm)
theorem mw{α:Type}[DecidableEq α]{a b:List α}{i:Nat}(h0:a.length=b.length)(hi:a.length≤i)(h:a.take i=b.take i):decide (a=b)=true:=by
 rw[List.take_of_length_le hi,List.take_of_length_le ab] at h
 exact decide_eq_true h
theorem mq{α:Type}{a b:List α}{i:Nat}{x y:α}(h1:a[i]?=some x)(h2:b[i]?=some y)(h:x=y)(h3:a.take i=b.take i):a.take (i+1)=b.take (i+1):=by rw[fI h1,fI h2,h3,h]
theorem Ay{x y:Od}(h:x.id=y.id∧x.acc=y.acc∧x.sym=y.sym∧x.aD=y.aD∧x.au=y.au∧x.aE=y.aE∧x.done=y.done∧x.bW=y.bW):x=y:=by
 obtain⟨a,b,c,d,e,f,g,i⟩:=x
 obtain⟨h1,h2,h3,h4,h5,h6,h7,h8⟩:=h
 dsimp only at *
 subst h1;subst h2;subst h3;subst h4;subst h5;subst h6;subst h7;subst h8;rfl
theorem Az{x y:Od}(h:x.id=y.id→x.acc=y.acc→x.sym=y.sym→x.aD=y.aD→x.au=y.au→x.aE=y.aE→x.done=y.done→¬x.bW=y.bW):x≠y:=by
 rintro rfl;exact h rfl rfl rfl rfl rfl rfl rfl rfl
theorem yw{x y:Dn}(h:x.id=y.id∧x.ord=y.ord∧x.acc=y.acc∧x.sym=y.sym∧x.aD=y.aD∧x.au=y.au∧x.aE=y.aE∧x.time=y.time∧x.live=y.live):x=y:=by
 obtain⟨a,b,c,d,e,f,g,i,j⟩:=x
 obtain⟨h1,h2,h3,h4,h5,h6,h7,h8,h9⟩:=h
 dsimp only at *
 subst h1;subst h2;subst h3;subst h4;subst h5;subst h6;subst h7;subst h8;subst h9;rfl
theorem yy{x y:Dn}(h:x.id=y.id→x.ord=y.ord→x.acc=y.acc→x.sym=y.sym→x.aD=y.aD→x.au=y.au→x.aE=y.aE→x.time=y.time→¬x.live=y.live):x≠y:=by
 rintro rfl;exact h rfl rfl rfl rfl rfl rfl rfl rfl rfl
theorem oz(p q:Bk):decide (p=q)=(decide (p.aq=q.aq)&&decide (p.av=q.av)&&decide (p.ids=q.ids)&&decide (p.clock=q.clock)&&decide (p.bad=q.bad)):=by
 obtain⟨a,b,c,d,e⟩:=p
 obtain⟨a',b',c',d',e'⟩:=q
 simp[Bool.and_assoc]
theorem WW{b:Bk}(h:cA b=true):True∧(b.aq.length≤64∧b.av.length≤256∧b.ids.length≤256)∧∀f∈b.av,0≤f.time∧f.time≤4611686018427387904:=by
 have h1:=iV.1 h
 refine⟨trivial,⟨Go.Bk.lV h1.1.1,h1.1.2.1,h1.1.2.2.1⟩,fun f hf=>?_⟩
 have h2:=h1.2.2.1 f hf
 simp only[ea,Bool.and_eq_true,decide_eq_true_eq] at h2
 omega
end Go.Proofs.YthoonfpkfdjhiaaGreatDoor
end
section
namespace Go.Proofs
open Go.Shelf
def Tryz.RQ:Go.Shelf.Ren:=⟨fun|264=>247|n=>n,fun|53=>208|46=>202|n=>n,fun|n=>n⟩
theorem Tryz.RP:Go.Proofs.Lays.n264 Tryz.prog Tryz.RQ:={
 mixed:=by kernel_rfl
 f264:=Tryz.func247.trans (congrArg some ae)
 t46:=Tryz.underlying202
 a46:=Tryz.isAgg202
 z46:=Tryz.sizeOf202
 v46:=Tryz.zeroValue202
 t53:=Tryz.underlying208
 a53:=Tryz.isAgg208
 z53:=Tryz.sizeOf208
 v53:=Tryz.zeroValue208 }
open Go.RowKit Go.Lib in
theorem Tryz.bits_Mul64(x y:Nat)(hx:x<18446744073709551616)(hy:y<18446744073709551616)(w:World):
 Calls Tryz.prog 247 #[.int .u64 x,.int .u64 y] w fun e w'=>e= .returned (.tuple #[.int .u64 ((x*y/18446744073709551616:Nat):Int),.int .u64 ((x*y%18446744073709551616:Nat):Int)])∧w'=w:=Any.bits_Mul64 Tryz.RP x y hx hy w
def Tryz.wC:Go.Shelf.Ren:=⟨fun|6=>144|8=>181|9=>149|11=>216|13=>186|12=>185|23=>225|24=>226|14=>217|15=>218|16=>219|17=>220|18=>221|19=>222|20=>183|21=>223|22=>224|25=>261|26=>262|27=>263|28=>264|29=>265|30=>180|31=>285|n=>n,fun|26=>9|28=>213|24=>103|0=>0|3=>3|37=>202|48=>203|50=>208|4=>4|40=>292|39=>291|45=>216|5=>5|9=>9|51=>321|55=>325|57=>350|58=>351|33=>127|n=>n,fun|n=>n⟩
theorem Tryz.XJ:Go.Proofs.SlLaysZ.n6 Tryz.prog Tryz.wC:={
 mixed:=by kernel_rfl
 f6:=⟨Tryz.f144.name,by decide,Tryz.func144.trans (congrArg some ae)⟩
 f8:=⟨Tryz.f181.name,by decide,Tryz.func181.trans (congrArg some ae)⟩
 f11:=⟨Tryz.f216.name,by decide,Tryz.func216.trans (congrArg some ae)⟩
 t0:=Tryz.underlying0
 a0:=Tryz.isAgg0
 z0:=Tryz.sizeOf0
 v0:=Tryz.zeroValue0
 t24:=Tryz.underlying103
 a24:=Tryz.isAgg103
 z24:=Tryz.sizeOf103
 v24:=Tryz.zeroValue103
 t26:=Tryz.underlying9
 a26:=Tryz.isAgg9
 z26:=Tryz.sizeOf9
 v26:=Tryz.zeroValue9
 t28:=Tryz.underlying213
 a28:=Tryz.isAgg213
 z28:=Tryz.sizeOf213
 v28:=Tryz.zeroValue213
 i26:=by kernel_rfl }
def Tryz.XH:Go.Shelf.Ren:=⟨fun|6=>149|8=>186|9=>185|19=>225|20=>226|21=>217|22=>218|23=>219|24=>220|25=>221|26=>222|27=>183|28=>223|29=>224|36=>261|31=>262|32=>263|37=>264|38=>265|39=>180|41=>285|n=>n,fun|27=>103|29=>9|3=>3|32=>202|26=>103|0=>0|44=>203|46=>208|4=>4|36=>292|35=>291|41=>216|5=>5|9=>9|53=>321|57=>325|63=>350|64=>351|n=>n,fun|n=>n⟩
theorem Tryz.tA:Go.Proofs.SlLaysM.n6 Tryz.prog Tryz.XH:={
 mixed:=by kernel_rfl
 f6:=⟨Tryz.f149.name,by decide,Tryz.func149.trans (congrArg some ae)⟩
 f8:=Tryz.func186.trans (congrArg some ae)
 f9:=⟨Tryz.f185.name,by decide,Tryz.func185.trans (congrArg some ae)⟩
 f19:=Tryz.func225.trans (congrArg some ae)
 f20:=Tryz.func226.trans (congrArg some ae)
 f21:=⟨Tryz.f217.name,by decide,Tryz.func217.trans (congrArg some ae)⟩
 f22:=⟨Tryz.f218.name,by decide,Tryz.func218.trans (congrArg some ae)⟩
 f23:=⟨Tryz.f219.name,by decide,Tryz.func219.trans (congrArg some ae)⟩
 f24:=⟨Tryz.f220.name,by decide,Tryz.func220.trans (congrArg some ae)⟩
 f25:=⟨Tryz.f221.name,by decide,Tryz.func221.trans (congrArg some ae)⟩
 f26:=⟨Tryz.f222.name,by decide,Tryz.func222.trans (congrArg some ae)⟩
 f27:=⟨Tryz.f183.name,by decide,Tryz.func183.trans (congrArg some ae)⟩
 f28:=⟨Tryz.f223.name,by decide,Tryz.func223.trans (congrArg some ae)⟩
 f29:=⟨Tryz.f224.name,by decide,Tryz.func224.trans (congrArg some ae)⟩
 f31:=Tryz.func262.trans (congrArg some ae)
 f32:=Tryz.func263.trans (congrArg some ae)
 f36:=⟨Tryz.f261.name,by decide,Tryz.func261.trans (congrArg some ae)⟩
 f37:=⟨Tryz.f264.name,by decide,Tryz.func264.trans (congrArg some ae)⟩
 f38:=⟨Tryz.f265.name,by decide,Tryz.func265.trans (congrArg some ae)⟩
 f39:=⟨Tryz.f180.name,by decide,Tryz.func180.trans (congrArg some ae)⟩
 f41:=⟨Tryz.f285.name,by decide,Tryz.func285.trans (congrArg some ae)⟩
 t0:=Tryz.underlying0
 a0:=Tryz.isAgg0
 z0:=Tryz.sizeOf0
 v0:=Tryz.zeroValue0
 t3:=Tryz.underlying3
 a3:=Tryz.isAgg3
 z3:=Tryz.sizeOf3
 v3:=Tryz.zeroValue3
 t4:=Tryz.underlying4
 a4:=Tryz.isAgg4
 z4:=Tryz.sizeOf4
 v4:=Tryz.zeroValue4
 t5:=Tryz.underlying5
 a5:=Tryz.isAgg5
 z5:=Tryz.sizeOf5
 v5:=Tryz.zeroValue5
 t9:=Tryz.underlying9
 a9:=Tryz.isAgg9
 z9:=Tryz.sizeOf9
 v9:=Tryz.zeroValue9
 t26:=Tryz.underlying103
 a26:=Tryz.isAgg103
 z26:=Tryz.sizeOf103
 v26:=Tryz.zeroValue103
 t27:=Tryz.underlying103
 a27:=Tryz.isAgg103
 z27:=Tryz.sizeOf103
 v27:=Tryz.zeroValue103
 t29:=Tryz.underlying9
 a29:=Tryz.isAgg9
 z29:=Tryz.sizeOf9
 v29:=Tryz.zeroValue9
 t32:=Tryz.underlying202
 a32:=Tryz.isAgg202
 z32:=Tryz.sizeOf202
 v32:=Tryz.zeroValue202
 t35:=Tryz.underlying291
 a35:=Tryz.isAgg291
 z35:=Tryz.sizeOf291
 v35:=Tryz.zeroValue291
 t36:=Tryz.underlying292
 a36:=Tryz.isAgg292
 z36:=Tryz.sizeOf292
 v36:=Tryz.zeroValue292
 t41:=Tryz.underlying216
 a41:=Tryz.isAgg216
 z41:=Tryz.sizeOf216
 v41:=Tryz.zeroValue216
 t44:=Tryz.underlying203
 a44:=Tryz.isAgg203
 z44:=Tryz.sizeOf203
 v44:=Tryz.zeroValue203
 t46:=Tryz.underlying208
 a46:=Tryz.isAgg208
 z46:=Tryz.sizeOf208
 v46:=Tryz.zeroValue208
 t53:=Tryz.underlying321
 a53:=Tryz.isAgg321
 z53:=Tryz.sizeOf321
 v53:=Tryz.zeroValue321
 t57:=Tryz.underlying325
 a57:=Tryz.isAgg325
 z57:=Tryz.sizeOf325
 v57:=Tryz.zeroValue325
 t63:=Tryz.underlying350
 a63:=Tryz.isAgg350
 z63:=Tryz.sizeOf350
 v63:=Tryz.zeroValue350
 t64:=Tryz.underlying351
 a64:=Tryz.isAgg351
 z64:=Tryz.sizeOf351
 v64:=Tryz.zeroValue351 }
end Go.Proofs
end
section
namespace Go.Proofs.YthoonfpkfdjhiaaGreatDoor
open Go Go.az Go.RowKit Go.Bk
theorem Zs{im:Im}(a b:Value):aT im (.ax [.v a,.v b]) (.tuple #[a,b]):= .ax [_,_] [_,_] rfl (fun i c u h1 h2=>by
 match i with
 |0=>simp at h1 h2;subst h1;subst h2;exact .v _
 |1=>simp at h1 h2;subst h1;subst h2;exact .v _
 |i+2=>simp at h1)
theorem Tu(x y:Nat)(hx:x<18446744073709551616)(hy:y<18446744073709551616):ai E 247 [.v (.int .u64 x),.v (.int .u64 y)] (fun r t=>r= .ax [.v (.int .u64 ((x*y/18446744073709551616:Nat):Int)),.v (.int .u64 ((x*y%18446744073709551616:Nat):Int))]∧t=[]):=
 ai.vD (E:=E) (f:=247) (xs:=[.int .u64 x,.int .u64 y]) (S:=fun v=>v= .tuple #[.int .u64 ((x*y/18446744073709551616:Nat):Int),.int .u64 ((x*y%18446744073709551616:Nat):Int)])
  (fun w _=>(Tryz.bits_Mul64 x y hx hy w).mono (by rintro e w' ⟨rfl,rfl⟩;exact⟨⟨_,rfl,rfl⟩,rfl⟩))
  (by rintro v rfl;exact⟨_,fun _=>Zs _ _,rfl,rfl⟩)
section
variable{a b:Int}
theorem Tv(h:dZ a=false):fY a b=(0,false):=by unfold fY;simp[h]
theorem Tw(h:dZ b=false):fY a b=(0,false):=by unfold fY;simp[h]
theorem Af:(a*b).natAbs=a.natAbs*b.natAbs:=Int.natAbs_mul a b
theorem Ah(h:¬((a.natAbs*b.natAbs/18446744073709551616:Nat):Int)=0∨(4611686018427387904:Int)<((a.natAbs*b.natAbs%18446744073709551616:Nat):Int)):fY a b=(0,false):=by
 have hm:dZ (a*b)=false:=by
  rw[Uc];rw[←Af] at h;omega
 unfold fY;simp[hm]
theorem Ag:((a.natAbs*b.natAbs:Nat):Int)=(a.natAbs:Int)*(b.natAbs:Int):=Int.natCast_mul _ _
theorem mul_neg(c:¬decide (a<0)=decide (b<0)):a*b= -((a.natAbs*b.natAbs:Nat):Int):=by
 rw[Ag]
 by_cases h1:a<0<;>by_cases h2:b<0
 ·simp[h1,h2] at c
 ·rw[show(a.natAbs:Int)= -a by omega,show(b.natAbs:Int)=b by omega,Int.neg_mul,Int.neg_neg]
 ·rw[show(a.natAbs:Int)=a by omega,show(b.natAbs:Int)= -b by omega,Int.mul_neg,Int.neg_neg]
 ·simp[h1,h2] at c
theorem Tx(c:decide (a<0)=decide (b<0)):a*b=((a.natAbs*b.natAbs:Nat):Int):=by
 rw[Ag]
 by_cases h1:a<0<;>by_cases h2:b<0
 ·rw[show(a.natAbs:Int)= -a by omega,show(b.natAbs:Int)= -b by omega,Int.neg_mul,Int.mul_neg,Int.neg_neg]
 ·simp[h1,h2] at c
 ·simp[h1,h2] at c
 ·rw[show(a.natAbs:Int)=a by omega,show(b.natAbs:Int)=b by omega]
variable(ha:dZ a=true)(hb:dZ b=true)(h:((a.natAbs*b.natAbs/18446744073709551616:Nat):Int)=0)(h2:¬(4611686018427387904:Int)<((a.natAbs*b.natAbs%18446744073709551616:Nat):Int))
include ha hb h h2
theorem sR:fY a b=(a*b,true):=by
 have:dZ (a*b)=true:=by
  rw[pE];rw[←Af] at h h2;omega
 unfold fY;rw[ha,hb,this];rfl
theorem Ty(c:¬decide (a<0)=decide (b<0)):IntKind.i64.wrap (0-IntKind.i64.wrap ((a.natAbs*b.natAbs%18446744073709551616:Nat):Int))=(fY a b).1:=by
 rw[sR ha hb h h2,mul_neg c]
 generalize a.natAbs*b.natAbs=p at *
 rw[aN (x:=((p%18446744073709551616:Nat):Int)) ab ab,aN ab ab];simp only[];omega
theorem Tz(c:decide (a<0)=decide (b<0)):IntKind.i64.wrap ((a.natAbs*b.natAbs%18446744073709551616:Nat):Int)=(fY a b).1:=by
 rw[sR ha hb h h2,Tx c]
 generalize a.natAbs*b.natAbs=p at *
 rw[aN ab ab];simp only[];omega
end
section
variable{l:List Int}{i:Nat}(hl:l.length≤1000000)(hi:¬(i:Int)<l.length)(hi2:i≤l.length)(ha:(l.take i).all dZ=true)
include hl hi ha
end
theorem Av(n:Int):ai E 115 [i64 n] (fun r t=>r=bl (dZ n)∧t=[]):=by
 refine ai.aC (n:=9) (rs:=[.tmp 2]) Tryz.func115 rfl Tryz.ntmps115 rfl ?_
 repeat'(first
 |refine aa.ah fun K hK=>?_
 |(refine aa.region ?_;simp only[go_sem])
 |(refine hK _ ?_;clear hK K)
 |(refine aP.split (fun h=>?_) (fun h=>?_)<;>simp only[h,go_sem]<;>(try simp only[dD] at h))
 |(
  refine aa.ret ?_
  refine aM.is ?_;simp only[go_sem,aI,aH,aG,aK,aJ,aL]<;>(simp[dZ, *]<;>omega)))
theorem Ub(n:Int)(h:dZ n=true):ai E 248 [i64 n] (fun r t=>r= .v (.int .u64 (n.natAbs:Int))∧t=[]):=by
 have hb:=pE.1 h
 refine ai.aC (n:=9) (rs:=[.tmp 2]) Tryz.func248 rfl Tryz.ntmps248 rfl ?_
 repeat'(first
 |refine aa.ah fun K hK=>?_
 |(refine aa.region ?_;simp only[go_sem])
 |(refine hK _ ?_;clear hK K)
 |refine aa.cond rfl (fun c=>?_) (fun c=>?_)<;>(try simp only[dD] at c)
 |refine aa.skip ?_
 |(
  refine aa.ret ?_
  refine aM.is ?_;simp only[go_sem,aI,aH,aG,aK,aJ,aL]<;>(first|(rw[Cz];unfold tP;rw[aN ab ab];omega)|(rw[Cz];unfold tP;omega))))
theorem TR(a b:Int):ai E 205 [i64 a,i64 b] (fun r t=>r= .ax [i64 (fY a b).1,bl (fY a b).2]∧t=[]):=by
 refine ai.aC (n:=41) (rs:=[.tmp 4,.tmp 5]) Tryz.func205 rfl Tryz.ntmps205 rfl ?_
 repeat'(first
 |refine aa.ah fun K hK=>?_
 |(refine aa.region ?_;simp only[go_sem])
 |(refine hK _ ?_;clear hK K)
 |refine aa.cond rfl (fun c=>?_) (fun c=>?_)<;>first|exact Bool.noConfusion c|(try simp only[dD] at c)
 |refine aa.skip ?_
 |(refine ak.one (Av _) ae rfl ?_;simp only[go_sem])
 |(refine ak.one (Ub _ af) ae rfl ?_;simp only[go_sem])
 |(have ha:=pE.1 (show dZ a=true by assumption);have hb:=pE.1 (show dZ b=true by assumption);refine ak.one (Tu a.natAbs b.natAbs ab ab) ae rfl ?_;simp only[go_sem])
 |(refine aP.split (fun h=>?_) (fun h=>?_)<;>simp only[h,go_sem]<;>(try simp only[dD] at h))
 |(
  refine aa.ret ?_
  refine aM.is ?_;simp only[go_sem,aI,aH,aG,aK,aJ,aL]<;>(first
  |(rw[Tv af];simp;done)
  |(rw[Tw af];simp;done)
  |(rw[Ah (.inl af)];simp;done)
  |(rw[Ah (.inr af)];simp;done)
  |(rw[Ty af af af af af,sR af af af af];simp;done)
  |(rw[Tz af af af af af,sR af af af af];simp;done))))
end Go.Proofs.YthoonfpkfdjhiaaGreatDoor
end
section
namespace Go.Proofs
open Go.RowKit Go.Maps Go.Sort Go.Shelf
variable{P:Program}{ρ:Ren}
def nh{α:Type}(F:Fence)(n:Nat)(P:Program)(g:Nat)(lb:Array Value)(enc:α→Value)(S:List α→Prop)(N:Nat)(w:World):Prop:=
 ∀(l:Nat) (J:List α→World→Prop) (W:World),Below w.heap.size w W→AbidesFrom W.heap.size J→(∀pre W1,J pre W1→Below w.heap.size w W1)→
  (∀pre x W1,J pre W1→pre.length<N→YieldAt F (n-1) P l #[enc x] W1 fun e W'=>e= .returned (.bool true)∧J (pre++[x]) W'∧KeepsWalks W1 W')→
  J [] W→CallsIn F n P g (#[.func (.yield l) #[] #[]]++lb) W fun e W'=>(∃v,e= .returned v)∧∃xs,S xs∧J xs W'
theorem nh.upto{α:Type}{F:Fence}{n:Nat}{P:Program}{g:Nat}{lb:Array Value}{enc:α→Value}{S:List α→Prop}{N:Nat}{w:World}
 (h:nh F n P g lb enc S N w):nh F n P g lb enc (fun xs=>S xs∧xs.length≤N) N w:=fun l J W hW hJ hB hY h0=>by
 refine(h l (fun xs W'=>J xs W'∧xs.length≤N) W hW (fun s A B row hs hg hr=>⟨hJ s A B row hs.1 hg hr,hs.2⟩) (fun pre W1 hj=>hB pre W1 hj.1)
  (fun pre x W1 hj hl=>(hY pre x W1 hj.1 hl).mono (fun e w' hr=>⟨hr.1,⟨hr.2.1,by simp;omega⟩,hr.2.2⟩)) ⟨h0,Nat.zero_le _⟩).mono ?_
 rintro e W' ⟨hv,xs,hS,hJ',hlen⟩
 exact⟨hv,xs,⟨hS,hlen⟩,hJ'⟩
set_option maxRecDepth 100000 in
theorem Sq.DG(L:SlLaysZ.n11 P ρ)(F:Fence)(n:Nat)(h11:F.fn (ρ.f 11))(hro:F.round=none)(hn:2≤n)(g:Nat)(lb:Array Value)(hFg:F.fn g)(eg:∀args w,(callFunc g args).run P w= .ok (.enter g args) w)
 (S:List (List UInt8)→Prop) (N:Nat) (hN:N≤maxLen) (hNb:N*16≤140737488355328) (w:World) (hseq:nh F (n-1) P g lb encStr S N w):
 CallsIn F n P (ρ.f 11) #[.slice none 0 0,.func (.func g) #[] lb] w fun e w'=>∃(v:Value) (ss:List (List UInt8)),e= .returned v∧S ss∧w'.ownsRow w.heap.size (ρ.t 26) 1 v ss.length (ss.map encStr)∧(v= .slice none 0 0↔ss=[])∧Below w.heap.size w w':=by
 have h1:1≤n:=by omega
 have mixed:=L.mixed;have t0:=L.t0;have a0:=L.a0;have z0:=L.z0;have v0:=L.v0;have t24:=L.t24;have a24:=L.a24;have z24:=L.z24;have v24:=L.v24;have t26:=L.t26;have a26:=L.a26;have z26:=L.z26;have v26:=L.v26;have t28:=L.t28;have a28:=L.a28;have z28:=L.z28;have v28:=L.v28
 have hne:ρ.t 24≠ρ.t 26:=fun e=>by have h:=L.t24;rw[e,L.t26] at h;cases h
 have u0:=run_underlying L.t0;have u24:=run_underlying L.t24;have u26:=run_underlying L.t26;have u28:=run_underlying L.t28
 obtain⟨_,_,FG⟩:=L.f11
 refine callsIn_of_wp_marks FG rfl h11 ?_ hro
 simp only[SlBodyZ.n11_ntmps ρ,List.size_toArray,List.length_cons,List.length_nil,Nat.reduceAdd,Nat.reduceSub,Array.replicate_succ,Array.replicate_zero,List.push_toArray,List.append_toArray,List.nil_append,List.cons_append]
 gi_wp2
 refine wpIn_rangeFunc ?_
 intro fn hfn
 rw[hro]
 obtain⟨W0,hW0⟩:∃W0,w.alloc (.cells #[.slice none 0 0] (ρ.t 24))=W0:=⟨_,rfl⟩
 have hs0:W0.heap.size=w.heap.size+1:=by rw[←hW0];simp
 have hv0:W0.heap[w.heap.size]?=some (.cells #[.slice none 0 0] (ρ.t 24) (0,0)):=by rw[←hW0];exact World.alloc_heap_new w _
 have hb0:Below w.heap.size w W0:=by rw[←hW0];exact(Below.refl _ w).alloc (Nat.le_refl _) _
 rw[hW0]
 obtain⟨W1,hW1⟩:∃W1,(W0.alloc (.deferred (some []))).alloc (.loop (AnyZ.apRec ρ fn (.func (.func g) #[] lb) w.heap.size W0.heap.size .ready none))=W1:=⟨_,rfl⟩
 have hold:∀k,k<W0.heap.size→W1.heap[k]?=W0.heap[k]?:=fun k hk=>by
  rw[←hW1];exact(Below.heap_alloc _ _ k (by simp;omega)).trans (Below.heap_alloc _ _ k hk)
 have hb1:Below w.heap.size w W1:=by rw[←hW1];exact(hb0.alloc hb0.size _).alloc (by have:=hb0.size;simp;omega) _
 have hs1:W1.heap.size=W0.heap.size+2:=by rw[←hW1];simp
 have hM:AnyZ.ApAt ρ w fn (.func (.func g) #[] lb) w.heap.size (W0.heap.size+1) W0.heap.size [] W1:=
  ⟨⟨_,(hold w.heap.size ab).trans hv0,⟨rfl,.inl ⟨rfl,rfl⟩⟩,by simp⟩,
   by rw[←hW1];have:=World.alloc_heap_new (W0.alloc (.deferred (some []))) (.loop (AnyZ.apRec ρ fn (.func (.func g) #[] lb) w.heap.size W0.heap.size .ready none));rwa[World.size_alloc] at this,
   by rw[←hW1];exact(Below.heap_alloc _ _ _ aB).trans (World.alloc_heap_new W0 _),hb1⟩
 refine⟨W0.heap.size+1,[{ target:= .collected W0.heap.size,args:=#[] }],W1,{ target:= .fn (.func g) lb,args:=#[.func (.yield (W0.heap.size+1)) #[] #[]] },W1,g,
  #[.func (.yield (W0.heap.size+1)) #[] #[]]++lb,W1,?_,?_,?_,?_,fun _=>h1,?_⟩
 ·rw[←hW1];exact run_enterLoop_outer _ _ _ _ _
 ·simp[resolve,go_sem]
 ·intro f' hf';simp[Target.leads] at hf';subst hf';exact hFg
 ·simp[invoke,go_sem,eg]
 ·refine(hseq (W0.heap.size+1) (AnyZ.ApAt ρ w fn (.func (.func g) #[] lb) w.heap.size (W0.heap.size+1) W0.heap.size) W1 hb1 (AnyZ.ap_abides ρ _ _ _ _ _ _ _ hb1.size) (fun pre W hJ=>hJ.below)
   (fun pre x W hJ hl=>AnyZ.apYield { L with } F (n-1-1) w fn hfn _ w.heap.size (W0.heap.size+1) W0.heap.size ab ab ab (Nat.le_refl _) ab N hN hNb pre x W hJ hl) hM).mono ?_
  rintro e W2 ⟨⟨v0,rfl⟩,ss,hS,h2⟩
  obtain⟨v,hv,hrow,hnil⟩:=h2.box
  have hend:=run_endLoop (P:=P) h2.L (by simp[AnyZ.apRec])
  obtain⟨W3,hW3⟩:∃W3,W2.putObj (W0.heap.size+1) (.loop { AnyZ.apRec ρ fn (.func (.func g) #[] lb) w.heap.size W0.heap.size .ready none with state:= .exhausted })=W3:=⟨_,rfl⟩
  rw[hW3] at hend
  have hg3:W2.grownBy W3 (some (W0.heap.size+1)):=by rw[←hW3];exact grownBy_putObj_a _ _ _
  have hv3:W3.heap[w.heap.size]?=some (.cells #[v] (ρ.t 24) (0,0)):=by rw[←hW3];exact(World.putObj_heap_other ab).trans hv
  have hK3:W3.heap[W0.heap.size]?=some (.deferred (some [])):=by rw[←hW3];exact(World.putObj_heap_other ab).trans h2.K
  have hrow3:=hrow.kept hg3 (ownsRow_ne_a hrow h2.L (fun cur e=>by first|cases e|exact hne (Obj.cells.inj e).2.1))
  have hb3:Below w.heap.size w W3:=h2.below.grown hg3 h2.below.size (fun k e=>by cases e;omega)
  obtain⟨hc3,hf3⟩:=cell_of_box_a hv3
  clear hW3
  refine⟨none,W3,hend,?_⟩
  gi_wp2
  rw[←hs0]
  refine⟨by simp,.inl ⟨_,_,rfl,run_takeDeferred hK3,?_⟩⟩
  exact⟨_,results_tmp rfl _ _ _,v,ss,rfl,hS,hrow3.kept (grownBy_putObj_a _ _ _) (ownsRow_ne_a hrow3 hK3 (fun cur e=>by first|cases e|exact hne (Obj.cells.inj e).2.1)),hnil,hb3.grown (grownBy_putObj_a _ _ _) hb3.size (fun k e=>by cases e;omega)⟩
theorem Sq.Kl(L:SlLaysZ.n8 P ρ)(F:Fence)(n:Nat)(h8:F.fn (ρ.f 8))(h11:F.fn (ρ.f 11))(hro:F.round=none)(hn:3≤n)(g:Nat)(lb:Array Value)(hFg:F.fn g)(eg:∀args w,(callFunc g args).run P w= .ok (.enter g args) w)
 (S:List (List UInt8)→Prop) (N:Nat) (hN:N≤maxLen) (hNb:N*16≤140737488355328) (w:World) (hseq:nh F (n-1-1) P g lb encStr S N w):
 CallsIn F n P (ρ.f 8) #[.func (.func g) #[] lb] w fun e w'=>∃(v:Value) (ss:List (List UInt8)),e= .returned v∧S ss∧w'.ownsRow w.heap.size (ρ.t 26) 1 v ss.length (ss.map encStr)∧(v= .slice none 0 0↔ss=[])∧Below w.heap.size w w':=by
 have h1:1≤n:=by omega
 have e11:∀args w,(callFunc (ρ.f 11) args).run P w= .ok (.enter (ρ.f 11) args) w:=L.f11.enters rfl
 have mixed:=L.mixed;have t0:=L.t0;have a0:=L.a0;have z0:=L.z0;have v0:=L.v0;have t24:=L.t24;have a24:=L.a24;have z24:=L.z24;have v24:=L.v24;have t26:=L.t26;have a26:=L.a26;have z26:=L.z26;have v26:=L.v26;have t28:=L.t28;have a28:=L.a28;have z28:=L.z28;have v28:=L.v28
 have u0:=run_underlying L.t0;have u24:=run_underlying L.t24;have u26:=run_underlying L.t26;have u28:=run_underlying L.t28
 obtain⟨_,_,FG⟩:=L.f8
 refine callsIn_of_wp FG rfl h8 ?_ hro
 simp only[SlBodyZ.n8_ntmps ρ,List.size_toArray,List.length_cons,List.length_nil,Nat.reduceAdd,Nat.reduceSub,Array.replicate_succ,Array.replicate_zero,List.push_toArray,List.append_toArray,List.nil_append,List.cons_append]
 gi_wp2_with (gi_at_fn (ρ.f 11);refine(Sq.DG { L with } F (n-1) h11 hro ab g lb hFg eg S N hN hNb _ hseq).mono ?_;rintro e w' ⟨v,ss,rfl,hS,hrow,hnil,hb⟩)
 go_ret
 exact⟨v,ss,rfl,hS,hrow,hnil,hb⟩
set_option maxRecDepth 100000 in
theorem Sq.XK(L:SlLaysZ.n6 P ρ)(F:Fence)(n:Nat)(h6:F.fn (ρ.f 6))(h8:F.fn (ρ.f 8))(h9:F.fn (ρ.f 9))(h11:F.fn (ρ.f 11))(hro:F.round=none)(hn:4≤n)(hsort:AnyZ.SortsIn P ρ F (n-1))(e9:∀args w,(callFunc (ρ.f 9) args).run P w= .ok (.enter (ρ.f 9) args) w)(g:Nat)(lb:Array Value)(hFg:F.fn g)(eg:∀args w,(callFunc g args).run P w= .ok (.enter g args) w)
 (S:List (List UInt8)→Prop) (N:Nat) (hN:N≤maxLen) (hNb:N*16≤140737488355328) (w:World) (hseq:nh F (n-1-1-1) P g lb encStr S N w):
 CallsIn F n P (ρ.f 6) #[.func (.func g) #[] lb] w fun e w'=>∃(v:Value) (ss:List (List UInt8)),e= .returned v∧S ss∧
  w'.ownsRow w.heap.size (ρ.t 26) 1 v ss.length ((ss.mergeSort (fun x y=>decide (x≤y))).map encStr)∧(v= .slice none 0 0↔ss=[])∧Below w.heap.size w w':=by
 have h1:1≤n:=by omega
 have e8:∀args w,(callFunc (ρ.f 8) args).run P w= .ok (.enter (ρ.f 8) args) w:=L.f8.enters rfl
 have mixed:=L.mixed;have t0:=L.t0;have a0:=L.a0;have z0:=L.z0;have v0:=L.v0;have t24:=L.t24;have a24:=L.a24;have z24:=L.z24;have v24:=L.v24;have t26:=L.t26;have a26:=L.a26;have z26:=L.z26;have v26:=L.v26;have t28:=L.t28;have a28:=L.a28;have z28:=L.z28;have v28:=L.v28
 have u0:=run_underlying L.t0;have u24:=run_underlying L.t24;have u26:=run_underlying L.t26;have u28:=run_underlying L.t28
 obtain⟨_,_,FG⟩:=L.f6
 refine callsIn_of_wp FG rfl h6 ?_ hro
 simp only[SlBodyZ.n6_ntmps ρ,List.size_toArray,List.length_cons,List.length_nil,Nat.reduceAdd,Nat.reduceSub,Array.replicate_succ,Array.replicate_zero,List.push_toArray,List.append_toArray,List.nil_append,List.cons_append]
 gi_wp2_with (gi_at_fn (ρ.f 8);refine(Sq.Kl { L with } F (n-1) h8 h11 hro ab g lb hFg eg _ N hN hNb _ hseq.upto).mono ?_;rintro e W ⟨v,ss,rfl,⟨hS,hlen⟩,hrow,hnil,hb⟩)
 rcases hrow.2 with⟨rfl,hz⟩|⟨gb,cap,cur,rfl,hbase,hgb,r1,r2,r3,r4⟩
 ·
  have hss:ss=[]:=List.eq_nil_of_length_eq_zero hz
  subst hss
  gi_wp2_with (gi_at_fn (ρ.f 9);refine(hsort.2 none 0 W).mono ?_;rintro e w' ⟨rfl,rfl⟩)
  go_ret
  exact⟨.slice none 0 0,[],rfl,hS,by simpa using hrow,by simp,hb⟩
 ·have hH:Holds encStr W gb 0 ss.toArray:=holds_of_block hgb (by simpa using r4)
  have hgl:gb<W.heap.size:=(Array.getElem?_eq_some_iff.1 hgb).1
  have hsz:ss.length<4611686018427387904:=by omega
  have cS:=hsort.1 gb 0 cap ss W hH hgl hsz
  gi_wp2_with (gi_at_fn (ρ.f 9);refine cS.mono ?_;rintro e w' ⟨rfl,nn,os,rfl⟩)
  go_ret
  exact⟨_,ss,rfl,hS,ownsRow_sorted aB hbase hgb r1 r2 r3,hnil,hb.grown (grownBy_sorted _) hb.size (fun j hj=>by cases hj;exact hbase)⟩
end Go.Proofs
namespace Go.az
open Go Go.RowKit Go.Sort Go.Proofs Go.Maps
theorem Rel.start{w:World}{im:Im}(E:Env)(hG:lr E im)(hok:∀(b o:Nat) (x:Value),im b o=some x→w.cell? ⟨b,o,none⟩=some x):
 Rel w ⟨im,[],E.dr⟩ ⟨[],[],im⟩ ⟨[],[],[],E.gl,none,[]⟩ { tmps:=#[],defers:=[] } w:=
 ⟨⟨rfl,fun b o hb=>by
    cases h:im b o with
    |none=>exact h
    |some x=>exact absurd (World.block_lt_of_cell? w ⟨b,o,none⟩ (hok b o x h)) (Nat.not_lt.2 hb)⟩,rfl,by simp,Below.refl _ _,.refl _,fun _ _ _=>rfl,hok,rfl,by simp,rfl,by simp,by simp,⟨by simp,by simp,by simp⟩,fun g cs h=>hG g cs h,⟨rfl,by simp⟩,fun l d i h=>by simp at h⟩
theorem ai.Uv{E:Env}{f:FuncId}{args:List AV}{R:AV→List Nat→Prop}
 (h:∀(w:World) (im:Im) (vs:List Value),E.ok w→lr E im→(∀(b o:Nat) (x:Value),im b o=some x→w.cell? ⟨b,o,none⟩=some x)→ji im args vs→Calls E.P f vs.toArray w fun e w'=>∃v,e= .returned v∧
   ∃c st a,Rel w ⟨im,[],E.dr⟩ c st a w'∧∃x,VR c x v∧∃sel y,fF st.tk.length sel=true∧oP sel x y∧R y (iW st.tk sel)):ai E f args R:=by
 intro w im vs hE hG hok hpw
 refine(h w im vs hE hG hok hpw).mono ?_
 rintro e w' ⟨v,rfl,c',st',a,r',x,hv,sel,y,h3,h4,h5⟩
 refine⟨v,y,fG c' sel,c'.im,rfl,r'.below,r'.c8,r'.dp,r'.ck,BM r' h3,AO r' h3 hv h4,?_⟩
 rw[th r' h3];exact h5
theorem FI{im:Im}{l:List (List UInt8)}{cs:List Value}(h:cs.take l.length=l.map encStr):Cells im 1 (l.map str) cs:=by
 refine⟨fun i e he=>?_,fun i e j c he hc=>?_⟩
 ·rw[List.getElem?_map] at he
  cases hl:l[i]? with
  |none=>simp[hl] at he
  |some b=>simp only[hl,Option.map_some,Option.some.injEq] at he;subst he;rfl
 ·rw[List.getElem?_map] at he
  cases hl:l[i]? with
  |none=>simp[hl] at he
  |some b=>
   simp only[hl,Option.map_some,Option.some.injEq] at he;subst he
   have hlt:i<l.length:=(List.getElem?_eq_some_iff.1 hl).1
   have h1:(cs.take l.length)[i]?=cs[i]?:=by rw[List.getElem?_take,if_pos hlt]
   cases j with
   |succ j=>simp[AV.leaves] at hc
   |zero=>
    simp only[AV.leaves,List.getElem?_cons_zero,Option.some.injEq] at hc;subst hc
    refine⟨encStr b,?_,.v _,rfl⟩
    rw[Nat.mul_one,Nat.add_zero,←h1,h]
    simp[hl]
theorem ai.Uw{E:Env}{f:FuncId}{args:List AV}{l:List (List UInt8)}{ty:TypeId}
 (h:∀(w:World) (im:Im) (vs:List Value),E.ok w→lr E im→(∀(b o:Nat) (x:Value),im b o=some x→w.cell? ⟨b,o,none⟩=some x)→ji im args vs→Calls E.P f vs.toArray w fun e w'=>∃v,e= .returned v∧
   w'.ownsRow w.heap.size ty 1 v l.length (l.map encStr)∧Go.RowKit.Below w.heap.size w w') (hdr:¬E.dr:=by exact fun h=>h):ai E f args (fun r t=>r= .sl (some 0) 1 (l.map str)∧t=[l.length]):=by
 refine ai.Uv fun w im vs hE hG hok hpw=>(h w im vs hE hG hok hpw).mono ?_
 rintro e w' ⟨v,rfl,hrow,hb0⟩
 have hb:Below E.dr w.heap.size w w':=⟨hb0,fun d=>absurd d hdr⟩
 have r0:=Rel.start E hG hok
 refine⟨v,rfl,?_⟩
 rcases hrow.2 with⟨rfl,hz⟩|⟨g,cap,cur,rfl,hbase,hg,h1,h2,h3,h4⟩
 ·have hl:l=[]:=List.eq_nil_of_length_eq_zero hz
  subst hl
  exact⟨_,_,_,r0.ext hb,.aw,.base .aw,[(false,1)],.sl (some 0) 1 [],rfl,rfl,rfl,rfl⟩
 ·obtain⟨c',hle,r1,hv⟩:=r0.qQ (k:=1) (cap:=cap) (es:=l.map str) (cs:=cur) hb hbase hg (.inl rfl) (by rw[h3];exact Nat.le_refl _) (by simpa using h1) (FI (by simpa using h4))
  rw[List.length_map] at hv r1
  refine⟨c',_,_,r1,_,hv,[(true,0)],.sl (some 0) 1 (l.map str),rfl,⟨rfl,rfl,rfl⟩,rfl,?_⟩
  simp[iW]
end Go.az
namespace Go.az
open Go Go.RowKit Go.Sort Go.Proofs Go.Maps
abbrev fH(l:List (List UInt8)):List (List UInt8):=l.mergeSort fun x y=>decide (x≤y)
theorem lX(l:List (List UInt8)):(fH l).length=l.length:=List.length_mergeSort l
theorem P2{w:World}{g n:Nat}{os:Array Obj}{d:Array (List UInt8)}{cur:Array Value}{e:TypeId}{fz:Nat×Nat}(hb:w.heap[g]?=some (.cells cur e fz)):
 (grow (putRow encStr (Sort.ahead w n) g 0 d) os).heap[g]?=some (.cells (putCells encStr 0 d cur) e fz):=by
 have hlt:=(Array.getElem?_eq_some_iff.1 hb).1
 rw[heap_grow_old _ _ (by simpa using hlt)]
 simp[putRow,mapBlock,Sort.ahead,Array.getElem?_modify,hb,onCells]
theorem ER{w:World}{B g n:Nat}{os:Array Obj}(d:Array (List UInt8)){w0:World}{D:Prop}(h:Below D B w0 w)(hg:B≤g)(hB:B≤w.heap.size):Below D B w0 (grow (putRow encStr (Sort.ahead w n) g 0 d) os):=
 h.grown (grownBy_sorted d) hB (fun j hj=>by cases hj;exact hg) (Nat.le_add_right _ _)
theorem al.XI{E:Env}{Q:Exit→St→Prop}{st:St}{ops:Array Oper}{rest:List Oper}{g:FuncId}{dst:Option Tmp}{f x:Operand}{tys:Array TypeId}{ty:TypeId}{pos:String}{after:Array Edge}
 (hc:ar E.P g=true) (he:st.ev f= .fn g [])
 (hsort:∀(aZ off cap:Nat) (ss:List (List UInt8)) (w:World),Holds encStr w aZ off ss.toArray→aZ<w.heap.size→ss.length<4611686018427387904→
   Calls E.P g #[.slice (some ⟨aZ,off,none⟩) ss.length cap] w fun e w'=>e= .returned (.tuple #[])∧∃n os,w'=grow (putRow encStr (Sort.ahead w n) aZ off (ss.mergeSort fun x y=>decide (x≤y)).toArray) os)
 (hnone:∀(p:Option Addr) (cap:Nat) (w:World),Calls E.P g #[.slice p 0 cap] w fun e w'=>e= .returned (.tuple #[])∧w'=w)
 {id cap:Nat} {l:List (List UInt8)} {sp:List AV} (hx:st.ev x= .mu id 1 0 l.length cap) (ho:st.own[id]?=some (some (l.map str++sp))) (hsz:l.length≤1000000)
 (h:al E ops rest Q (St.put { st with own:=st.own.set id (some ((fH l).map str++sp)) } dst (.ax []))):
 al E ops (⟨dst,.call ⟨.value f,#[x],tys⟩,ty,pos,after,none⟩::rest) Q st:=by
 refine al.Fx hc he fun w0 im0 cx a w vs h0 hG r hpw=>?_
 obtain⟨hn,hp⟩:=hpw
 obtain⟨v,rfl⟩:∃v,vs=[v]:=by
  match vs,hn with
  |[v],_=>exact⟨v,rfl⟩
 have hv:VR cx (.mu id 1 0 l.length cap) v:=by
  have:=hp 0 _ v rfl rfl
  rwa[←hx]
 have same:l=[]→{ st with own:=st.own.set id (some ((fH l).map str++sp)) }=st:=fun e=>by
  subst e
  have e1:st.own.set id (some ((fH []).map str++sp))=st.own:=by
   apply List.ext_getElem?
   intro j
   rw[List.getElem?_set]
   split
   ·rename_i hj;subst hj
    rw[if_pos (bO ho),ho];simp[fH]
   ·rfl
  rw[e1]
 rcases hv.cW with⟨b,hb,hcap,rfl⟩|⟨hl,rfl,rfl⟩
 ·rcases Nat.eq_zero_or_pos l.length with hz|hz
  ·have hl:l=[]:=List.eq_nil_of_length_eq_zero hz
   subst hl
   refine(hnone _ cap w).mono ?_
   rintro e w' ⟨rfl,rfl⟩
   exact⟨_,rfl,cx,st,.ax [],r,.ax [] [] rfl aB,by rw[same rfl] at h;exact h⟩
  ·have hOK:=r.own id b 1 _ hb ho
   obtain⟨cs,te,lo,hi,hblk,hfr,hsize,hlv,hcell⟩:=hOK.aZ
   have hget:∀j,j<l.length→cs[j]?=some (encStr l[j]!):=fun j hj=>by
    have e1:(l.map str++sp)[j]?=some (str l[j]!):=by
     rw[List.getElem?_append_left (by simpa using hj)]
     simp[hj]
    obtain⟨v,hv,hvr,_⟩:=hcell j _ 0 _ e1 rfl
    rw[hvr.bc] at hv
    simpa using hv
   have hH:Holds encStr w b 0 l.toArray:=fun j hj=>by
    have hj':j<l.length:=by simpa using hj
    have e2:=hget j hj'
    have hlt:j<cs.size:=(Array.getElem?_eq_some_iff.1 e2).1
    constructor
    ·simp only[World.cell?,hblk,Nat.zero_add,e2]
     try simp[hj']
    ·simp only[World.frozen?,hblk,Nat.zero_add]
     rcases hfr with rfl|hfr
     ·first|(simp;done)|(simp;omega)
     ·first|(simp;done)|(simp;omega)
   have hbs:b<w.heap.size:=r.kL hb ho
   rw[Nat.zero_mul]
   refine(hsort b 0 cap l w hH hbs ab).mono ?_
   rintro e w' ⟨rfl,n,os,rfl⟩
   refine⟨_,rfl,cx,{ st with own:=st.own.set id (some ((fH l).map str++sp)) },.ax [],?_,.ax [] [] rfl aB,h⟩
   obtain⟨w1,hw1⟩:∃w1,putRow encStr (Sort.ahead w n) b 0 (l.mergeSort fun x y=>decide (x≤y)).toArray=w1:=⟨_,rfl⟩
   have hw1':grow w1 #[]=w1:=grow_empty w1
   have hsz1:w1.heap.size=w.heap.size:=by rw[←hw1];simp[putRow,mapBlock,Sort.ahead]
   have r1:Rel w0 im0 cx { st with own:=st.own.set id (some ((fH l).map str++sp)) } a w1:=by
    refine r.oB hb ho (fun d hd=>?_) ?_ ?_
    ·rw[←hw1]
     simp[putRow,mapBlock,Sort.ahead,Array.getElem?_modify,Ne.symm hd]
    ·rw[←hw1',←hw1]
     exact ER _ r.below hOK.new r.below.size
    ·refine⟨_,te,lo,hi,(by rw[←hw1',←hw1];exact P2 hblk),?_,?_,?_,?_⟩
     ·simpa[putCells] using hfr
     ·simp only[List.length_append,List.length_map,lX] at hsize ⊢
      simpa[putCells] using hsize
     ·intro i e he
      rcases qD _ _ _ _ he with⟨h1,h2⟩|⟨h1,h2⟩
      ·rw[List.getElem?_map] at h2
       cases hq:(fH l)[i]? with
       |none=>simp[hq] at h2
       |some z=>simp only[hq,Option.map_some,Option.some.injEq] at h2;subst h2;rfl
      ·refine hlv i e ?_
       rw[List.length_map,lX] at h1 h2
       rw[List.getElem?_append_right (by rw[List.length_map];exact h1),List.length_map];exact h2
     ·intro i e j y he hy
      rcases qD _ _ _ _ he with⟨h1,h2⟩|⟨h1,h2⟩
      ·rw[List.length_map,lX] at h1
       rw[List.getElem?_map] at h2
       cases hq:(fH l)[i]? with
       |none=>simp[hq] at h2
       |some z=>
        simp only[hq,Option.map_some,Option.some.injEq] at h2;subst h2
        cases j with
        |succ j=>simp[AV.leaves] at hy
        |zero=>
         simp only[AV.leaves,List.getElem?_cons_zero,Option.some.injEq] at hy;subst hy
         have hlt:i<cs.size:=(Array.getElem?_eq_some_iff.1 (hget i h1)).1
         refine⟨encStr z,?_,.base (.v _),.inr rfl⟩
         rw[Nat.mul_one,Nat.add_zero]
         have hz2:(l.mergeSort fun x y=>decide (x≤y))[i]?=some z:=hq
         have hi2:=bO hz2
         simp only[putCells,Array.getElem?_mapIdx,Array.getElem?_eq_getElem hlt,Option.map_some]
         rw[if_pos ⟨Nat.zero_le _,by simpa using hi2⟩]
         simp[hz2]
      ·have h3:(l.map str++sp)[i]?=some e:=by
        rw[List.length_map,lX] at h1 h2
        rw[List.getElem?_append_right (by rw[List.length_map];exact h1),List.length_map];exact h2
       obtain⟨v,hv,hvr,hv1⟩:=hcell i e j y h3 hy
       refine⟨v,?_,hvr,hv1⟩
       rw[List.length_map,lX] at h1
       have hlt:=(Array.getElem?_eq_some_iff.1 hv).1
       simp only[putCells,Array.getElem?_mapIdx,Array.getElem?_eq_getElem hlt,Option.map_some]
       have hns:¬(0≤i*1+j∧i*1+j<0+(l.mergeSort fun x y=>decide (x≤y)).toArray.size):=by
        have:(l.mergeSort fun x y=>decide (x≤y)).length=l.length:=List.length_mergeSort l
        simp only[List.size_toArray,this];omega
       rw[if_neg hns]
       rw[Array.getElem?_eq_getElem hlt] at hv;exact hv
   rw[hw1]
   exact r1.ext (w':=grow w1 os) ((Below.refl _ w1).grown (w':=grow w1 os) (row:=none) ⟨rfl,rfl,rfl,by simp[grow],fun k hk _=>heap_grow_old _ _ hk⟩ (Nat.le_refl _) (fun j hj=>by cases hj) (Nat.le_refl _))
 ·have hl:l=[]:=List.eq_nil_of_length_eq_zero hl
  subst hl
  refine(hnone _ 0 w).mono ?_
  rintro e w' ⟨rfl,rfl⟩
  exact⟨_,rfl,cx,st,.ax [],r,.ax [] [] rfl aB,by rw[same rfl] at h;exact h⟩
end Go.az
end
section
namespace Go.Proofs
open Go.RowKit Go.Shelf Go.Sort
attribute [local go_sem] Oper.semAt_some
theorem Tryz.aaV(zs:List (List UInt8)):(List.range zs.length).map (fun j=>zs[j]?.getD [])=zs:=by
 apply List.ext_getElem
 ·simp
 ·intro i h1 h2
  simp[h2]
theorem Tryz.aaX{α:Type}(f:Nat→α)(k:Nat):(List.range (k+1)).map f=(List.range k).map f++[f k]:=by simp[List.range_succ]
set_option maxRecDepth 100000 in
theorem Tryz.aaZ(F:Fence)(n:Nat)(h7:F.fn 182)(hro:F.round=none)(hn:1≤n)(l Bs bo b off len cap:Nat)(zs:List (List UInt8))(hreach:len*16≤140737488351232)(w:World)(hb:b<w.heap.size)(J:List (List UInt8)→World→Prop)(hJB:∀pre W1,J pre W1→Below w.heap.size w W1)
 (hY:∀pre x W,J pre W→pre.length<len→YieldAt F (n-1) Tryz.prog l #[encStr x] W fun e W'=>e= .returned (.bool true)∧J (pre++[x]) W'∧KeepsWalks W W')
 (W:World) (hBs:W.cell? ⟨Bs,bo,none⟩=some (.slice (some ⟨b,off,none⟩) len cap)) (hc:∀j,j<len→w.cell? ⟨b,off+j,none⟩=some (encStr (zs[j]?.getD []))) (h0:J [] W):
 CallsIn F n Tryz.prog 182 #[.func (.yield l) #[] #[],.pointer (some ⟨Bs,bo,none⟩)] W fun e W'=>(∃v,e= .returned v)∧J ((List.range len).map fun j=>zs[j]?.getD []) W':=by
 refine callsIn_of_wp Tryz.func182 rfl h7 ?_ hro
 simp only[Tryz.ntmps182,List.size_toArray,List.length_cons,List.length_nil,Nat.reduceAdd,Nat.reduceSub,Array.replicate_succ,Array.replicate_zero,List.push_toArray,List.append_toArray,List.nil_append,List.cons_append]
 gi_wp2
 gi_loopw [7] (fun i wr=>∃k:Nat,k≤len∧i= .int .i64 k∧J ((List.range k).map fun j=>zs[j]?.getD []) wr)
  (fun i _=>len-(intOf i).toNat)
 case atStart=>exact⟨0,Nat.zero_le _,rfl,h0⟩
 case round=>
  obtain⟨k,hk,rfl,hJs⟩:=hrel
  have hcx:k<len→wr.cell? ⟨b,off+k,none⟩=some (encStr (zs[k]?.getD [])):=fun h=>((hJB _ _ hJs).cell (p:=⟨b,off+k,none⟩) hb).trans (hc k h)
  by_cases hlt:k<len
  ·obtain⟨fn,tmps,assign,body,hy,hR⟩:=hY _ (zs[k]?.getD []) wr hJs (by simpa using hlt)
   have hcx':=hcx hlt
   dsimp only[encStr] at hy hcx'
   gi_wp2
   refine hR.mono ?_
   rintro e W3 ⟨rfl,hJ3,hk3⟩
   gi_wp2
   go_roundw
   case rel=>exact⟨k+1,by omega,by simp,by rw[Tryz.aaX];exact hJ3⟩
   case measure=>simp[intOf];omega
  ·obtain rfl:k=len:=by omega
   gi_wp2
   go_end0
   exact⟨⟨_,rfl⟩,hJs⟩
set_option maxRecDepth 100000 in
theorem Tryz.CE(F:Fence)(n:Nat)(h7:F.fn 182)(hro:F.round=none)(l Bs bo cap:Nat)(a:Option Addr)(J:List (List UInt8)→World→Prop)(W:World)(hBs:W.cell? ⟨Bs,bo,none⟩=some (.slice a 0 cap))(h0:J [] W):
 CallsIn F n Tryz.prog 182 #[.func (.yield l) #[] #[],.pointer (some ⟨Bs,bo,none⟩)] W fun e W'=>(∃v,e= .returned v)∧J [] W':=by
 refine callsIn_of_wp Tryz.func182 rfl h7 ?_ hro
 simp only[Tryz.ntmps182,List.size_toArray,List.length_cons,List.length_nil,Nat.reduceAdd,Nat.reduceSub,Array.replicate_succ,Array.replicate_zero,List.push_toArray,List.append_toArray,List.nil_append,List.cons_append]
 gi_wp2
 gi_loopw [7] (fun i wr=>i= .int .i64 0∧J [] wr) (fun _ _=>0)
 case atStart=>exact⟨rfl,h0⟩
 case round=>
  obtain⟨rfl,hJs⟩:=hrel
  gi_wp2
  go_end0
  exact⟨⟨_,rfl⟩,hJs⟩
theorem Tryz.XM(m:Nat):AnyZ.SortsIn Tryz.prog Tryz.wC Fence.wide m:=
 ⟨fun aZ off cap ss W hH hblk hsz=>callsIn_wide.2 (AnyM.slices_Sort_string Tryz.tA aZ off cap ss W hH hblk hsz),
  fun p cap W=>callsIn_wide.2 (AnyM.slices_Sort_string_none Tryz.tA p cap W)⟩
end Go.Proofs
namespace Go.Proofs.YthoonfpkfdjhiaaGreatDoor
open Go Go.az Go.RowKit Go.Bk Go.Sort Go.Shelf
abbrev fH(l:List Bs):List Bs:=l.mergeSort fun x y=>decide (x≤y)
theorem XL(l:List Bs)(hl:l.length≤1000000):ai E 144 [.fn 182 [.bQ [.sl none 1 (l.map str)]]] (fun r t=>r= .sl (some 0) 1 ((fH l).map str)∧t=[(fH l).length]):=by
 refine ai.Uw (ty:=Tryz.wC.t 26) fun w im vs hE hG hok hpw=>?_
 obtain⟨hn,hp⟩:=hpw
 obtain⟨v,rfl⟩:∃v,vs=[v]:=by
  match vs,hn with
  |[v],_=>exact⟨v,rfl⟩
 obtain⟨us,rfl,hn2,hp2⟩:=(VR.base (c:=⟨[],[],im⟩) (hp 0 _ v rfl rfl)).iq
 obtain⟨u,rfl⟩:∃u,us=[u]:=by
  match us,hn2 with
  |[u],_=>exact⟨u,rfl⟩
 obtain⟨Bs,bo,rfl,cv,h1,h2,h3⟩:=(hp2 0 _ u rfl rfl).nM
 have hc:=hok _ _ _ (h1 0 _ rfl)
 have hs:=h3 0 _ rfl
 have hBs:=World.block_lt_of_cell? w _ hc
 have hbase:∃S:List (List UInt8)→Prop,(∀ss,S ss→ss=l)∧nh Fence.wide 2 Tryz.prog 182 #[.pointer (some ⟨Bs,bo,none⟩)] encStr S l.length w:=by
  obtain⟨a,cap,hcv,hcap,hd⟩:=hs.fp
  rw[List.length_map] at hcv
  refine⟨fun ss=>ss=l,fun _ h=>h,fun lp J W hW hJ hB hY h0=>?_⟩
  have hc':=(hW.cell (p:=⟨Bs,bo,none⟩) hBs).trans hc
  rw[hcv] at hc'
  rcases hd with hd|⟨b,o,rfl,hk,cw,g1,g2,g3⟩
  ·have:l=[]:=by simpa using hd
   subst this
   exact(Tryz.CE Fence.wide 2 trivial rfl lp Bs bo cap a J W hc' h0).mono fun e W' ⟨he,hj⟩=>⟨he,[],rfl,hj⟩
  ·have hcell:∀j,j<l.length→w.cell? ⟨b,o+j,none⟩=some (encStr (l[j]?.getD [])):=fun j hj=>by
    have e1:(l.map str)[j]?=some (str (l[j]?.getD [])):=by simp[hj]
    have e2:=g1 j _ 0 _ e1 rfl
    have e3:=g3 j _ 0 _ e1 rfl
    have e5:=(VR.base (c:=⟨[],[],im⟩) e3).bc
    have e4:=hok _ _ _ e2
    rw[e5] at e4
    simpa using e4
   rcases Nat.eq_zero_or_pos l.length with hz|hz
   ·have:l=[]:=List.eq_nil_of_length_eq_zero hz
    subst this
    exact(Tryz.CE Fence.wide 2 trivial rfl lp Bs bo cap _ J W hc' h0).mono fun e W' ⟨he,hj⟩=>⟨he,[],rfl,hj⟩
   ·have hb:=World.block_lt_of_cell? w _ (hcell 0 hz)
    refine(Tryz.aaZ Fence.wide 2 trivial rfl ab lp Bs bo b o l.length cap l ab w hb J hB hY W hc' hcell h0).mono ?_
    rintro e W' ⟨he,hj⟩
    rw[Tryz.aaV] at hj
    exact⟨he,l,rfl,hj⟩
 obtain⟨S,hS,hseq⟩:=hbase
 refine(callsIn_wide.1 (Sq.XK Tryz.XJ Fence.wide 5 trivial trivial trivial trivial rfl ab (Tryz.XM _) (enters_of Tryz.func149 ae rfl) 182 #[.pointer (some ⟨Bs,bo,none⟩)] trivial (enters_of Tryz.func182 ae rfl) S l.length (by simp[maxLen];omega) ab w hseq)).mono ?_
 rintro e w' ⟨v,ss,rfl,hss,hrow,_,hbl⟩
 obtain rfl:=hS ss hss
 refine⟨v,rfl,?_,hbl⟩
 simpa[fH] using hrow
end Go.Proofs.YthoonfpkfdjhiaaGreatDoor
end
section
namespace Go.Proofs.YthoonfpkfdjhiaaGreatDoor
open Go Go.az Go.RowKit Go.Bk
end Go.Proofs.YthoonfpkfdjhiaaGreatDoor
end
section
namespace Go.Proofs.YthoonfpkfdjhiaaGreatDoor
open Go Go.az Go.RowKit Go.Bk
theorem Zw{l:List Bs}{i:Nat}{p b:Bs}(hp:l[i]?=some p)(hb:l[i+1]?=some b)(h:¬b=p):fJ (l.drop (i+1))=fJ (l.drop i):=by
 rw[sx hp,sx hb];simp[fJ,h]
theorem Zx{l:List Bs}{i:Nat}{p b:Bs}(hp:l[i]?=some p)(hb:l[i+1]?=some b)(h:b=p):fJ (l.drop i)=true:=by
 rw[sx hp,sx hb];simp[fJ,h]
theorem Zv{l:List Bs}{i:Nat}(h:l.length≤i+1):fJ (l.drop i)=false:=by
 cases hd:l.drop i with
 |nil=>rfl
 |cons x m=>
  have:=congrArg List.length hd
  rw[List.length_drop,List.length_cons] at this
  have:m=[]:=List.eq_nil_of_length_eq_zero ab
  subst this;rfl
theorem zl{i j:Nat}(h1:i≤1000000)(h2:j≤1000000):IntKind.i64.wrap ((IntKind.u64.wrap (IntKind.i64.wrap ((i:Int)+j))).fdiv (2^(min 1 64)))=(((i+j)/2:Nat):Int):=by
 have e0:IntKind.i64.wrap ((i:Int)+j)=(i:Int)+j:=aN ab ab
 have e1:IntKind.u64.wrap ((i:Int)+j)=((i:Int)+j):=by
  simp only[IntKind.wrap,IntKind.bits,IntKind.signed]
  have:((i:Int)+j)%2^64=((i:Int)+j):=by omega
  simp only[this];simp
 rw[e0,e1,show(2:Int)^(min 1 64)=2 by decide,Int.fdiv_eq_ediv_of_nonneg _ ab]
 rw[aN ab ab];omega
theorem S0{l:List Bs}{x y:Bs}{i m:Nat}(hs:l.Pairwise (fun a b=>a≤b))(h3:∀k y,k<i→l[k]?=some y→y<x)(hb:l[m]?=some y)(h:y<x):∀k y,k<m+1→l[k]?=some y→y<x:=by
 intro k z hk hz
 rcases Nat.lt_or_ge k m with h'|h'
 ·obtain⟨hk1,rfl⟩:=List.getElem?_eq_some_iff.1 hz
  obtain⟨hm1,rfl⟩:=List.getElem?_eq_some_iff.1 hb
  exact List.lt_of_le_of_lt (List.pairwise_iff_getElem.1 hs k m hk1 hm1 h') h
 ·have:k=m:=by omega
  subst this
  rw[hb] at hz;cases hz;exact h
theorem P3{l:List Bs}{x y:Bs}{j m:Nat}(hs:l.Pairwise (fun a b=>a≤b))(h4:∀k y,j≤k→l[k]?=some y→¬y<x)(hb:l[m]?=some y)(h:¬y<x):∀k y,m≤k→l[k]?=some y→¬y<x:=by
 intro k z hk hz hc
 rcases Nat.lt_or_ge m k with h'|h'
 ·obtain⟨hk1,rfl⟩:=List.getElem?_eq_some_iff.1 hz
  obtain⟨hm1,rfl⟩:=List.getElem?_eq_some_iff.1 hb
  exact h (List.lt_of_le_of_lt (List.pairwise_iff_getElem.1 hs m k hm1 hk1 h') hc)
 ·have:k=m:=by omega
  subst this
  rw[hb] at hz;cases hz;exact h hc
theorem OP{l:List Bs}{x y:Bs}{i:Nat}(h3:∀k y,k<i→l[k]?=some y→y<x)(h4:∀k y,i≤k→l[k]?=some y→¬y<x)(hs:l.Pairwise (fun a b=>a≤b))(hb:l[i]?=some y):decide (x∈l)=decide (y=x):=by
 by_cases h:y=x
 ·subst h;simp[List.mem_of_getElem? hb]
 ·have:¬x∈l:=fun hm=>by
   obtain⟨k,hk⟩:=List.mem_iff_getElem?.1 hm
   rcases Nat.lt_trichotomy k i with h'|h'|h'
   ·exact List.lt_irrefl x (h3 k x h' hk)
   ·subst h';rw[hk] at hb;cases hb;exact h rfl
   ·obtain⟨hk1,e1⟩:=List.getElem?_eq_some_iff.1 hk
    obtain⟨hm1,e2⟩:=List.getElem?_eq_some_iff.1 hb
    have:=List.pairwise_iff_getElem.1 hs i k hm1 hk1 h'
    rw[e1,e2] at this
    have h5:=h4 i y (Nat.le_refl _) hb
    exact h (List.le_antisymm this (List.not_lt.1 h5))
  simp[this,h]
theorem OO{l:List Bs}{x:Bs}{i:Nat}(hi:l.length≤i)(h3:∀k y,k<i→l[k]?=some y→y<x):decide (x∈l)=false:=by
 simp only[decide_eq_false_iff_not]
 intro hm
 obtain⟨k,hk⟩:=List.mem_iff_getElem?.1 hm
 exact List.lt_irrefl x (h3 k x (by have:=cp hk;omega) hk)
theorem Cw(l:List Bs)(hl:l.length≤9223372036854775807):ai E 146 [.sl none 1 (l.map str)] (fun r t=>r=bl (fJ l)∧t=[]):=by
 refine ai.aC (n:=20) (rs:=[.tmp 2]) Tryz.func146 rfl Tryz.ntmps146 rfl ?_
 repeat'(first
 |refine aa.ah fun K hK=>?_
 |(
  refine aa.here 4 10 10 rfl ?_
  have hlt:i+1<l.length:=by omega
  obtain⟨p,hp⟩:∃p,l[i]?=some p:=⟨_,List.getElem?_eq_getElem ab⟩
  refine aa.bA [0,1,2,3,4,5,6,7,8,9] [] ae ae rfl ?_;simp only[go_sem,hw,hp]
  refine aQ.nth hlt (fun b hb=>?_)
  simp only[hb,go_sem,hw,hp])
 |(refine aa.region ?_;simp only[go_sem])
 |(refine hK _ ?_;clear hK K)
 |refine aa.block ?_
 |refine aa.cond rfl (fun c=>?_) (fun c=>?_)<;>(try simp only[dD] at c)
 |refine aa.skip ?_
 |(refine aa.exit ?_;simp only[go_sem])
 |((with_reducible refine And.intro ?_ ?_);(focus((simp;done)));(try simp only[hb,go_sem]))
 |(
  refine aa.here 2 4 4 rfl ?_
  refine aa.dY (ι:=Nat) [2,4,5,6,7,8,9,10,11,12,13,14,15,16,17,18,19] (fun(i:Nat)=>[(3,i64 (i+1:Nat))]) (fun(i:Nat)=>i≤l.length∧fJ (l.drop i)=fJ l) (fun(i:Nat)=>l.length-i) (0) ?_ ?_ ?_
  ·(try simp only[go_sem]);(repeat'(first|fail))
  ·exact⟨by omega,rfl⟩
  rintro i ⟨h1,h2⟩
  simp only[go_sem]
  have hw:(IntKind.i64.wrap (((i+1:Nat):Int)-1))=(i:Int):=by rw[aN ab ab];omega)
 |(
  refine⟨i+1,?_,?_,?_⟩
  ·(try simp only[go_sem]);(try rw[aN ab ab]);((simp;done))
  ·exact⟨by omega,by rw[←h2];exact Zw hp hb af⟩
  ·(try simp only[]);omega)
 |(
  refine aa.ret ?_
  refine aM.is ?_;simp only[go_sem,aI,aH,aG,aK,aJ,aL]<;>(first
  |(rw[←h2,Zx hp hb af];done)
  |(rw[←h2,Zv ab];done)))
 |refine aa.fin af ?_)
theorem XG(s:Bs):ai E 184 [str s] (fun r t=>r=bl false∧t=[]):=by
 refine ai.aC (n:=6) (rs:=[.tmp 2]) Tryz.func184 rfl Tryz.ntmps184 rfl ?_
 repeat'(first
 |refine aa.ah fun K hK=>?_
 |(refine aa.region ?_;simp only[go_sem])
 |(refine hK _ ?_;clear hK K)
 |(
  refine aa.ret ?_
  refine aM.is ?_;simp only[go_sem,aI,aH,aG,aK,aJ,aL]<;>(simp;done)))
theorem xW(s:Bs):ai E 180 [str s] (fun r t=>r=bl false∧t=[]):=by
 refine ai.aC (n:=6) (rs:=[.tmp 2]) Tryz.func180 rfl Tryz.ntmps180 rfl ?_
 repeat'(first
 |refine aa.ah fun K hK=>?_
 |(refine aa.region ?_;simp only[go_sem])
 |(refine hK _ ?_;clear hK K)
 |(
  refine aa.ret ?_
  refine aM.is ?_;simp only[go_sem,aI,aH,aG,aK,aJ,aL]<;>(simp;done)))
theorem Kb(s u:Bs):ai E 183 [str s,str u] (fun r t=>r=bl (decide (s<u))∧t=[]):=by
 refine ai.aC (n:=17) (rs:=[.tmp 4]) Tryz.func183 rfl Tryz.ntmps183 rfl ?_
 repeat'(first
 |refine aa.ah fun K hK=>?_
 |(refine aa.region ?_;simp only[go_sem,Go.Proofs.bytesLess_eq])
 |(refine hK _ ?_;clear hK K)
 |(refine ak.one (xW _) ae rfl ?_;simp only[go_sem,Go.Proofs.bytesLess_eq])
 |(
  refine aa.ret ?_
  refine aM.is ?_;simp only[go_sem,aI,aH,aG,aK,aJ,aL]<;>(simp[Go.Proofs.bytesLess_eq];done)))
theorem Fp(l:List Bs)(x:Bs)(hs:l.Pairwise (fun a b=>a≤b))(hl:l.length≤1000000):ai E 148 [.sl none 1 (l.map str),str x] (fun r t=>(∃n:Int,r= .ax [i64 n,bl (decide (x∈l))])∧t=[]):=by
 refine ai.aC (n:=54) (rs:=[.tmp 4,.tmp 5]) Tryz.func148 rfl Tryz.ntmps148 rfl ?_
 repeat'(first
 |refine aa.ah fun K hK=>?_
 |(
  refine aa.here 5 22 6 rfl ?_
  rw[zl (i:=i) (j:=j) ab ab]
  refine aa.region ?_;simp only[go_sem])
 |(refine aa.region ?_;simp only[go_sem])
 |(refine hK _ ?_;clear hK K)
 |refine aa.block ?_
 |refine aa.cond rfl (fun c=>?_) (fun c=>?_)<;>(try simp only[dD] at c)
 |refine aa.skip ?_
 |(refine aa.exit ?_;simp only[go_sem])
 |(refine ak.one (Kb _ _) ae rfl ?_;simp only[go_sem])
 |(refine ak.one (XG _) ae rfl ?_;simp only[go_sem])
 |(refine aP.dk (fun h=>?_) (fun h=>?_)<;>simp only[h,go_sem]<;>(try simp only[dD] at h))
 |(refine aP.split (fun h=>?_) (fun h=>?_)<;>simp only[h,go_sem]<;>(try simp only[dD] at h))
 |(refine aQ.en af ?_;(try simp only[go_sem]))
 |((first|refine aQ.nth ?_ (fun b hb=>?_)|with_reducible refine And.intro ?_ ?_);(focus(first|omega|(simp;done)));(try simp only[hb,go_sem]))
 |(
  refine aa.here 3 13 3 rfl ?_
  refine aa.dY (ι:=Nat×Nat) [9,13,14,15,16,17,18,19,20,21,22,23,24,25,26,27,28,29,30] (fun⟨i,j⟩=>[(7,i64 i),(8,i64 j)]) (fun⟨i,j⟩=>i≤j∧j≤l.length∧(∀k y,k<i→l[k]?=some y→y<x)∧(∀k y,j≤k→l[k]?=some y→¬y<x)) (fun⟨i,j⟩=>j-i) ((0,l.length)) ?_ ?_ ?_
  ·(try simp only[go_sem]);(repeat'(first|fail))
  ·exact⟨by simp,by simp,by simp,fun k y h1 h2=>absurd (cp h2) (by simpa using h1)⟩
  rintro⟨i,j⟩ ⟨h1,h2,h3,h4⟩
  simp only[go_sem])
 |(
  first
  |(refine⟨((i+j)/2+1,j),?_,?_,?_⟩
    ·(try simp only[go_sem]);(try rw[aN ab ab]);simp
    ·exact⟨by show(i+j)/2+1≤j;omega,h2,S0 hs h3 hb af,h4⟩
    ·show j-((i+j)/2+1)<j-i;omega)
  |(refine⟨(i,(i+j)/2),?_,?_,?_⟩
    ·(try simp only[go_sem]);(try simp)
    ·exact⟨by show i≤(i+j)/2;omega,by show(i+j)/2≤l.length;omega,h3,P3 hs h4 hb af⟩
    ·show(i+j)/2-i<j-i;omega))
 |(
  refine aa.ret ?_
  simp only[go_sem]
  refine⟨[],.ax [i64 i,bl (decide (x∈l))],rfl,⟨rfl,?_,trivial⟩,⟨i,rfl⟩,rfl⟩
  refine congrArg (fun b=>Value.bool b) ?_
  obtain rfl:i=j:=by omega
  first|(rw[OP h3 h4 hs hb];simp[*];done)|exact(OO ab h3).symm)
 |refine aa.fin af ?_)
theorem J5{l:List Bs}:∀x∈(AV.agg [.sl none 1 (l.map str)]).leaves,x.dN=some x:=by
 intro x hx
 simp only[AV.leaves,List.mem_cons,List.not_mem_nil,or_false] at hx
 subst hx;rfl
theorem J6(l:List Bs):∀e∈l.map str,∀x∈e.leaves,x.dN=some x:=by
 intro e he x hx
 obtain⟨o,_,rfl⟩:=List.mem_map.1 he
 simp only[AV.leaves,List.mem_cons,List.not_mem_nil,or_false] at hx
 subst hx;rfl
theorem O0(l:List Bs):j9 [l.length] (.sl (some 0) 1 (l.map str)):=by
 refine⟨by simp,?_⟩
 intro e he y hy
 obtain⟨o,_,rfl⟩:=List.mem_map.1 he
 simp only[AV.leaves,List.mem_cons,List.not_mem_nil,or_false] at hy
 exact⟨_,hy⟩
theorem X9{l:List Bs}{m:Nat}:(l.map str++spare 1 m).take l.length=l.map str:=List.take_left' aB
theorem X8{l:List Bs}{x:Bs}:l.map str++[str x]=(l++[x]).map str:=by simp
theorem WR{b:Bk}(h:kv b=false):cA b=false:=by simp[cA,h]
theorem WS{b:Bk}(h:fJ (oF b.ids)=true):cA b=false:=by
 rw[wN] at h;simp[cA];intro _ h2;simp[h2] at h
theorem BC{b:Bk}{i:Nat}{f:Dn}(hb:b.av[i]?=some f)(h:ea b f=false):cA b=false:=by
 have:b.av.all (ea b)=false:=by
  rw[List.all_eq_false];exact⟨f,List.mem_of_getElem? hb,by simp[h]⟩
 unfold cA;rw[this];simp
theorem WT{b:Bk}(h1:kv b=true)(h2:fJ (oF b.ids)=false)(h3:b.av.all (ea b)=true):(!(!decide (b.av.map (·.id)).Nodup))=cA b:=by
 rw[wN] at h2
 unfold cA;rw[h1,h3]
 have:decide b.ids.Nodup=true:=by simpa using h2
 rw[this];simp
theorem On{b:Bk}{f:Dn}(h1:ca f.au=true)(h2:ca f.aE=true)(h3:¬f.time<0)(h4:¬b.clock<f.time)(h5:f.id∈fH b.ids):ea b f=true:=by
 rw[Aa] at h5
 simp[ea,h1,h2,h5];omega
theorem Ol{b:Bk}{f:Dn}(h5:¬f.id∈fH b.ids):ea b f=false:=by
 rw[Aa] at h5
 simp[ea,h5]
theorem rY{α:Type}{l:List α}{p:α→Bool}{i:Nat}{x:α}(hb:l[i]?=some x)(h:(l.take i).all p=true)(hx:p x=true):(l.take (i+1)).all p=true:=by
 rw[fI hb,List.all_append,h];simp[hx]
theorem uo(bk:Bk)(ho:bk.aq.length≤9223372036854775807)(hf:bk.av.length≤9223372036854775807)(hi:bk.ids.length≤9223372036854775807):ai E 106 [lx bk] (fun r t=>r=bl (cA bk)∧t=[]):=by
 refine ai.aC (n:=100) (rs:=[.tmp 2]) Tryz.func106 rfl Tryz.ntmps106 rfl ?_
 repeat'(first
 |refine aa.ah fun K hK=>?_
 |(
  refine aa.here 16 94 2 rfl ?_
  rw[X9,X8]
  refine aa.jA [0,1,4] aj rfl rfl ?_
  simp only[go_sem]
  refine aa.region ?_;simp only[go_sem])
 |(
  refine aa.here 17 95 2 rfl ?_
  refine aa.aW ?_
  refine al.at 2 1 rfl ?_
  simp only[go_sem]
  refine al.XI ae rfl (fun aZ off cap ss w h1 h2 h3=>Go.Proofs.AnyM.slices_Sort_string Go.Proofs.Tryz.tA aZ off cap ss w h1 h2 h3) (fun p cap w=>Go.Proofs.AnyM.slices_Sort_string_none Go.Proofs.Tryz.tA p cap w) (id:=2) (l:=nl) (sp:=spare 1 m) rfl rfl ab ?_
  simp only[go_sem]
  refine al.of ?_
  simp only[go_sem])
 |(refine aa.here 3 45 5 rfl ?_;refine aa.aW ?_;refine al.at 5 2 rfl ?_;simp only[go_sem])
 |(refine aa.region ?_;simp only[go_sem])
 |(refine hK _ ?_;clear hK K)
 |refine aa.block ?_
 |refine aa.cond rfl (fun c=>?_) (fun c=>?_)<;>first|exact Bool.noConfusion c|(try simp only[dD] at c)
 |refine aa.skip ?_
 |(refine aa.exit ?_;simp only[go_sem])
 |(refine ak.one (mK _ (by(assumption))) ae rfl ?_;simp only[go_sem])
 |(refine ak.snap (XL bk.ids ab) ae rfl (.cons (.fn (.cons (.ptr (e:= .agg [.sl none 1 (bk.ids.map str)]) rfl J5) .nil)) .nil) ?_;rintro r t ⟨rfl,rfl⟩;refine⟨O0 _,?_⟩;simp only[go_sem])
 |(refine ak.one (Cw _ (by rw[lX];omega)) ae rfl ?_;simp only[go_sem])
 |(refine ak.hP (Cw (fH nl) (by rw[lX];omega)) ae rfl (.cons (.one (.jw rfl (by simp[lX]) (J6 _))) .nil) ?_;simp only[go_sem])
 |(refine ak.one (ui _) ae rfl ?_;simp only[go_sem])
 |(refine ak.of (Fp (fH bk.ids) _ (B7 _) (by rw[lX];omega)) ae rfl ?_;rintro r t ⟨⟨n,rfl⟩,rfl⟩;simp only[go_sem])
 |(refine al.call (rs:=[.tmp 2]) Tryz.func145 rfl Tryz.ntmps145 rfl ae rfl rfl ?_;simp only[go_sem])
 |(refine aP.dk (fun h=>?_) (fun h=>?_)<;>simp only[h,go_sem]<;>(try simp only[dD] at h))
 |(refine aP.split (fun h=>?_) (fun h=>?_)<;>simp only[h,go_sem]<;>(try simp only[dD] at h))
 |((first|refine aQ.nth ?_ (fun b hb=>?_)|with_reducible refine And.intro ?_ ?_);(focus(first|omega|(simp;done)|(simp[cY];done)));(try simp only[hb,go_sem]))
 |(
  refine aa.here 8 55 1 rfl ?_
  refine aa.TP 4 1 rfl ?_
  simp only[go_sem]
  refine aa.dR (ι:=Nat×List Bs×Nat) [2,6,7,8,55,56,57,58,59,60,61,62,63,64,65,66,67,68,69,70,71,72,73,74,75,76,77,78,79,80,81,82,83,84,85,86,87,88,89,90,91,92,93,94] (fun⟨i,nl,m⟩=>[(54,i64 i),(4,.mu 2 1 0 nl.length (nl.length+m))]) (fun⟨i,nl,m⟩=>[some [.agg [bu bk.aq,dn bk.av,.sl none 1 (bk.ids.map str),i64 bk.clock,i64 bk.bad]],some [.agg [.sl none 1 (bk.ids.map str)]],some (nl.map str++spare 1 m)]) (fun⟨i,nl,m⟩=>[(fH bk.ids).length]) (fun⟨i,nl,m⟩=>i≤bk.av.length∧(bk.av.take i).all (ea bk)=true∧nl=(bk.av.take i).map (·.id)) (fun⟨i,nl,m⟩=>bk.av.length-i) ((0,[],0)) ?_ ?_ ?_
  ·(try simp only[go_sem]);(repeat'(first|refine And.intro ?_ ?_|exact .inr (bj rfl)|exact .inr ⟨rfl,bj rfl⟩))
  ·exact⟨Nat.zero_le _,by simp,by simp⟩
  rintro⟨i,nl,m⟩ ⟨h1,h2,h3⟩
  simp only[go_sem]
  have hnl:nl.length=i:=by rw[h3,List.length_map,List.length_take];omega)
 |(
  refine⟨(i+1,nl++[b.id],mm),?_,?_,?_⟩
  ·(try simp only[go_sem]);(try rw[aN ab ab]);(repeat'(first|refine And.intro ?_ ?_|exact .inr rfl|exact .inr (bj rfl)|exact .inr sc))
  ·exact⟨by show i+1≤bk.av.length;omega,rY af h2 (On af af ab ab af),by rw[h3,fI af];simp⟩
  ·show bk.av.length-(i+1)<bk.av.length-i;omega)
 |(
  refine aa.ret ?_
  refine aM.is ?_;simp only[go_sem,aI,aH,aG,aK,aJ,aL]<;>(first
  |(rw[WR (by first|(simp[kv, *];done)|(simp[kv];intros;omega))];done)
  |(rw[WS af];done)
  |(rw[BC hb (by first|(simp[ea, *];done)|(simp[ea];intros;omega))];done)
  |(rw[BC hb (Ol af)];done)
  |(rw[wN,h3,List.take_of_length_le ab];rw[List.take_of_length_le ab] at h2;exact WT (by simp[kv, *];omega) af h2)))
 |(refine aa.ret ?_;refine bT.ret rfl ?_;simp only[go_sem])
 |(refine al.of ?_;simp only[go_sem])
 |(refine fun(mm:Nat)=>?_;simp only[go_sem])
 |refine aa.fin af ?_)
abbrev wV(w:Ws):AV:= .agg [i64 w.1,i64 w.2]
theorem T5{f:Dn}{acc sym:Bs}(h:f.live=false):¬(f.live=true∧f.acc=acc∧f.sym=sym):=by simp[h]
theorem T6{f:Dn}{acc sym:Bs}(h:¬f.acc=acc):¬(f.live=true∧f.acc=acc∧f.sym=sym):=fun h2=>h h2.2.1
theorem T7{f:Dn}{acc sym:Bs}(h:¬f.sym=sym):¬(f.live=true∧f.acc=acc∧f.sym=sym):=fun h2=>h h2.2.2
theorem Aq{o:Od}{acc sym:Bs}(h:¬o.acc=acc):¬(o.acc=acc∧o.sym=sym):=fun h2=>h h2.1
theorem Ar{o:Od}{acc sym:Bs}(h:¬o.sym=sym):¬(o.acc=acc∧o.sym=sym):=fun h2=>h h2.2
theorem Uu{b:Bk}{acc sym:Bs}(h:cA b=false):lT b acc sym=(0,0):=by unfold lT;rw[h];rfl
theorem pJ(p q:Ws):ai E 207 [wV p,wV q] (fun r t=>r=wV (eX p q)∧t=[]):=by
 refine ai.aC (n:=16) (rs:=[.cell 4 238]) Tryz.func207 rfl Tryz.ntmps207 rfl ?_
 repeat'(first
 |refine aa.ah fun K hK=>?_
 |(refine aa.region ?_;simp only[go_sem])
 |(refine hK _ ?_;clear hK K)
 |(
  refine aa.ret ?_
  refine aM.is ?_;simp only[go_sem,aI,aH,aG,aK,aJ,aL]<;>(simp[eX];done)))
theorem tw(y:Bool)(q:Int):ai E 249 [bl y,i64 q] (fun r t=>r=wV (dd y q)∧t=[]):=by
 refine ai.aC (n:=10) (rs:=[.cell 4 238]) Tryz.func249 rfl Tryz.ntmps249 rfl ?_
 repeat'(first
 |refine aa.ah fun K hK=>?_
 |(refine aa.region ?_;simp only[go_sem])
 |(refine hK _ ?_;clear hK K)
 |refine aa.cond rfl (fun c=>?_) (fun c=>?_)<;>(try simp only[dD] at c)
 |refine aa.skip ?_
 |(
  refine aa.ret ?_
  refine aM.is ?_;simp only[go_sem,aI,aH,aG,aK,aJ,aL]<;>(simp[dd, *];done)))
theorem Oo(bk:Bk)(f:Dn):ai E 250 [lx bk,cF f] (fun r t=>r=bl (jq bk f)∧t=[]):=by
 refine ai.aC (n:=19) (rs:=[.tmp 4]) Tryz.func250 rfl Tryz.ntmps250 rfl ?_
 repeat'(first
 |refine aa.ah fun K hK=>?_
 |(refine aa.region ?_;simp only[go_sem])
 |(refine hK _ ?_;clear hK K)
 |refine aa.cond rfl (fun c=>?_) (fun c=>?_)<;>first|exact Bool.noConfusion c|(try simp only[dD] at c)
 |refine aa.skip ?_
 |(refine aP.dk (fun h=>?_) (fun h=>?_)<;>simp only[h,go_sem]<;>(try simp only[dD] at h))
 |(
  refine aa.ret ?_
  refine aM.is ?_;simp only[go_sem,aI,aH,aG,aK,aJ,aL]<;>(first|(unfold jq;rw[if_pos ab];done)|(unfold jq;rw[if_neg ab];done))))
theorem Oq{bk:Bk}{f g:Dn}(h:g.time=f.time):ai E 250 [lx bk,cF g] (fun r t=>r=bl (jq bk f)∧t=[]):=by
 have e:jq bk f=jq bk g:=by unfold jq;rw[h]
 rw[e];exact Oo bk g
theorem LL(bk:Bk)(acc sym:Bs)(ho:bk.aq.length≤9223372036854775807)(hf:bk.av.length≤9223372036854775807)(hi:bk.ids.length≤9223372036854775807):ai E 208 [lx bk,str acc,str sym] (fun r t=>r=wV (lT bk acc sym)∧t=[]):=by
 refine ai.aC (n:=84) (rs:=[.cell 6 238]) Tryz.func208 rfl Tryz.ntmps208 rfl ?_
 repeat'(first
 |refine aa.ah fun K hK=>?_
 |(
  refine aa.here 6 21 4 rfl ?_
  obtain⟨f,hb⟩:∃f,bk.av[i]?=some f:=⟨_,List.getElem?_eq_getElem ab⟩
  refine aa.region ?_;simp only[go_sem])
 |(
  refine aa.here 14 63 4 rfl ?_
  obtain⟨o,hc⟩:∃o,bk.aq[j]?=some o:=⟨_,List.getElem?_eq_getElem ab⟩
  refine aa.region ?_;simp only[go_sem])
 |(refine aa.region ?_;simp only[go_sem])
 |(refine aa.here 8 38 8 rfl ?_;refine aa.bA [0,1,2,3,4,5,6,7] [] ae ae rfl ?_;simp only[go_sem])
 |(refine aa.here 10 48 10 rfl ?_;refine aa.bA [0,1,2,3,4,5,6,7,8,9] [] ae ae rfl ?_;simp only[go_sem])
 |(refine aa.here 16 75 8 rfl ?_;refine aa.bA [0,1,2,3,4,5,6,7] [] ae ae rfl ?_;simp only[go_sem])
 |(refine hK _ ?_;clear hK K)
 |refine aa.block ?_
 |refine aa.cond rfl (fun c=>?_) (fun c=>?_)<;>first|exact Bool.noConfusion c|(try simp only[dD] at c)
 |refine aa.skip ?_
 |(refine aa.exit ?_;simp only[go_sem])
 |(refine ak.one (uo bk ho hf hi) ae rfl ?_;simp only[go_sem])
 |(refine ak.one (tw f.aD f.au) ae rfl ?_;simp only[go_sem])
 |(refine ak.one (tw (!f.aD) (IntKind.i64.wrap (0-f.au))) ae rfl ?_;simp only[go_sem])
 |(refine ak.one (tw o.aD (eG o)) ae rfl ?_;simp only[go_sem])
 |(refine ak.one (pJ w (dd f.aD f.au)) ae rfl ?_;simp only[go_sem])
 |(refine ak.one (pJ (eX w (dd f.aD f.au)) (dd (!f.aD) (IntKind.i64.wrap (0-f.au)))) ae rfl ?_;simp only[go_sem])
 |(refine ak.one (pJ u (dd o.aD (eG o))) ae rfl ?_;simp only[go_sem])
 |(refine ak.one (Oq (bk:=bk) (f:=f) (g:=⟨f.id,f.ord,f.acc,f.sym,f.aD,f.au,f.aE,f.time,true⟩) rfl) ae rfl ?_;simp only[go_sem])
 |(refine ak.one (AG o) ae rfl ?_;simp only[go_sem])
 |(refine aP.split (fun h=>?_) (fun h=>?_)<;>simp only[h,go_sem]<;>(try simp only[dD] at h))
 |(refine aQ.en af ?_;(try simp only[go_sem]))
 |((with_reducible refine And.intro ?_ ?_);(focus((simp;done)));(try simp only[hb,go_sem]))
 |(
  refine aa.here 5 20 1 rfl ?_
  refine aa.dR (ι:=Nat×Ws) [9,20,21,22,23,24,25,26,27,28,29,30,31,32,33,34,35,36,37,38,39,40,41,42,43,44,45,46,47,48,49,50,51,52,53,54,55,56,57] (fun⟨i,w⟩=>[(19,i64 i)]) (fun⟨i,w⟩=>[some [.agg [bu bk.aq,dn bk.av,.sl none 1 (bk.ids.map str),i64 bk.clock,i64 bk.bad]],some [.agg [i64 0,i64 0]],some [.agg [i64 w.1,i64 w.2]]]) (fun⟨i,w⟩=>[]) (fun⟨i,w⟩=>i≤bk.av.length∧w=fK bk acc sym i) (fun⟨i,w⟩=>bk.av.length-i) ((0,((0,0):Ws))) ?_ ?_ ?_
  ·(try simp only[go_sem]);(repeat'(first|refine And.intro ?_ ?_|trivial|exact .inr (bj rfl)));done
  ·exact⟨Nat.zero_le _,rfl⟩
  rintro⟨i,w⟩ ⟨h1,h2⟩
  simp only[go_sem]
  have hr:cA bk=true:=by assumption)
 |(
  refine aa.here 13 62 1 rfl ?_
  refine aa.dR (ι:=Nat×Ws) [11,62,63,64,65,66,67,68,69,70,71,72,73,74,75,76,77,78,79,80,81,82] (fun⟨j,u⟩=>[(61,i64 j)]) (fun⟨j,u⟩=>[some [.agg [bu bk.aq,dn bk.av,.sl none 1 (bk.ids.map str),i64 bk.clock,i64 bk.bad]],some [.agg [i64 0,i64 0]],some [.agg [i64 u.1,i64 u.2]]]) (fun⟨j,u⟩=>[]) (fun⟨j,u⟩=>j≤bk.aq.length∧u=ib bk acc sym j) (fun⟨j,u⟩=>bk.aq.length-j) ((0,w)) ?_ ?_ ?_
  ·(try simp only[go_sem]);(repeat'(first|refine And.intro ?_ ?_|trivial|exact .inr (bj rfl)));done
  ·exact⟨Nat.zero_le _,aaM ab h2⟩
  rintro⟨j,u⟩ ⟨g1,g2⟩
  simp only[go_sem])
 |(
  first
  |(refine⟨(i+1,w),?_,⟨by show i+1≤bk.av.length;omega,aaT hb h2 (by first|exact T5 af |exact T6 af |exact T7 af)⟩,by show bk.av.length-(i+1)<bk.av.length-i;omega⟩
    (try simp only[go_sem]);(try rw[aN ab ab]);(repeat'(first|refine And.intro ?_ ?_|exact .inr rfl|trivial|exact .inr (bj rfl)));done)
  |(refine⟨(i+1,eX w (dd f.aD f.au)),?_,⟨by show i+1≤bk.av.length;omega,aaU hr hb h2 ⟨by assumption,by assumption,by assumption⟩ af⟩,by show bk.av.length-(i+1)<bk.av.length-i;omega⟩
    (try simp only[go_sem]);(try rw[aN ab ab]);(repeat'(first|refine And.intro ?_ ?_|exact .inr rfl|trivial|exact .inr (bj rfl)));done)
  |(refine⟨(i+1,eX (eX w (dd f.aD f.au)) (dd (!f.aD) (IntKind.i64.wrap (0-f.au)))),?_,⟨by show i+1≤bk.av.length;omega,aaS hr hb h2 ⟨by assumption,by assumption,by assumption⟩ af⟩,by show bk.av.length-(i+1)<bk.av.length-i;omega⟩
    (try simp only[go_sem]);(try rw[aN ab ab]);(repeat'(first|refine And.intro ?_ ?_|exact .inr rfl|trivial|exact .inr (bj rfl)));done))
 |(
  first
  |(refine⟨(j+1,u),?_,⟨by show j+1≤bk.aq.length;omega,aaK hc g2 (by first|exact Aq af |exact Ar af)⟩,by show bk.aq.length-(j+1)<bk.aq.length-j;omega⟩
    (try simp only[go_sem]);(try rw[aN ab ab]);(repeat'(first|refine And.intro ?_ ?_|exact .inr rfl|trivial|exact .inr (bj rfl)));done)
  |(refine⟨(j+1,eX u (dd o.aD (eG o))),?_,⟨by show j+1≤bk.aq.length;omega,aaL hr hc g2 ⟨by assumption,by assumption⟩⟩,by show bk.aq.length-(j+1)<bk.aq.length-j;omega⟩
    (try simp only[go_sem]);(try rw[aN ab ab]);(repeat'(first|refine And.intro ?_ ?_|exact .inr rfl|trivial|exact .inr (bj rfl)));done))
 |(
  refine aa.ret ?_
  refine aM.is ?_;simp only[go_sem,aI,aH,aG,aK,aJ,aL]<;>(first
  |(rw[←aaJ hr ab g2];simp;done)
  |(rw[Uu af];simp;done)))
 |refine aa.fin af ?_)
end Go.Proofs.YthoonfpkfdjhiaaGreatDoor
end
section
namespace Go.Proofs.YthoonfpkfdjhiaaGreatDoor
open Go Go.az Go.RowKit Go.Bk
theorem Vi(l:List Dn):∀e∈l.map cF,e.leaves.length=9∧∀y∈e.leaves,∃z,y= .v z:=by
 intro e he
 obtain⟨o,_,rfl⟩:=List.mem_map.1 he
 refine⟨rfl,fun x hx=>?_⟩
 simp only[AV.leaves,List.mem_cons,List.not_mem_nil,or_false] at hx
 rcases hx with rfl|rfl|rfl|rfl|rfl|rfl|rfl|rfl|rfl<;>exact⟨_,rfl⟩
theorem WV{b:Bk}(h:cA b=true):kv b=true∧(b.aq.length≤64∧b.av.length≤256∧b.ids.length≤256)∧∀f∈b.av,0≤f.time∧f.time≤4611686018427387904:=by
 simp only[cA,Bool.and_eq_true] at h
 obtain⟨⟨⟨h1,h2⟩,h3⟩,h4⟩:=h
 refine⟨h1,?_,fun f hf=>?_⟩
 ·simp only[kv,Bool.and_eq_true,decide_eq_true_eq] at h1
  exact⟨Go.Bk.lV (by simp[h1]),by omega,by omega⟩
 ·have:=List.all_eq_true.1 h3 f hf
  simp only[kv,ea,Bool.and_eq_true,decide_eq_true_eq] at h1 this
  omega
theorem xX{b:Bk}{x:Ex}(h:cA b=false∨dh x=false):bI b x=(b,0):=by
 unfold bI;rcases h with h|h<;>simp[h]
theorem Ko{b:Bk}{x:Ex}(h1:cA b=true)(h2:dh x=true):bI b x=cP b x:=by
 unfold bI;simp[h1,h2]
theorem eR(l:List Od)(hl:l.length≤1000000):ai E 79 [.sl none 8 (l.map bd)] (fun r t=>r= .sl none 8 (l.map bd)∧t=[]):=by
 refine ai.aC (n:=8) (rs:=[.tmp 2]) Tryz.func79 rfl Tryz.ntmps79 rfl ?_
 repeat'(first
 |refine aa.ah fun K hK=>?_
 |(refine aa.region ?_;simp only[go_sem])
 |(refine hK _ ?_;clear hK K)
 |refine aa.cond rfl (fun c=>?_) (fun c=>?_)<;>(try simp only[dD] at c)
 |refine aa.skip ?_
 |((with_reducible refine And.intro ?_ ?_);(focus(first|omega|(simp;done)));(try simp only[hb,go_sem]))
 |(
  refine aa.ret ?_
  refine aM.is ?_;simp only[go_sem,aI,aH,aG,aK,aJ,aL]<;>(first
  |(have he:l=[]:=by
     apply Classical.byContradiction;intro hne
     have:=hbb (by simpa using hne)
     rw[this] at c;exact absurd c aB
    simp[he];done)))
 |(refine fun(bb:Bool) (hbb:_→bb=false)=>?_))
theorem yh(l:List Dn)(hl:l.length≤1000000):ai E 80 [.sl none 9 (l.map cF)] (fun r t=>r= .sl (some 0) 9 (l.map cF)∧t=[l.length]):=by
 refine ai.aC (n:=8) (rs:=[.tmp 2]) Tryz.func80 rfl Tryz.ntmps80 rfl ?_
 repeat'(first
 |refine aa.ah fun K hK=>?_
 |(refine aa.region ?_;simp only[go_sem])
 |(refine hK _ ?_;clear hK K)
 |refine aa.cond rfl (fun c=>?_) (fun c=>?_)<;>(try simp only[dD] at c)
 |refine aa.skip ?_
 |((with_reducible refine And.intro ?_ ?_);(focus(first|omega|(simp;done)));(try simp only[hb,go_sem]))
 |(
  refine aa.ret ?_
  simp only[go_sem]
  first
  |(have he:l=[]:=by
     apply Classical.byContradiction;intro hne
     have:=hbb (by simpa using hne)
     rw[this] at c;exact absurd c aB
    exact⟨[(false,9)],.sl (some 0) 9 [],rfl,rfl,by rw[he];rfl,by rw[he];rfl⟩)
  |exact⟨[(true,0)],.sl (some 0) 9 _,rfl,⟨rfl,rfl,rfl⟩,by simp,by simp[iW]⟩)
 |(refine fun(bb:Bool) (hbb:_→bb=false)=>?_))
theorem wj(l:List Bs)(hl:l.length≤1000000):ai E 81 [.sl none 1 (l.map str)] (fun r t=>r= .sl (some 0) 1 (l.map str)∧t=[l.length]):=by
 refine ai.aC (n:=8) (rs:=[.tmp 2]) Tryz.func81 rfl Tryz.ntmps81 rfl ?_
 repeat'(first
 |refine aa.ah fun K hK=>?_
 |(refine aa.region ?_;simp only[go_sem])
 |(refine hK _ ?_;clear hK K)
 |refine aa.cond rfl (fun c=>?_) (fun c=>?_)<;>(try simp only[dD] at c)
 |refine aa.skip ?_
 |((with_reducible refine And.intro ?_ ?_);(focus(first|omega|(simp;done)));(try simp only[hb,go_sem]))
 |(
  refine aa.ret ?_
  simp only[go_sem]
  first
  |(have he:l=[]:=by
     apply Classical.byContradiction;intro hne
     have:=hbb (by simpa using hne)
     rw[this] at c;exact absurd c aB
    exact⟨[(false,1)],.sl (some 0) 1 [],rfl,rfl,by rw[he];rfl,by rw[he];rfl⟩)
  |exact⟨[(true,0)],.sl (some 0) 1 _,rfl,⟨rfl,rfl,rfl⟩,by simp,by simp[iW]⟩)
 |(refine fun(bb:Bool) (hbb:_→bb=false)=>?_))
theorem qq(bk:Bk)(x:Ex)(ho:bk.aq.length≤1000000)(hf:bk.av.length≤1000000)(hi:bk.ids.length≤1000000):ai E 133 [lx bk,ao x] (fun r t=>r= .ax [lx (bI bk x).1,i64 (bI bk x).2]∧t=[]):=by
 refine ai.aC (n:=22) (rs:=[.cell 4 105,.tmp 5]) Tryz.func133 rfl Tryz.ntmps133 rfl ?_
 repeat'(first
 |refine aa.ah fun K hK=>?_
 |(
  refine aa.here 2 9 8 rfl ?_
  refine aa.jA [2,0,5,1] aj rfl rfl ?_
  simp only[go_sem,o8]
  refine aa.region ?_;simp only[go_sem])
 |(
  refine aa.here 3 17 3 rfl ?_
  refine aa.eS 1 1 (jd:=2) (k:=9) (n:=bk.av.length) (cap:=bk.av.length+m) _ (aR bk m) aj rfl rfl rfl (by simp[aR]) (by rw[tg];exact sf _) ?_
  rw[tg]
  simp only[go_sem]
  refine aa.region ?_;simp only[go_sem])
 |(
  refine aa.here 5 20 4 rfl ?_
  refine aa.eS 1 1 (jd:=2) (k:=9) (n:=b2.av.length) (cap:=b2.av.length+m2) _ (aR b2 m2) aj rfl rfl rfl (by simp[aR]) (by rw[tg];exact sf _) ?_
  rw[tg]
  simp only[go_sem]
  refine aa.region ?_;simp only[go_sem])
 |(
  refine aa.here 4 18 3 rfl ?_
  have hr:=WV af
  refine aa.weaken (t:=⟨[.any,.any,.ptr 1 0 0,.ptr 3 0 0,.ptr 0 0 0,.any,.any,.any,.any,.any,.any,.any,.any,.any,.any,.any,.any,.any,.any,.any,.any,.any],[Z0,some [aS bk m],some (aR bk m),some [ao x]],[bk.ids.length],fun _=>none,none,[]⟩) ⟨⟨.inl rfl,.inl rfl,.inr ⟨rfl,rfl⟩,.inr ⟨rfl,rfl⟩,.inr ⟨rfl,rfl⟩,.inl rfl,.inl rfl,.inl rfl,.inl rfl,.inl rfl,.inl rfl,.inl rfl,.inl rfl,.inl rfl,.inl rfl,.inl rfl,.inl rfl,.inl rfl,.inl rfl,.inl rfl,.inl rfl,.inl rfl,trivial⟩,wU qX,⟨rfl,trivial⟩,rfl,rfl,rfl,rfl⟩ ?_
  refine aa.aW ?_
  refine al.at 3 1 rfl ?_
  simp only[go_sem]
  refine YW (b:=bk) (x:=x) (m:=m) rfl rfl af hr.2.2 ab ab ab (po (n:=0) aj rfl rfl) ?_
  intro b2 e2 m2 hb2
  have hlen:=Cg bk x
  rw[hb2] at hlen
  refine al.of ?_
  simp only[go_sem])
 |(refine aa.here 1 7 3 rfl ?_;refine aa.aW ?_;refine al.at 3 1 rfl ?_;simp only[go_sem])
 |(refine aa.region ?_;simp only[go_sem])
 |(refine hK _ ?_;clear hK K)
 |refine aa.cond rfl (fun c=>?_) (fun c=>?_)<;>first|exact Bool.noConfusion c|(try simp only[dD] at c)
 |refine aa.skip ?_
 |(refine ak.hP (uo bk ab ab ab) ae rfl (.cons (.agg (.cons (.clean rfl) (.cons (.jw rfl aB (sf _)) (.cons (.clean rfl) (.cons (.clean rfl) (.cons (.clean rfl) .nil)))))) .nil) ?_;simp only[go_sem])
 |(refine ak.one (Tm _) ae rfl ?_;simp only[go_sem])
 |(refine ak.one (eR _ (by(assumption))) ae rfl ?_;simp only[go_sem])
 |(refine ak.take (yh bk.av ab) ae rfl (.cons (.one (.clean rfl)) .nil) ?_;rintro r t ⟨rfl,rfl⟩;refine⟨0,9,_,rfl,by simp,Vi _,fun m=>?_⟩;simp only[go_sem,List.length_map])
 |(refine ak.of (wj bk.ids ab) ae rfl ?_;rintro r t ⟨rfl,rfl⟩;simp only[go_sem])
 |(refine al.call (rs:=[.cell 2 105]) Tryz.func172 rfl Tryz.ntmps172 rfl ae rfl rfl ?_;simp only[go_sem])
 |(refine aP.split (fun h=>?_) (fun h=>?_)<;>simp only[h,go_sem]<;>(try simp only[dD] at h))
 |(
  refine aa.ret ?_
  refine aM.is ?_;simp only[go_sem,aI,aH,aG,aK,aJ,aL]<;>(first
  |(rw[xX (.inl af)];simp;done)
  |(rw[xX (.inr af)];simp;done)
  |(rw[Ko af af,hb2];simp;done)))
 |(refine aa.ret ?_;refine bT.ret rfl ?_;simp only[go_sem])
 |(refine al.of ?_;simp only[go_sem]))
theorem Tj{o:Od}(h:bU o=true):0≤o.done∧o.done≤o.au∧o.au≤1099511627776:=by
 simp only[bU,ca,Bool.and_eq_true,decide_eq_true_eq] at h;omega
theorem Vf(l:List Od)(acc sym:Bs)(hl:l.length≤9223372036854775807):ai E 209 [bu l,str acc,str sym] (fun r t=>r=wV (mM l acc sym)∧t=[]):=by
 refine ai.aC (n:=42) (rs:=[.cell 6 238]) Tryz.func209 rfl Tryz.ntmps209 rfl ?_
 repeat'(first
 |refine aa.ah fun K hK=>?_
 |(
  refine aa.here 6 18 4 rfl ?_
  obtain⟨o,hc⟩:∃o,l[j]?=some o:=⟨_,List.getElem?_eq_getElem ab⟩
  have hm:=Tj (wg hr hc)
  have hw:IntKind.i64.wrap (o.au-o.done)=o.au-o.done:=aN ab ab
  refine aa.region ?_;simp only[go_sem])
 |(
  refine aa.here 8 30 11 rfl ?_
  refine aa.bA [0,1,2,3,4,5,6,7,8,9,10] [] ae ae rfl ?_;simp only[go_sem,hw])
 |(refine aa.region ?_;simp only[go_sem])
 |(refine hK _ ?_;clear hK K)
 |refine aa.block ?_
 |refine aa.cond rfl (fun c=>?_) (fun c=>?_)<;>first|exact Bool.noConfusion c|(try simp only[dD] at c)
 |refine aa.skip ?_
 |(refine aa.exit ?_;simp only[go_sem])
 |(refine ak.one (mK l hl) ae rfl ?_;simp only[go_sem])
 |(refine ak.one (tw o.aD (o.au-o.done)) ae rfl ?_;simp only[go_sem])
 |(refine ak.one (pJ u (dd o.aD (o.au-o.done))) ae rfl ?_;simp only[go_sem])
 |(refine aP.split (fun h=>?_) (fun h=>?_)<;>simp only[h,go_sem]<;>(try simp only[dD] at h))
 |(refine aQ.en af ?_;(try simp only[go_sem]))
 |((with_reducible refine And.intro ?_ ?_);(focus((simp;done)));(try simp only[hb,go_sem]))
 |(
  refine aa.here 5 17 1 rfl ?_
  refine aa.dR (ι:=Nat×Ws) [9,17,18,19,20,21,22,23,24,25,26,27,28,29,30,31,32,33,34,35,36,37,38,39,40] (fun⟨j,u⟩=>[(16,i64 j)]) (fun⟨j,u⟩=>[some [.agg [i64 0,i64 0]],some [.agg [i64 u.1,i64 u.2]]]) (fun⟨j,u⟩=>[]) (fun⟨j,u⟩=>j≤l.length∧u=jb l acc sym j) (fun⟨j,u⟩=>l.length-j) ((0,((0,0):Ws))) ?_ ?_ ?_
  ·(try simp only[go_sem]);(repeat'(trivial));done
  ·exact⟨Nat.zero_le _,rfl⟩
  rintro⟨j,u⟩ ⟨g1,g2⟩
  simp only[go_sem]
  have hr:bF l=true:=by assumption)
 |(
  first
  |(refine⟨(j+1,u),?_,⟨by show j+1≤l.length;omega,aaP hc g2 (by first|exact Aq af |exact Ar af)⟩,by show l.length-(j+1)<l.length-j;omega⟩
    (try simp only[go_sem]);(try rw[aN ab ab]);(repeat'(first|refine And.intro ?_ ?_|exact .inr rfl|trivial|exact .inr (bj rfl)));done)
  |(refine⟨(j+1,eX u (dd o.aD (o.au-o.done))),?_,⟨by show j+1≤l.length;omega,aaQ hr hc g2 ⟨by assumption,by assumption⟩⟩,by show l.length-(j+1)<l.length-j;omega⟩
    (try simp only[go_sem]);(try rw[aN ab ab]);(repeat'(first|refine And.intro ?_ ?_|exact .inr rfl|trivial|exact .inr (bj rfl)));done))
 |(
  refine aa.ret ?_
  refine aM.is ?_;simp only[go_sem,aI,aH,aG,aK,aJ,aL]<;>(first
  |(rw[←aaO hr ab g2];simp;done)
  |(rw[Vg af];simp;done)))
 |refine aa.fin af ?_)
end Go.Proofs.YthoonfpkfdjhiaaGreatDoor
end
