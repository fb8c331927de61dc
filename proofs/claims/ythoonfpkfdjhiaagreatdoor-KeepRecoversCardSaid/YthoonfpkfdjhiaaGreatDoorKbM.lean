/- Texts of one chain, put together (BN9, BN10, BN1b, Vs, BShelf, Q21, Le, Sr, Q2, Q3). -/
import Derived.Test.YthoonfpkfdjhiaaGreatDoorKbL
import Derived.Test.YthoonfpkfdjhiaaGreatDoorKbK
import Derived.Test.YthoonfpkfdjhiaaGreatDoorKbF
import Derived.Test.YthoonfpkfdjhiaaGreatDoorKbG
import Derived.Shelf.Bits.Mul64
import Derived.Shelf.SlIter.Sorted
import Derived.Shelf.SortM.Plain
import Derived.Shelf.SortM.SortNone
import Derived.Ground.GgzProg
import Derived.Ground.SlgmProg
import Derived.Test.YthoonfpkfdjhiaaGreatDoorProg
import Derived.Test.YthoonfpkfdjhiaaGreatDoorKbE
import Derived.Test.YthoonfpkfdjhiaaGreatDoorKbD
import Derived.RangeFuncBox
import Derived.RangeFuncLeaves
import Derived.Shelf.Abstract
import Derived.WalkKit
import Derived.OwnWalkIn
import Derived.TacticsInMore
import Derived.LoopNIn
import Derived.LoopIn
import Derived.Test.YthoonfpkfdjhiaaGreatDoorKbA
set_option linter.unusedVariables false
set_option linter.unusedSimpArgs false
set_option maxHeartbeats 16000000
set_option maxRecDepth 8000
section
namespace Go.Proofs.YthoonfpkfdjhiaaGreatDoor
open Go Go.az Go.RowKit Go.Bk
theorem ME{x:Ex}(h:dj x=true):x.au≤4611686018427387904∧0≤x.time∧x.time≤4611686018427387904:=by
 simp only[dj,ch,cp,Bool.and_eq_true,decide_eq_true_eq] at h
 omega
theorem D9{b:Bk}{x:Ex}(h:x.time<b.clock):ck b x=(b,1):=by unfold ck;rw[if_pos h]
section
variable{b:Bk}{x:Ex}(h0:¬x.time<b.clock)
include h0
theorem Ed(hk:x.kind=1)(h:¬(dV b.aq (kP x)).2=0):ck b x=(b,2):=by unfold ck;rw[if_neg h0,if_pos hk];simp only[if_neg h]
theorem Ee(hk:x.kind=1)(h:(dV b.aq (kP x)).2=0):ck b x=(⟨(dV b.aq (kP x)).1,b.av,b.ids,b.clock,b.bad⟩,0):=by unfold ck;rw[if_neg h0,if_pos hk];simp only[if_pos h]
variable(hk1:¬x.kind=1)
include hk1
theorem xH(hk:x.kind=7∨x.kind=8):ck b x=cV b x:=by unfold ck;rw[if_neg h0,if_neg hk1,if_pos hk]
variable(hk7:¬x.kind=7)(hk8:¬x.kind=8)
include hk7 hk8
variable{id:Bs}(hid:(if x.kind=4 then x.ref else x.ord)=id)
include hid
theorem sc(h:(findF b.aq id).2=false∨(findF b.aq id).1.b9=false):ck b x=(b,2):=by
 unfold ck;rw[if_neg h0,if_neg hk1,if_neg (by simp[hk7,hk8])];simp only[hid];rw[if_pos h]
variable(g1:(findF b.aq id).2=true)(g2:(findF b.aq id).1.b9=true)
include g1 g2
theorem o0(h:(findF b.aq id).1.acc≠x.acc∨(findF b.aq id).1.sym≠x.sym∨(findF b.aq id).1.aD≠x.aD):ck b x=(b,3):=by
 unfold ck;rw[if_neg h0,if_neg hk1,if_neg (by simp[hk7,hk8])];simp only[hid];rw[if_neg (by simp[g1,g2]),if_pos h]
variable(g3:(findF b.aq id).1.acc=x.acc)(g4:(findF b.aq id).1.sym=x.sym)(g5:(findF b.aq id).1.aD=x.aD)
include g3 g4 g5
theorem Ec(hk:x.kind=2):ck b x=ek b x:=by
 unfold ck;rw[if_neg h0,if_neg hk1,if_neg (by simp[hk7,hk8])];simp only[hid];rw[if_neg (by simp[g1,g2]),if_neg (by simp[g3,g4,g5]),if_pos hk]
variable(hk2:¬x.kind=2)
include hk2
theorem Ef(hk:x.kind=4):ck b x=eJ b x:=by
 unfold ck;rw[if_neg h0,if_neg hk1,if_neg (by simp[hk7,hk8])];simp only[hid];rw[if_neg (by simp[g1,g2]),if_neg (by simp[g3,g4,g5]),if_neg hk2,if_pos hk]
variable(hk4:¬x.kind=4)
include hk4
theorem Ea(h:¬(ej b.aq x.ord).2=0):ck b x=(b,2):=by
 unfold ck;rw[if_neg h0,if_neg hk1,if_neg (by simp[hk7,hk8])];simp only[hid];rw[if_neg (by simp[g1,g2]),if_neg (by simp[g3,g4,g5]),if_neg hk2,if_neg hk4];simp only[if_neg h]
theorem Eb(h:(ej b.aq x.ord).2=0):ck b x=(⟨(ej b.aq x.ord).1,b.av,b.ids,b.clock,b.bad⟩,0):=by
 unfold ck;rw[if_neg h0,if_neg hk1,if_neg (by simp[hk7,hk8])];simp only[hid];rw[if_neg (by simp[g1,g2]),if_neg (by simp[g3,g4,g5]),if_neg hk2,if_neg hk4];simp only[if_pos h]
end
theorem jb:∀i,i≠2→i<5→cC [0,1,2,3,4] i=some i:=by
 intro i h1 h2
 have:i=0∨i=1∨i=3∨i=4:=by omega
 rcases this with rfl|rfl|rfl|rfl<;>rfl
theorem iW{os ids y1 y2:AV}{k c m:Nat}{l:List Dn}{x:Ex}{rest:List (Option (List AV))}(h0:os.cf (cC [0,1,2,3,4])=os)(hi:ids.cf (cC [0,1,2,3,4])=ids)(h1:y1.cf (cC [0,1,2,3,4])=y1)(h2:y2.cf (cC [0,1,2,3,4])=y2):
 jG (Z0::some [.agg [os,.mu 2 9 0 k c,ids,y1,y2]]::some (l.map cK++spare 9 m)::some [ao x]::some [ao x]::rest) [0,1,2,3,4]=[Z0,some [.agg [os,.mu 2 9 0 k c,ids,y1,y2]],some (l.map cK++spare 9 m),some [ao x],some [ao x]]:=by
 show[Z0,some [.agg [os.cf _,.mu 2 9 0 k c,ids.cf _,y1.cf _,y2.cf _]],some ((l.map cK++spare 9 m).map _),some [ao x],some [ao x]]=_
 rw[pd,h0,hi,h1,h2]
theorem qQ{n k:Nat}(h:n≤k){x:AV}(hx:fw n x=true):fw k x=true:=by
 cases x<;>simp only[fw,Bool.and_eq_true,bne_iff_ne,decide_eq_true_eq] at hx ⊢ <;>first|(exact⟨hx.1,by omega⟩)|(simp at hx;done)|skip
 case sl t k es=>cases t<;>simp[fw] at hx ⊢;exact hx
 case fn f cs=>cases cs<;>simp[fw] at hx ⊢
theorem RR{n k:Nat}(h:n≤k){x:AV}(hx:kp n x=true):kp k x=true:=by
 cases x with
 |agg cs=>exact List.all_eq_true.2 fun y hy=>qQ h (List.all_eq_true.1 hx y hy)
 |ax cs=>simp[kp,fw] at hx
 |fn f cs=>exact qQ (x:= .fn f cs) h hx
 |sl t k es=>exact qQ (x:= .sl t k es) h hx
 |mu id k o l c=>exact qQ (x:= .mu id k o l c) h hx
 |ptr id i o=>exact qQ (x:= .ptr id i o) h hx
 |_=>rfl
theorem py{n k:Nat}(h:n≤k){l up:List AV}(h1:l.all (kp k)=true)(h2:up.all (kp n)=true):(l++up).all (kp k)=true:=by
 rw[List.all_append,h1,Bool.true_and]
 exact List.all_eq_true.2 fun x hx=>RR h (List.all_eq_true.1 h2 x hx)
theorem xi{no nt:Nat}:∀{l r:List (Option (List AV))},iN no nt l=true→gn no nt (l++r) l
 |[],_,_=>by unfold gn;trivial
 |x::l,r,h=>by
  simp only[iN,List.all_cons,Bool.and_eq_true] at h
  refine⟨.inr ⟨rfl,fun es hes e he z hz=>?_⟩,xi h.2⟩
  have h1:=h.1
  rw[hes] at h1
  exact List.all_eq_true.1 (List.all_eq_true.1 h1 e he) z hz
theorem aa.cut{E:Env}{c:Code}{Q:Exit→St→Prop}{tmps tmps' up:List AV}{own' rest:List (Option (List AV))}{tk':List Nat}{gl:Nat→Option (List AV)}{n:Nat}(hup:up.all (kp n)=true)(hn:n≤own'.length)(h0:1≤tk'.length)(hb:iN own'.length tk'.length own'=true)(h1:jP own'.length tk'.length tmps tmps')(hk:jm tk' tk')
 (hw:aa E c Q ⟨tmps',own',tk',gl,none,up⟩):aa E c Q ⟨tmps,own'++rest,tk',gl,none,up⟩:=
 aa.weaken (t:=⟨tmps',own',tk',gl,none,up⟩) ⟨h1,xi hb,hk,rfl,rfl,rfl,List.all_eq_true.2 fun x hx=>vA hn h0 (List.all_eq_true.1 hup x hx)⟩ hw
set_option maxRecDepth 100000 in
theorem Eo{ops:Array Oper}{l:List Oper}{Q:Exit→St→Prop}{tmps up:List AV}{gl:Nat→Option (List AV)}{b:Bk}{x:Ex}{m:Nat}{dst:Option Tmp}{x0 x1:Operand}{tys:Array TypeId}{ty:TypeId}{pos:String}{after:Array Edge}
 (hx0:St.ev ⟨tmps,[Z0,some [aT b m],some (aR b m),some [ao x],some [ao x]],[b.ids.length],gl,none,up⟩ x0= .ptr 1 0 0) (hx1:St.ev ⟨tmps,[Z0,some [aT b m],some (aR b m),some [ao x],some [ao x]],[b.ids.length],gl,none,up⟩ x1=ao x)
 (hx:dj x=true) (htf:∀f∈b.av,0≤f.time∧f.time≤4611686018427387904) (ho:b.aq.length≤1000000) (hf:b.av.length≤1000000) (hup:(tmps++up).all (kp 5)=true)
 (h:∀(b':Bk) (e:Int) (m':Nat),ck b x=(b',e)→al E ops l Q (St.put ⟨tmps,[Z0,some [aT b' m'],some (aR b' m'),some [ao x],some [ao x]],[b'.ids.length],gl,none,up⟩ dst (i64 e))):
 al E ops (⟨dst,.call ⟨.value (.func 211),#[x0,x1],tys⟩,ty,pos,after,none⟩::l) Q ⟨tmps,[Z0,some [aT b m],some (aR b m),some [ao x],some [ao x]],[b.ids.length],gl,none,up⟩:=by
 refine al.call (caps:=[]) (rs:=[.tmp 4]) Tryz.func211 rfl Tryz.ntmps211 rfl ae rfl rfl ?_
 show aa E _ _ ⟨([St.ev ⟨tmps,[Z0,some [aT b m],some (aR b m),some [ao x],some [ao x]],[b.ids.length],gl,none,up⟩ x0,St.ev ⟨tmps,[Z0,some [aT b m],some (aR b m),some [ao x],some [ao x]],[b.ids.length],gl,none,up⟩ x1]++[])++List.replicate (126-2) (.v undef),[Z0,some [aT b m],some (aR b m),some [ao x],some [ao x]],[b.ids.length],gl,none,tmps++up⟩
 rw[hx0,hx1]
 have hK:∀(tm:List AV) (ow:List (Option (List AV))) (tk:List Nat) (b':Bk) (e:Int) (m':Nat),ck b x=(b',e)→ow=[Z0,some [aT b' m'],some (aR b' m'),some [ao x],some [ao x]]→tk=[b'.ids.length]→tm[4]?=some (i64 e)→bW E.P [.tmp 4] ⟨tmps,[Z0,some [aT b m],some (aR b m),some [ao x],some [ao x]],[b.ids.length],gl,none,up⟩ (fun s z=>al E ops l Q (s.put dst z)) .ret ⟨tm,ow,tk,gl,none,tmps++up⟩:=by
  intro tm ow tk b' e m' hb' how htk h4
  subst how;subst htk
  refine⟨rfl,?_⟩
  have:St.ev ⟨tm,[Z0,some [aT b' m'],some (aR b' m'),some [ao x],some [ao x]],[b'.ids.length],gl,none,tmps++up⟩ (.tmp 4)=i64 e:=by simp[St.ev,List.getD_eq_getElem?_getD,h4]
  show al E ops l Q (St.put _ dst (fB [St.ev _ (.tmp 4)]))
  rw[this]
  exact h b' e m' hb'
 generalize bW E.P [.tmp 4] ⟨tmps,[Z0,some [aT b m],some (aR b m),some [ao x],some [ao x]],[b.ids.length],gl,none,up⟩ (fun s z=>al E ops l Q (s.put dst z))=Q' at hK ⊢
 generalize tmps++up=up' at hup hK ⊢
 clear h hx0 hx1
 have hxx:=ME hx
 have hq:=hxx.1
 have htx:=hxx.2
 refine aa.ah fun K1 hK1=>?_
 refine aa.region ?_
 simp only[go_sem]
 refine hK1 _ ?_;clear hK1 K1
 refine aa.ah fun K2 hK2=>?_
 refine aa.ah fun K3 hK3=>?_
 refine aa.bB [0,1,2,3,4,5,6] [] ae ae rfl ?_
 simp only[go_sem]
 refine hK3 _ ?_;clear hK3 K3
 refine aa.cond rfl (fun c18=>?_) (fun c18=>?_)
 ·(
  try simp only[dD] at c18
  refine aa.ah fun K4 hK4=>?_
  refine aa.region ?_
  simp only[go_sem]
  refine hK4 _ ?_;clear hK4 K4
  refine aa.dL [0,1,2,3,4] [Z0,some [aT b m],some (aR b m),some [ao x],some [ao x]] [b.ids.length] 5 aj jb hup (Nat.le_refl _) (iW rfl rfl rfl rfl) iB ⟨rfl,trivial⟩ (Nat.le_refl _) ?_
  refine aa.ret ?_
  try simp only[go_sem]
  clear hK2 K2
  (exact hK _ _ _ b _ m (D9 af) rfl rfl rfl))
 ·(
  try simp only[dD] at c18
  refine aa.skip ?_
  refine hK2 _ ?_;clear hK2 K2
  refine aa.ah fun K5 hK5=>?_
  refine aa.ah fun K6 hK6=>?_
  refine aa.region ?_
  simp only[go_sem]
  refine hK6 _ ?_;clear hK6 K6
  refine aa.block ?_
  refine aa.ah fun K7 hK7=>?_
  refine aa.region ?_
  simp only[go_sem]
  refine hK7 _ ?_;clear hK7 K7
  refine aa.cond rfl (fun c21=>?_) (fun c21=>?_)
  ·(
   try simp only[dD] at c21
   refine aa.ah fun K8 hK8=>?_
   refine aa.bB [0,1,2,3,4,5,6,7,8,9,10,11,12,13,14,15,16,17,18,19,20,21,22] [] ae ae rfl ?_
   simp only[go_sem]
   repeat'((refine ak.of (Vb b.aq (kP x) ab) ae rfl ?_;rintro r t ⟨⟨y,rfl,hy⟩,rfl⟩<;>simp only[go_sem]))
   refine hK8 _ ?_;clear hK8 K8
   refine aa.ah fun K9 hK9=>?_
   refine aa.ah fun K10 hK10=>?_
   refine aa.region ?_
   simp only[go_sem]
   refine hK10 _ ?_;clear hK10 K10
   refine aa.cond rfl (fun c45=>?_) (fun c45=>?_)
   ·(
    try simp only[dD] at c45
    refine aa.ah fun K11 hK11=>?_
    refine aa.region ?_
    simp only[go_sem]
    refine hK11 _ ?_;clear hK11 K11
    refine aa.dL [0,1,2,3,4] [Z0,some [aT b m],some (aR b m),some [ao x],some [ao x]] [b.ids.length] 5 aj jb hup (Nat.le_refl _) (iW rfl rfl rfl rfl) iB ⟨rfl,trivial⟩ (Nat.le_refl _) ?_
    refine aa.ret ?_
    try simp only[go_sem]
    clear hK9 K9 hK5 K5
    (exact hK _ _ _ b _ m (Ed af af ab) rfl rfl rfl))
   ·(
    try simp only[dD] at c45
    refine aa.skip ?_
    refine hK9 _ ?_;clear hK9 K9
    refine aa.ah fun K12 hK12=>?_
    have hx9:=hy ab
    subst hx9
    refine aa.region ?_
    simp only[go_sem]
    refine hK12 _ ?_;clear hK12 K12
    refine aa.ah fun K13 hK13=>?_
    refine aa.region ?_
    simp only[go_sem]
    refine hK13 _ ?_;clear hK13 K13
    refine aa.dL [0,1,2,3,4] [Z0,some [aT ⟨(dV b.aq (kP x)).1,b.av,b.ids,b.clock,b.bad⟩ m],some (aR ⟨(dV b.aq (kP x)).1,b.av,b.ids,b.clock,b.bad⟩ m),some [ao x],some [ao x]] [b.ids.length] 5 aj jb hup (Nat.le_refl _) (iW rfl rfl rfl rfl) iB ⟨rfl,trivial⟩ (Nat.le_refl _) ?_
    refine aa.ret ?_
    try simp only[go_sem]
    clear hK5 K5
    (exact hK _ _ _ _ _ m (Ee af af ab) rfl rfl rfl)))
  ·(
   try simp only[dD] at c21
   refine aa.ah fun K14 hK14=>?_
   refine aa.ah fun K15 hK15=>?_
   refine aa.region ?_
   simp only[go_sem]
   refine hK15 _ ?_;clear hK15 K15
   refine aa.cond rfl (fun c50=>?_) (fun c50=>?_)
   ·(
    try simp only[dD] at c50
    refine aa.skip ?_
    refine hK14 _ ?_;clear hK14 K14
    refine aa.cond rfl (fun c50=>?_) (fun c50=>?_)
    ·(
     try simp only[dD] at c50
     refine aa.ah fun K16 hK16=>?_
     refine aa.aW ?_
     refine al.app (l1:=[_,_]) (l2:=_::_) ?_
     simp only[go_sem]
     refine xF (b:=b) (x:=x) (m:=m) rfl rfl htx htf ho hf (py aj rfl hup) ?_
     intro b2 e2 m2 hb2
     refine al.of ?_
     simp only[go_sem]
     refine hK16 _ ?_;clear hK16 K16
     refine aa.dL [0,1,2,3,4] [Z0,some [aT b2 m2],some (aR b2 m2),some [ao x],some [ao x]] [b2.ids.length] 5 aj jb hup (Nat.le_refl _) (iW rfl rfl rfl rfl) iB ⟨rfl,trivial⟩ (Nat.le_refl _) ?_
     refine aa.ret ?_
     try simp only[go_sem]
     clear hK5 K5
     (exact hK _ _ _ b2 _ m2 ((xH af af (.inl af)).trans hb2) rfl rfl rfl))
    ·((try simp only[dD] at c50);exfalso;omega))
   ·(
    try simp only[dD] at c50
    refine aa.region ?_
    simp only[go_sem]
    refine hK14 _ ?_;clear hK14 K14
    refine aa.cond rfl (fun c50=>?_) (fun c50=>?_)
    ·(
     try simp only[dD] at c50
     refine aa.ah fun K58 hK58=>?_
     refine aa.aW ?_
     refine al.app (l1:=[_,_]) (l2:=_::_) ?_
     simp only[go_sem]
     refine xF (b:=b) (x:=x) (m:=m) rfl rfl htx htf ho hf (py aj rfl hup) ?_
     intro b2 e2 m2 hb2
     refine al.of ?_
     simp only[go_sem]
     refine hK58 _ ?_;clear hK58 K58
     refine aa.dL [0,1,2,3,4] [Z0,some [aT b2 m2],some (aR b2 m2),some [ao x],some [ao x]] [b2.ids.length] 5 aj jb hup (Nat.le_refl _) (iW rfl rfl rfl rfl) iB ⟨rfl,trivial⟩ (Nat.le_refl _) ?_
     refine aa.ret ?_
     try simp only[go_sem]
     clear hK5 K5
     (exact hK _ _ _ b2 _ m2 ((xH af af (.inr af)).trans hb2) rfl rfl rfl))
    ·(
     try simp only[dD] at c50
     refine aa.skip ?_
     refine hK5 _ ?_;clear hK5 K5
     refine aa.ah fun K59 hK59=>?_
     refine aa.region ?_
     simp only[go_sem]
     refine hK59 _ ?_;clear hK59 K59
     refine aa.ah fun K60 hK60=>?_
     refine aa.ah fun K61 hK61=>?_
     refine aa.region ?_
     simp only[go_sem]
     refine hK61 _ ?_;clear hK61 K61
     refine aa.cond rfl (fun c60=>?_) (fun c60=>?_)
     ·(
      try simp only[dD] at c60
      refine aa.region ?_
      simp only[go_sem]
      refine hK60 _ ?_;clear hK60 K60
      refine aa.ah fun K62 hK62=>?_
      refine aa.region ?_
      simp only[go_sem]
      repeat'((refine ak.one (s5 b.aq x.ref ab) ae rfl ?_;simp only[go_sem]))
      refine hK62 _ ?_;clear hK62 K62
      refine aa.ah fun K63 hK63=>?_
      refine aa.ah fun K64 hK64=>?_
      refine aa.region ?_
      simp only[go_sem]
      repeat'((refine aP.split (fun h=>?_) (fun h=>?_)<;>simp only[h,go_sem]<;>try simp only[dD] at h))
      all_goals(
       refine hK64 _ ?_;clear hK64 K64
       refine aa.cond rfl (fun c78=>?_) (fun c78=>?_)
       ·(
        try simp only[dD] at c78
        refine aa.ah fun K65 hK65=>?_
        refine aa.region ?_
        simp only[go_sem]
        refine hK65 _ ?_;clear hK65 K65
        refine aa.dL [0,1,2,3,4] [Z0,some [aT b m],some (aR b m),some [ao x],some [ao x]] [b.ids.length] 5 aj jb hup (Nat.le_refl _) (iW rfl rfl rfl rfl) iB ⟨rfl,trivial⟩ (Nat.le_refl _) ?_
        refine aa.ret ?_
        try simp only[go_sem]
        clear hK63 K63
        first
        |exact hK _ _ _ b _ m (sc af af af af (id:=x.ref) (if_pos af) (.inl af)) rfl rfl rfl
        |exact hK _ _ _ b _ m (sc af af af af (id:=x.ref) (if_pos af) (.inr af)) rfl rfl rfl)
       ·first|exact Bool.noConfusion c78|(
        try simp only[dD] at c78
        refine aa.skip ?_
        refine hK63 _ ?_;clear hK63 K63
        refine aa.ah fun K66 hK66=>?_
        refine aa.ah fun K67 hK67=>?_
        refine aa.region ?_
        simp only[go_sem]
        repeat'((refine aP.split (fun h=>?_) (fun h=>?_)<;>simp only[h,go_sem]<;>try simp only[dD] at h))
        all_goals(
         refine hK67 _ ?_;clear hK67 K67
         refine aa.cond rfl (fun c97=>?_) (fun c97=>?_)
         ·(
          try simp only[dD] at c97
          refine aa.ah fun K68 hK68=>?_
          refine aa.region ?_
          simp only[go_sem]
          refine hK68 _ ?_;clear hK68 K68
          refine aa.dL [0,1,2,3,4] [Z0,some [aT b m],some (aR b m),some [ao x],some [ao x]] [b.ids.length] 5 aj jb hup (Nat.le_refl _) (iW rfl rfl rfl rfl) iB ⟨rfl,trivial⟩ (Nat.le_refl _) ?_
          refine aa.ret ?_
          try simp only[go_sem]
          clear hK66 K66
          first
          |exact hK _ _ _ b _ m (o0 af af af af (id:=x.ref) (if_pos af) af af (.inl af)) rfl rfl rfl
          |exact hK _ _ _ b _ m (o0 af af af af (id:=x.ref) (if_pos af) af af (.inr (.inl af))) rfl rfl rfl
          |exact hK _ _ _ b _ m (o0 af af af af (id:=x.ref) (if_pos af) af af (.inr (.inr af))) rfl rfl rfl)
         ·first|exact Bool.noConfusion c97|(
          try simp only[dD] at c97
          refine aa.skip ?_
          refine hK66 _ ?_;clear hK66 K66
          refine aa.ah fun K69 hK69=>?_
          refine aa.ah fun K70 hK70=>?_
          refine aa.region ?_
          simp only[go_sem]
          refine hK70 _ ?_;clear hK70 K70
          refine aa.block ?_
          refine aa.ah fun K71 hK71=>?_
          refine aa.region ?_
          simp only[go_sem]
          refine hK71 _ ?_;clear hK71 K71
          refine aa.cond rfl (fun c100=>?_) (fun c100=>?_)
          ·((try simp only[dD] at c100);exfalso;omega)
          ·(
           try simp only[dD] at c100
           refine aa.ah fun K73 hK73=>?_
           refine aa.region ?_
           simp only[go_sem]
           refine hK73 _ ?_;clear hK73 K73
           refine aa.cond rfl (fun c105=>?_) (fun c105=>?_)
           ·(
            try simp only[dD] at c105
            refine aa.ah fun K74 hK74=>?_
            refine aa.cut (tmps':=[.ptr 1 0 0,.any,.any,.ptr 5 0 0]++List.replicate 122 .any) (own':=[Z0,some [aT b m],some (aR b m),some [ao x],some [ao x],some [ao x]]) (rest:=[_]) hup (Nat.le_of_ble_eq_true rfl) (Nat.le_refl _) hP (by repeat'(first|exact trivial|exact .inl rfl|exact .inr ⟨rfl,rfl⟩|refine And.intro ?_ ?_)) ⟨rfl,trivial⟩ ?_;simp only[go_sem]
            refine aa.aW ?_
            refine al.app (l1:=[_,_]) (l2:=_::_) ?_
            simp only[go_sem]
            refine WY (b:=b) (x:=x) (m:=m) rfl rfl  ho hf (py aj rfl hup) ?_
            intro b2 e2 m2 hb2
            refine al.of ?_
            simp only[go_sem]
            refine hK74 _ ?_;clear hK74 K74
            refine aa.dL [0,1,2,3,4] [Z0,some [aT b2 m2],some (aR b2 m2),some [ao x],some [ao x]] [b2.ids.length] 5 aj jb hup (Nat.le_refl _) (iW rfl rfl rfl rfl) iB ⟨rfl,trivial⟩ (Nat.le_refl _) ?_
            refine aa.ret ?_
            try simp only[go_sem]
            clear hK69 K69
            (exact hK _ _ _ b2 _ m2 ((Ef af af af af (id:=x.ref) (if_pos af) af af af af af af af).trans hb2) rfl rfl rfl))
           ·((try simp only[dD] at c105);exfalso;omega)))))))
     ·(
      try simp only[dD] at c60
      refine aa.skip ?_
      refine hK60 _ ?_;clear hK60 K60
      refine aa.ah fun K81 hK81=>?_
      refine aa.region ?_
      simp only[go_sem]
      repeat'((refine ak.one (s5 b.aq x.ord ab) ae rfl ?_;simp only[go_sem]))
      refine hK81 _ ?_;clear hK81 K81
      refine aa.ah fun K82 hK82=>?_
      refine aa.ah fun K83 hK83=>?_
      refine aa.region ?_
      simp only[go_sem]
      repeat'((refine aP.split (fun h=>?_) (fun h=>?_)<;>simp only[h,go_sem]<;>try simp only[dD] at h))
      all_goals(
       refine hK83 _ ?_;clear hK83 K83
       refine aa.cond rfl (fun c78=>?_) (fun c78=>?_)
       ·(
        try simp only[dD] at c78
        refine aa.ah fun K84 hK84=>?_
        refine aa.region ?_
        simp only[go_sem]
        refine hK84 _ ?_;clear hK84 K84
        refine aa.dL [0,1,2,3,4] [Z0,some [aT b m],some (aR b m),some [ao x],some [ao x]] [b.ids.length] 5 aj jb hup (Nat.le_refl _) (iW rfl rfl rfl rfl) iB ⟨rfl,trivial⟩ (Nat.le_refl _) ?_
        refine aa.ret ?_
        try simp only[go_sem]
        clear hK82 K82
        first
        |exact hK _ _ _ b _ m (sc af af af af (id:=x.ord) (if_neg af) (.inl af)) rfl rfl rfl
        |exact hK _ _ _ b _ m (sc af af af af (id:=x.ord) (if_neg af) (.inr af)) rfl rfl rfl)
       ·first|exact Bool.noConfusion c78|(
        try simp only[dD] at c78
        refine aa.skip ?_
        refine hK82 _ ?_;clear hK82 K82
        refine aa.ah fun K85 hK85=>?_
        refine aa.ah fun K86 hK86=>?_
        refine aa.region ?_
        simp only[go_sem]
        repeat'((refine aP.split (fun h=>?_) (fun h=>?_)<;>simp only[h,go_sem]<;>try simp only[dD] at h))
        all_goals(
         refine hK86 _ ?_;clear hK86 K86
         refine aa.cond rfl (fun c97=>?_) (fun c97=>?_)
         ·(
          try simp only[dD] at c97
          refine aa.ah fun K87 hK87=>?_
          refine aa.region ?_
          simp only[go_sem]
          refine hK87 _ ?_;clear hK87 K87
          refine aa.dL [0,1,2,3,4] [Z0,some [aT b m],some (aR b m),some [ao x],some [ao x]] [b.ids.length] 5 aj jb hup (Nat.le_refl _) (iW rfl rfl rfl rfl) iB ⟨rfl,trivial⟩ (Nat.le_refl _) ?_
          refine aa.ret ?_
          try simp only[go_sem]
          clear hK85 K85
          first
          |exact hK _ _ _ b _ m (o0 af af af af (id:=x.ord) (if_neg af) af af (.inl af)) rfl rfl rfl
          |exact hK _ _ _ b _ m (o0 af af af af (id:=x.ord) (if_neg af) af af (.inr (.inl af))) rfl rfl rfl
          |exact hK _ _ _ b _ m (o0 af af af af (id:=x.ord) (if_neg af) af af (.inr (.inr af))) rfl rfl rfl)
         ·first|exact Bool.noConfusion c97|(
          try simp only[dD] at c97
          refine aa.skip ?_
          refine hK85 _ ?_;clear hK85 K85
          refine aa.ah fun K88 hK88=>?_
          refine aa.ah fun K89 hK89=>?_
          refine aa.region ?_
          simp only[go_sem]
          refine hK89 _ ?_;clear hK89 K89
          refine aa.block ?_
          refine aa.ah fun K90 hK90=>?_
          refine aa.region ?_
          simp only[go_sem]
          refine hK90 _ ?_;clear hK90 K90
          refine aa.cond rfl (fun c100=>?_) (fun c100=>?_)
          ·(
           try simp only[dD] at c100
           refine aa.ah fun K91 hK91=>?_
           refine aa.cut (tmps':=[.ptr 1 0 0,.any,.any,.ptr 5 0 0]++List.replicate 122 .any) (own':=[Z0,some [aT b m],some (aR b m),some [ao x],some [ao x],some [ao x]]) (rest:=[_]) hup (Nat.le_of_ble_eq_true rfl) (Nat.le_refl _) hP (by repeat'(first|exact trivial|exact .inl rfl|exact .inr ⟨rfl,rfl⟩|refine And.intro ?_ ?_)) ⟨rfl,trivial⟩ ?_;simp only[go_sem]
           refine aa.aW ?_
           refine al.app (l1:=[_,_]) (l2:=_::_) ?_
           simp only[go_sem]
           refine OO (b:=b) (x:=x) (m:=m) rfl rfl hq ho hf (py aj rfl hup) ?_
           intro b2 e2 m2 hb2
           refine al.of ?_
           simp only[go_sem]
           refine hK91 _ ?_;clear hK91 K91
           refine aa.dL [0,1,2,3,4] [Z0,some [aT b2 m2],some (aR b2 m2),some [ao x],some [ao x]] [b2.ids.length] 5 aj jb hup (Nat.le_refl _) (iW rfl rfl rfl rfl) iB ⟨rfl,trivial⟩ (Nat.le_refl _) ?_
           refine aa.ret ?_
           try simp only[go_sem]
           clear hK88 K88
           (exact hK _ _ _ b2 _ m2 ((Ec af af af af (id:=x.ord) (if_neg af) af af af af af af).trans hb2) rfl rfl rfl))
          ·(
           try simp only[dD] at c100
           refine aa.ah fun K92 hK92=>?_
           refine aa.region ?_
           simp only[go_sem]
           refine hK92 _ ?_;clear hK92 K92
           refine aa.cond rfl (fun c105=>?_) (fun c105=>?_)
           ·((try simp only[dD] at c105);exfalso;omega)
           ·(
            try simp only[dD] at c105
            refine aa.skip ?_
            refine hK88 _ ?_;clear hK88 K88
            refine aa.ah fun K94 hK94=>?_
            refine aa.bB [0,1,2,3,4,5,6,7,8,9,10,11] [] ae ae rfl ?_
            simp only[go_sem]
            repeat'((refine ak.of (UL b.aq x.ord ab) ae rfl ?_;rintro r t ⟨⟨y,rfl,hy⟩,rfl⟩<;>simp only[go_sem]))
            refine hK94 _ ?_;clear hK94 K94
            refine aa.ah fun K95 hK95=>?_
            refine aa.ah fun K96 hK96=>?_
            refine aa.region ?_
            simp only[go_sem]
            refine hK96 _ ?_;clear hK96 K96
            refine aa.cond rfl (fun c121=>?_) (fun c121=>?_)
            ·(
             try simp only[dD] at c121
             refine aa.ah fun K97 hK97=>?_
             refine aa.region ?_
             simp only[go_sem]
             refine hK97 _ ?_;clear hK97 K97
             refine aa.dL [0,1,2,3,4] [Z0,some [aT b m],some (aR b m),some [ao x],some [ao x]] [b.ids.length] 5 aj jb hup (Nat.le_refl _) (iW rfl rfl rfl rfl) iB ⟨rfl,trivial⟩ (Nat.le_refl _) ?_
             refine aa.ret ?_
             try simp only[go_sem]
             clear hK95 K95
             (exact hK _ _ _ b _ m (Ea af af af af (id:=x.ord) (if_neg af) af af af af af af af ab) rfl rfl rfl))
            ·(
             try simp only[dD] at c121
             refine aa.skip ?_
             refine hK95 _ ?_;clear hK95 K95
             refine aa.ah fun K98 hK98=>?_
             have hx9:=hy ab
             subst hx9
             refine aa.region ?_
             simp only[go_sem]
             refine hK98 _ ?_;clear hK98 K98
             refine aa.ah fun K99 hK99=>?_
             refine aa.region ?_
             simp only[go_sem]
             refine hK99 _ ?_;clear hK99 K99
             refine aa.dL [0,1,2,3,4] [Z0,some [aT ⟨(ej b.aq x.ord).1,b.av,b.ids,b.clock,b.bad⟩ m],some (aR ⟨(ej b.aq x.ord).1,b.av,b.ids,b.clock,b.bad⟩ m),some [ao x],some [ao x]] [b.ids.length] 5 aj jb hup (Nat.le_refl _) (iW rfl rfl rfl rfl) iB ⟨rfl,trivial⟩ (Nat.le_refl _) ?_
             refine aa.ret ?_
             try simp only[go_sem]
             (exact hK _ _ _ _ _ m (Eb af af af af (id:=x.ord) (if_neg af) af af af af af af af ab) rfl rfl rfl)))))))))))))
theorem CY{b:Bk}{x:Ex}(h:b.bad≠0∨256≤b.ids.length):cT b x=(b,4):=by unfold cT;rw[if_pos h]
theorem Zw{b:Bk}{x:Ex}(h0:b.bad=0)(h1:¬256≤b.ids.length)(h:nS b.ids x.id=true):cT b x=(b,2):=by unfold cT;rw[if_neg (by simp[h0];omega),if_pos h]
theorem Zx{b b2:Bk}{x:Ex}{e:Int}(h0:b.bad=0)(h1:¬256≤b.ids.length)(h:nS b.ids x.id=false)(hb:ck ⟨b.aq,b.av,b.ids++[x.id],b.clock,b.bad⟩ x=(b2,e))(he:¬e=0):cT b x=(⟨b2.aq,b2.av,b2.ids,b2.clock,e⟩,3):=by
 unfold cT;rw[if_neg (by simp[h0];omega),if_neg (by simp[h])]
 have hb':ck { b with ids:=b.ids++[x.id] } x=(b2,e):=hb
 simp only[hb']
 rw[if_pos he]
theorem Zv{b b2:Bk}{x:Ex}{e:Int}(h0:b.bad=0)(h1:¬256≤b.ids.length)(h:nS b.ids x.id=false)(hb:ck ⟨b.aq,b.av,b.ids++[x.id],b.clock,b.bad⟩ x=(b2,e))(he:e=0):cT b x=(⟨b2.aq,b2.av,b2.ids,x.time,b2.bad⟩,1):=by
 unfold cT;rw[if_neg (by simp[h0];omega),if_neg (by simp[h])]
 have hb':ck { b with ids:=b.ids++[x.id] } x=(b2,e):=hb
 simp only[hb']
 rw[if_neg (by simp[he])]
theorem tF:∀i,i≠2→i<4→cC [0,1,2,3] i=some i:=by
 intro i h1 h2
 have:i=0∨i=1∨i=3:=by omega
 rcases this with rfl|rfl|rfl<;>rfl
theorem tc{os ids y1 y2:AV}{k c m:Nat}{l:List Dn}{x:Ex}{rest:List (Option (List AV))}(h0:os.cf (cC [0,1,2,3])=os)(hi:ids.cf (cC [0,1,2,3])=ids)(h1:y1.cf (cC [0,1,2,3])=y1)(h2:y2.cf (cC [0,1,2,3])=y2):
 jG (Z0::some [.agg [os,.mu 2 9 0 k c,ids,y1,y2]]::some (l.map cK++spare 9 m)::some [ao x]::rest) [0,1,2,3]=[Z0,some [.agg [os,.mu 2 9 0 k c,ids,y1,y2]],some (l.map cK++spare 9 m),some [ao x]]:=by
 show[Z0,some [.agg [os.cf _,.mu 2 9 0 k c,ids.cf _,y1.cf _,y2.cf _]],some ((l.map cK++spare 9 m).map _),some [ao x]]=_
 rw[pd,h0,hi,h1,h2]
theorem TH(l:List Bs)(s:Bs):l.map str++[str s]=(l++[s]).map str:=by simp
theorem aa.LG{E:Env}{c:Code}{Q:Exit→St→Prop}{tmps tmps' up:List AV}{own' rest:List (Option (List AV))}{tk tk':List Nat}{gl:Nat→Option (List AV)}{n:Nat}(hup:up.all (kp n)=true)(hn:n≤own'.length)(h0:1≤tk'.length)(hb:iN own'.length tk'.length own'=true)(h1:jP own'.length tk'.length tmps tmps')(hk:jm tk tk')
 (hw:aa E c Q ⟨tmps',own',tk',gl,none,up⟩):aa E c Q ⟨tmps,own'++rest,tk,gl,none,up⟩:=
 aa.weaken (t:=⟨tmps',own',tk',gl,none,up⟩) ⟨h1,xi hb,hk,rfl,rfl,rfl,List.all_eq_true.2 fun x hx=>vA hn h0 (List.all_eq_true.1 hup x hx)⟩ hw
set_option maxRecDepth 100000 in
theorem Zl{ops:Array Oper}{l:List Oper}{Q:Exit→St→Prop}{tmps up:List AV}{gl:Nat→Option (List AV)}{b:Bk}{x:Ex}{m:Nat}{dst:Option Tmp}{x0 x1:Operand}{tys:Array TypeId}{ty:TypeId}{pos:String}{after:Array Edge}
 (hx0:St.ev ⟨tmps,[Z0,some [aT b m],some (aR b m),some [ao x]],[b.ids.length],gl,none,up⟩ x0= .ptr 1 0 0) (hx1:St.ev ⟨tmps,[Z0,some [aT b m],some (aR b m),some [ao x]],[b.ids.length],gl,none,up⟩ x1=ao x)
 (hx:dj x=true) (htf:∀f∈b.av,0≤f.time∧f.time≤4611686018427387904) (hi:b.ids.length≤1000000) (ho:b.aq.length≤1000000) (hf:b.av.length≤1000000) (hup:(tmps++up).all (kp 4)=true)
 (h:∀(b':Bk) (e:Int) (m':Nat),cT b x=(b',e)→al E ops l Q (St.put ⟨tmps,[Z0,some [aT b' m'],some (aR b' m'),some [ao x]],[b'.ids.length],gl,none,up⟩ dst (i64 e))):
 al E ops (⟨dst,.call ⟨.value (.func 173),#[x0,x1],tys⟩,ty,pos,after,none⟩::l) Q ⟨tmps,[Z0,some [aT b m],some (aR b m),some [ao x]],[b.ids.length],gl,none,up⟩:=by
 refine al.call (caps:=[]) (rs:=[.tmp 4]) Tryz.func173 rfl Tryz.ntmps173 rfl ae rfl rfl ?_
 show aa E _ _ ⟨([St.ev ⟨tmps,[Z0,some [aT b m],some (aR b m),some [ao x]],[b.ids.length],gl,none,up⟩ x0,St.ev ⟨tmps,[Z0,some [aT b m],some (aR b m),some [ao x]],[b.ids.length],gl,none,up⟩ x1]++[])++List.replicate (51-2) (.v undef),[Z0,some [aT b m],some (aR b m),some [ao x]],[b.ids.length],gl,none,tmps++up⟩
 rw[hx0,hx1]
 have hK:∀(tm:List AV) (ow:List (Option (List AV))) (tk:List Nat) (b':Bk) (e:Int) (m':Nat),cT b x=(b',e)→ow=[Z0,some [aT b' m'],some (aR b' m'),some [ao x]]→tk=[b'.ids.length]→tm[4]?=some (i64 e)→bW E.P [.tmp 4] ⟨tmps,[Z0,some [aT b m],some (aR b m),some [ao x]],[b.ids.length],gl,none,up⟩ (fun s z=>al E ops l Q (s.put dst z)) .ret ⟨tm,ow,tk,gl,none,tmps++up⟩:=by
  intro tm ow tk b' e m' hb' how htk h4
  subst how;subst htk
  refine⟨rfl,?_⟩
  have:St.ev ⟨tm,[Z0,some [aT b' m'],some (aR b' m'),some [ao x]],[b'.ids.length],gl,none,tmps++up⟩ (.tmp 4)=i64 e:=by simp[St.ev,List.getD_eq_getElem?_getD,h4]
  show al E ops l Q (St.put _ dst (fB [St.ev _ (.tmp 4)]))
  rw[this]
  exact h b' e m' hb'
 generalize bW E.P [.tmp 4] ⟨tmps,[Z0,some [aT b m],some (aR b m),some [ao x]],[b.ids.length],gl,none,up⟩ (fun s z=>al E ops l Q (s.put dst z))=Q' at hK ⊢
 generalize tmps++up=up' at hup hK ⊢
 clear h hx0 hx1
 refine aa.ah fun K1 hK1=>?_
 refine aa.region ?_
 simp only[go_sem]
 refine hK1 _ ?_;clear hK1 K1
 refine aa.ah fun K2 hK2=>?_
 refine aa.ah fun K3 hK3=>?_
 refine aa.region ?_
 simp only[go_sem]
 repeat'(first|(refine aP.split (fun h=>?_) (fun h=>?_)<;>simp only[h,go_sem]<;>try simp only[dD] at h)|((with_reducible refine And.intro ?_ ?_);(focus(((simp;done))));(try simp only[hb,go_sem])))
 all_goals(
  refine hK3 _ ?_;clear hK3 K3
  refine aa.cond rfl (fun c18=>?_) (fun c18=>?_)
  ·(
    try simp only[dD] at c18
    refine aa.ah fun K4 hK4=>?_
    refine aa.region ?_
    simp only[go_sem]
    refine hK4 _ ?_;clear hK4 K4
    refine aa.dL [0,1,2,3] [Z0,some [aT b m],some (aR b m),some [ao x]] [b.ids.length] 4 aj tF hup (Nat.le_refl _) (tc rfl rfl rfl rfl) q6 ⟨rfl,trivial⟩ (Nat.le_refl _) ?_
    refine aa.ret ?_
    try simp only[go_sem]
    clear hK2 K2
    first
    |exact hK _ _ _ b _ m (CY (.inl af)) rfl rfl rfl
    |exact hK _ _ _ b _ m (CY (.inr ab)) rfl rfl rfl)
  ·first|exact Bool.noConfusion c18|(
    try simp only[dD] at c18
    refine aa.skip ?_
    refine hK2 _ ?_;clear hK2 K2
    refine aa.ah fun K5 hK5=>?_
    refine aa.ah fun K6 hK6=>?_
    refine aa.bB [0,1,2,3,4,5,6] [] ae ae rfl ?_
    simp only[go_sem]
    repeat'((refine ak.one (XE b.ids x.id ab) ae rfl ?_;simp only[go_sem]))
    refine hK6 _ ?_;clear hK6 K6
    refine aa.cond rfl (fun o6=>?_) (fun o6=>?_)
    ·(
      try simp only[dD] at o6
      refine aa.ah fun K7 hK7=>?_
      refine aa.region ?_
      simp only[go_sem]
      refine hK7 _ ?_;clear hK7 K7
      refine aa.dL [0,1,2,3] [Z0,some [aT b m],some (aR b m),some [ao x]] [b.ids.length] 4 aj tF hup (Nat.le_refl _) (tc rfl rfl rfl rfl) q6 ⟨rfl,trivial⟩ (Nat.le_refl _) ?_
      refine aa.ret ?_
      try simp only[go_sem]
      clear hK5 K5
      (exact hK _ _ _ b _ m (Zw ab ab af) rfl rfl rfl))
    ·(
      try simp only[dD] at o6
      refine aa.skip ?_
      refine hK5 _ ?_;clear hK5 K5
      refine aa.ah fun K8 hK8=>?_
      refine aa.bB [0,1,2,3,4,5,6,7,8,9,10,11] [] ae ae rfl ?_
      simp only[go_sem]
      repeat'(((with_reducible refine And.intro ?_ ?_);(focus((omega)));(try simp only[hb,go_sem])))
      refine hK8 _ ?_;clear hK8 K8
      refine aa.ah fun K9 hK9=>?_
      refine aa.ah fun K10 hK10=>?_
      rw[TH b.ids x.id]
      refine aa.LG (tmps':=[.ptr 1 0 0,.any,.any,.ptr 4 0 0,.any,.any,.any,.any,.any,.any,.any,.any,.any,.any,.any,.any,.any,.any,.any,.any,.any,.any,.any,.any,.any,.any,.any,.any,.any,.any,.any,.any,.any,.any,.any,.any,.any,.any,.any,.any,.any,.any,.any,.any,.any,.any,.any,.any,.any,.any,.any]) (own':=[Z0,some [aT ⟨b.aq,b.av,b.ids++[x.id],b.clock,b.bad⟩ m],some (aR ⟨b.aq,b.av,b.ids++[x.id],b.clock,b.bad⟩ m),some [ao x],some [ao x]]) (rest:=[]) (tk':=[(b.ids++[x.id]).length]) hup (Nat.le_of_ble_eq_true rfl) (Nat.le_refl _) iB ⟨.inr ⟨rfl,rfl⟩,.inl rfl,.inl rfl,.inr ⟨rfl,rfl⟩,.inl rfl,.inl rfl,.inl rfl,.inl rfl,.inl rfl,.inl rfl,.inl rfl,.inl rfl,.inl rfl,.inl rfl,.inl rfl,.inl rfl,.inl rfl,.inl rfl,.inl rfl,.inl rfl,.inl rfl,.inl rfl,.inl rfl,.inl rfl,.inl rfl,.inl rfl,.inl rfl,.inl rfl,.inl rfl,.inl rfl,.inl rfl,.inl rfl,.inl rfl,.inl rfl,.inl rfl,.inl rfl,.inl rfl,.inl rfl,.inl rfl,.inl rfl,.inl rfl,.inl rfl,.inl rfl,.inl rfl,.inl rfl,.inl rfl,.inl rfl,.inl rfl,.inl rfl,.inl rfl,.inl rfl,trivial⟩ ⟨by simp,trivial⟩ ?_
      refine aa.aW ?_
      refine al.app (l1:=[_,_]) (l2:=_::_) ?_
      simp only[go_sem]
      rw[show b.ids.length+1=(b.ids++[x.id]).length by simp]
      refine Eo (b:=⟨b.aq,b.av,b.ids++[x.id],b.clock,b.bad⟩) (x:=x) (m:=m) rfl rfl hx htf ho hf (py aj rfl hup) ?_
      intro b2 e2 m2 hb2
      refine al.of ?_
      simp only[go_sem]
      refine hK10 _ ?_;clear hK10 K10
      refine aa.ah fun K11 hK11=>?_
      refine aa.region ?_
      simp only[go_sem]
      refine hK11 _ ?_;clear hK11 K11
      refine aa.cond rfl (fun c41=>?_) (fun c41=>?_)
      ·(
        try simp only[dD] at c41
        refine aa.ah fun K12 hK12=>?_
        refine aa.region ?_
        simp only[go_sem]
        refine hK12 _ ?_;clear hK12 K12
        refine aa.ah fun K13 hK13=>?_
        refine aa.region ?_
        simp only[go_sem]
        refine hK13 _ ?_;clear hK13 K13
        refine aa.dL [0,1,2,3] [Z0,some [aT ⟨b2.aq,b2.av,b2.ids,b2.clock,e2⟩ m2],some (aR ⟨b2.aq,b2.av,b2.ids,b2.clock,e2⟩ m2),some [ao x]] [b2.ids.length] 4 aj tF hup (Nat.le_refl _) (tc rfl rfl rfl rfl) q6 ⟨rfl,trivial⟩ (Nat.le_refl _) ?_
        refine aa.ret ?_
        try simp only[go_sem]
        clear hK9 K9
        (exact hK _ _ _ _ _ m2 (Zx ab ab af hb2 af) rfl rfl rfl))
      ·(
        try simp only[dD] at c41
        refine aa.skip ?_
        refine hK9 _ ?_;clear hK9 K9
        refine aa.ah fun K14 hK14=>?_
        refine aa.region ?_
        simp only[go_sem]
        refine hK14 _ ?_;clear hK14 K14
        refine aa.ah fun K15 hK15=>?_
        refine aa.region ?_
        simp only[go_sem]
        refine hK15 _ ?_;clear hK15 K15
        refine aa.dL [0,1,2,3] [Z0,some [aT ⟨b2.aq,b2.av,b2.ids,x.time,b2.bad⟩ m2],some (aR ⟨b2.aq,b2.av,b2.ids,x.time,b2.bad⟩ m2),some [ao x]] [b2.ids.length] 4 aj tF hup (Nat.le_refl _) (tc rfl rfl rfl rfl) q6 ⟨rfl,trivial⟩ (Nat.le_refl _) ?_
        refine aa.ret ?_
        try simp only[go_sem]
        (exact hK _ _ _ _ _ m2 (Zv ab ab af hb2 ab) rfl rfl rfl)))))
theorem TM(x:Ex):ai E 56 [ao x] (fun r t=>r=bl (dj x)∧t=[]):=by
 refine ai.aC (n:=57) (rs:=[.tmp 2]) Tryz.func56 rfl Tryz.ntmps56 rfl ?_
 repeat'(first
 |refine aa.ah fun K hK=>?_
 |(refine aa.region ?_;simp only[go_sem])
 |(refine hK _ ?_;clear hK K)
 |refine aa.block ?_
 |refine aa.cond rfl (fun c=>?_) (fun c=>?_)<;>first|exact Bool.noConfusion c|(try simp only[dD] at c)
 |refine aa.skip ?_
 |(refine ak.one (TQ _) ae rfl ?_;simp only[go_sem])
 |(refine ak.one (TT _) ae rfl ?_;simp only[go_sem])
 |(refine ak.one (T0 _) ae rfl ?_;simp only[go_sem])
 |(refine aP.split (fun h=>?_) (fun h=>?_)<;>simp only[h,go_sem]<;>(try simp only[dD] at h))
 |(
  refine aa.ret ?_
  refine aN.is ?_;simp only[go_sem,aI,aH,aG,aK,aJ,aL]<;>(simp_all[dj])))
abbrev lD(b:Bk):AV:= .agg [bz b.aq,dp b.av,.sl none 1 (b.ids.map str),i64 b.clock,i64 b.bad]
theorem tz(b:Bk)(m:Nat):(aR b m).take b.av.length=b.av.map cK:=yQ _
theorem mE{α:Type}[DecidableEq α]{a b:List α}(h:¬a.length=b.length):decide (a=b)=false:=decide_eq_false fun e=>h (by rw[e])
theorem mF{α:Type}[DecidableEq α]{a b:List α}{i:Nat}{x y:α}(h1:a[i]?=some x)(h2:b[i]?=some y)(h:x≠y):decide (a=b)=false:=decide_eq_false fun e=>h (by rw[e,h2,Option.some.injEq] at h1;exact h1.symm)
theorem mG{α:Type}[DecidableEq α]{a b:List α}{i:Nat}(h0:a.length=b.length)(hi:a.length≤i)(h:a.take i=b.take i):decide (a=b)=true:=by
 rw[List.take_of_length_le hi,List.take_of_length_le ab] at h
 exact decide_eq_true h
theorem mD{α:Type}{a b:List α}{i:Nat}{x y:α}(h1:a[i]?=some x)(h2:b[i]?=some y)(h:x=y)(h3:a.take i=b.take i):a.take (i+1)=b.take (i+1):=by rw[fM h1,fM h2,h3,h]
theorem AW{x y:Od}(h:x.id=y.id∧x.acc=y.acc∧x.sym=y.sym∧x.aD=y.aD∧x.au=y.au∧x.aE=y.aE∧x.done=y.done∧x.b9=y.b9):x=y:=by
 obtain⟨a,b,c,d,e,f,g,i⟩:=x
 obtain⟨h1,h2,h3,h4,h5,h6,h7,h8⟩:=h
 dsimp only at *
 subst h1;subst h2;subst h3;subst h4;subst h5;subst h6;subst h7;subst h8;rfl
theorem AX{x y:Od}(h:x.id=y.id→x.acc=y.acc→x.sym=y.sym→x.aD=y.aD→x.au=y.au→x.aE=y.aE→x.done=y.done→¬x.b9=y.b9):x≠y:=by
 rintro rfl;exact h rfl rfl rfl rfl rfl rfl rfl rfl
theorem yN{x y:Dn}(h:x.id=y.id∧x.ord=y.ord∧x.acc=y.acc∧x.sym=y.sym∧x.aD=y.aD∧x.au=y.au∧x.aE=y.aE∧x.time=y.time∧x.live=y.live):x=y:=by
 obtain⟨a,b,c,d,e,f,g,i,j⟩:=x
 obtain⟨h1,h2,h3,h4,h5,h6,h7,h8,h9⟩:=h
 dsimp only at *
 subst h1;subst h2;subst h3;subst h4;subst h5;subst h6;subst h7;subst h8;subst h9;rfl
theorem yP{x y:Dn}(h:x.id=y.id→x.ord=y.ord→x.acc=y.acc→x.sym=y.sym→x.aD=y.aD→x.au=y.au→x.aE=y.aE→x.time=y.time→¬x.live=y.live):x≠y:=by
 rintro rfl;exact h rfl rfl rfl rfl rfl rfl rfl rfl rfl
theorem oF(p q:Bk):decide (p=q)=(decide (p.aq=q.aq)&&decide (p.av=q.av)&&decide (p.ids=q.ids)&&decide (p.clock=q.clock)&&decide (p.bad=q.bad)):=by
 obtain⟨a,b,c,d,e⟩:=p
 obtain⟨a',b',c',d',e'⟩:=q
 simp[Bool.and_assoc]
theorem Xo{b:Bk}(h:cF b=true):True∧(b.aq.length≤64∧b.av.length≤256∧b.ids.length≤256)∧∀f∈b.av,0≤f.time∧f.time≤4611686018427387904:=by
 have h1:=iZ.1 h
 refine⟨trivial,⟨Go.Bk.l9 h1.1.1,h1.1.2.1,h1.1.2.2.1⟩,fun f hf=>?_⟩
 have h2:=h1.2.2.1 f hf
 simp only[ea,Bool.and_eq_true,decide_eq_true_eq] at h2
 omega
end Go.Proofs.YthoonfpkfdjhiaaGreatDoor
end
section
namespace Go.Proofs
open Go.Shelf
def Tryz.Sj:Go.Shelf.Ren:=⟨fun|264=>247|n=>n,fun|53=>208|46=>202|n=>n,fun|n=>n⟩
theorem Tryz.Si:Go.Proofs.Lays.n264 Tryz.prog Tryz.Sj:={
 mixed:=by kernel_rfl
 f264:=Tryz.func247.trans (congrArg some ae)
 t46:=Tryz.underlying202
 a46:=Tryz.isAgg202
 z46:=Tryz.sizeOf202
 v46:=Tryz.zeroValue202
 t53:=Tryz.underlying208
 a53:=Tryz.isAgg208
 z53:=Tryz.sizeOf208
 v53:=Tryz.zeroValue208 }
open Go.RowKit Go.Lib in
theorem Tryz.bits_Mul64(x y:Nat)(hx:x<18446744073709551616)(hy:y<18446744073709551616)(w:World):
 Calls Tryz.prog 247 #[.int .u64 x,.int .u64 y] w fun e w'=>e= .returned (.tuple #[.int .u64 ((x*y/18446744073709551616:Nat):Int),.int .u64 ((x*y%18446744073709551616:Nat):Int)])∧w'=w:=Any.bits_Mul64 Tryz.Si x y hx hy w
def Tryz.wX:Go.Shelf.Ren:=⟨fun|6=>144|8=>181|9=>149|11=>216|13=>186|12=>185|23=>225|24=>226|14=>217|15=>218|16=>219|17=>220|18=>221|19=>222|20=>183|21=>223|22=>224|25=>261|26=>262|27=>263|28=>264|29=>265|30=>180|31=>285|n=>n,fun|26=>9|28=>213|24=>103|0=>0|3=>3|37=>202|48=>203|50=>208|4=>4|40=>292|39=>291|45=>216|5=>5|9=>9|51=>321|55=>325|57=>350|58=>351|33=>127|n=>n,fun|n=>n⟩
theorem Tryz.Yb:Go.Proofs.SlLaysZ.n6 Tryz.prog Tryz.wX:={
 mixed:=by kernel_rfl
 f6:=⟨Tryz.f144.name,by decide,Tryz.func144.trans (congrArg some ae)⟩
 f8:=⟨Tryz.f181.name,by decide,Tryz.func181.trans (congrArg some ae)⟩
 f11:=⟨Tryz.f216.name,by decide,Tryz.func216.trans (congrArg some ae)⟩
 t0:=Tryz.underlying0
 a0:=Tryz.isAgg0
 z0:=Tryz.sizeOf0
 v0:=Tryz.zeroValue0
 t24:=Tryz.underlying103
 a24:=Tryz.isAgg103
 z24:=Tryz.sizeOf103
 v24:=Tryz.zeroValue103
 t26:=Tryz.underlying9
 a26:=Tryz.isAgg9
 z26:=Tryz.sizeOf9
 v26:=Tryz.zeroValue9
 t28:=Tryz.underlying213
 a28:=Tryz.isAgg213
 z28:=Tryz.sizeOf213
 v28:=Tryz.zeroValue213
 i26:=by kernel_rfl }
def Tryz.X9:Go.Shelf.Ren:=⟨fun|6=>149|8=>186|9=>185|19=>225|20=>226|21=>217|22=>218|23=>219|24=>220|25=>221|26=>222|27=>183|28=>223|29=>224|36=>261|31=>262|32=>263|37=>264|38=>265|39=>180|41=>285|n=>n,fun|27=>103|29=>9|3=>3|32=>202|26=>103|0=>0|44=>203|46=>208|4=>4|36=>292|35=>291|41=>216|5=>5|9=>9|53=>321|57=>325|63=>350|64=>351|n=>n,fun|n=>n⟩
theorem Tryz.tJ:Go.Proofs.SlLaysM.n6 Tryz.prog Tryz.X9:={
 mixed:=by kernel_rfl
 f6:=⟨Tryz.f149.name,by decide,Tryz.func149.trans (congrArg some ae)⟩
 f8:=Tryz.func186.trans (congrArg some ae)
 f9:=⟨Tryz.f185.name,by decide,Tryz.func185.trans (congrArg some ae)⟩
 f19:=Tryz.func225.trans (congrArg some ae)
 f20:=Tryz.func226.trans (congrArg some ae)
 f21:=⟨Tryz.f217.name,by decide,Tryz.func217.trans (congrArg some ae)⟩
 f22:=⟨Tryz.f218.name,by decide,Tryz.func218.trans (congrArg some ae)⟩
 f23:=⟨Tryz.f219.name,by decide,Tryz.func219.trans (congrArg some ae)⟩
 f24:=⟨Tryz.f220.name,by decide,Tryz.func220.trans (congrArg some ae)⟩
 f25:=⟨Tryz.f221.name,by decide,Tryz.func221.trans (congrArg some ae)⟩
 f26:=⟨Tryz.f222.name,by decide,Tryz.func222.trans (congrArg some ae)⟩
 f27:=⟨Tryz.f183.name,by decide,Tryz.func183.trans (congrArg some ae)⟩
 f28:=⟨Tryz.f223.name,by decide,Tryz.func223.trans (congrArg some ae)⟩
 f29:=⟨Tryz.f224.name,by decide,Tryz.func224.trans (congrArg some ae)⟩
 f31:=Tryz.func262.trans (congrArg some ae)
 f32:=Tryz.func263.trans (congrArg some ae)
 f36:=⟨Tryz.f261.name,by decide,Tryz.func261.trans (congrArg some ae)⟩
 f37:=⟨Tryz.f264.name,by decide,Tryz.func264.trans (congrArg some ae)⟩
 f38:=⟨Tryz.f265.name,by decide,Tryz.func265.trans (congrArg some ae)⟩
 f39:=⟨Tryz.f180.name,by decide,Tryz.func180.trans (congrArg some ae)⟩
 f41:=⟨Tryz.f285.name,by decide,Tryz.func285.trans (congrArg some ae)⟩
 t0:=Tryz.underlying0
 a0:=Tryz.isAgg0
 z0:=Tryz.sizeOf0
 v0:=Tryz.zeroValue0
 t3:=Tryz.underlying3
 a3:=Tryz.isAgg3
 z3:=Tryz.sizeOf3
 v3:=Tryz.zeroValue3
 t4:=Tryz.underlying4
 a4:=Tryz.isAgg4
 z4:=Tryz.sizeOf4
 v4:=Tryz.zeroValue4
 t5:=Tryz.underlying5
 a5:=Tryz.isAgg5
 z5:=Tryz.sizeOf5
 v5:=Tryz.zeroValue5
 t9:=Tryz.underlying9
 a9:=Tryz.isAgg9
 z9:=Tryz.sizeOf9
 v9:=Tryz.zeroValue9
 t26:=Tryz.underlying103
 a26:=Tryz.isAgg103
 z26:=Tryz.sizeOf103
 v26:=Tryz.zeroValue103
 t27:=Tryz.underlying103
 a27:=Tryz.isAgg103
 z27:=Tryz.sizeOf103
 v27:=Tryz.zeroValue103
 t29:=Tryz.underlying9
 a29:=Tryz.isAgg9
 z29:=Tryz.sizeOf9
 v29:=Tryz.zeroValue9
 t32:=Tryz.underlying202
 a32:=Tryz.isAgg202
 z32:=Tryz.sizeOf202
 v32:=Tryz.zeroValue202
 t35:=Tryz.underlying291
 a35:=Tryz.isAgg291
 z35:=Tryz.sizeOf291
 v35:=Tryz.zeroValue291
 t36:=Tryz.underlying292
 a36:=Tryz.isAgg292
 z36:=Tryz.sizeOf292
 v36:=Tryz.zeroValue292
 t41:=Tryz.underlying216
 a41:=Tryz.isAgg216
 z41:=Tryz.sizeOf216
 v41:=Tryz.zeroValue216
 t44:=Tryz.underlying203
 a44:=Tryz.isAgg203
 z44:=Tryz.sizeOf203
 v44:=Tryz.zeroValue203
 t46:=Tryz.underlying208
 a46:=Tryz.isAgg208
 z46:=Tryz.sizeOf208
 v46:=Tryz.zeroValue208
 t53:=Tryz.underlying321
 a53:=Tryz.isAgg321
 z53:=Tryz.sizeOf321
 v53:=Tryz.zeroValue321
 t57:=Tryz.underlying325
 a57:=Tryz.isAgg325
 z57:=Tryz.sizeOf325
 v57:=Tryz.zeroValue325
 t63:=Tryz.underlying350
 a63:=Tryz.isAgg350
 z63:=Tryz.sizeOf350
 v63:=Tryz.zeroValue350
 t64:=Tryz.underlying351
 a64:=Tryz.isAgg351
 z64:=Tryz.sizeOf351
 v64:=Tryz.zeroValue351 }
end Go.Proofs
end
section
namespace Go.Proofs.YthoonfpkfdjhiaaGreatDoor
open Go Go.az Go.RowKit Go.Bk
theorem ZO{im:Im}(a b:Value):aS im (.ax [.v a,.v b]) (.tuple #[a,b]):= .ax [_,_] [_,_] rfl (fun i c u h1 h2=>by
 match i with
 |0=>simp at h1 h2;subst h1;subst h2;exact .v _
 |1=>simp at h1 h2;subst h1;subst h2;exact .v _
 |i+2=>simp at h1)
theorem TU(x y:Nat)(hx:x<18446744073709551616)(hy:y<18446744073709551616):ai E 247 [.v (.int .u64 x),.v (.int .u64 y)] (fun r t=>r= .ax [.v (.int .u64 ((x*y/18446744073709551616:Nat):Int)),.v (.int .u64 ((x*y%18446744073709551616:Nat):Int))]∧t=[]):=
 ai.vY (E:=E) (f:=247) (xs:=[.int .u64 x,.int .u64 y]) (S:=fun v=>v= .tuple #[.int .u64 ((x*y/18446744073709551616:Nat):Int),.int .u64 ((x*y%18446744073709551616:Nat):Int)])
  (fun w _=>(Tryz.bits_Mul64 x y hx hy w).mono (by rintro e w' ⟨rfl,rfl⟩;exact⟨⟨_,rfl,rfl⟩,rfl⟩))
  (by rintro v rfl;exact⟨_,fun _=>ZO _ _,rfl,rfl⟩)
section
variable{a b:Int}
theorem TV(h:dZ a=false):gg a b=(0,false):=by unfold gg;simp[h]
theorem TW(h:dZ b=false):gg a b=(0,false):=by unfold gg;simp[h]
theorem AD:(a*b).natAbs=a.natAbs*b.natAbs:=Int.natAbs_mul a b
theorem AF(h:¬((a.natAbs*b.natAbs/18446744073709551616:Nat):Int)=0∨(4611686018427387904:Int)<((a.natAbs*b.natAbs%18446744073709551616:Nat):Int)):gg a b=(0,false):=by
 have hm:dZ (a*b)=false:=by
  rw[UC];rw[←AD] at h;omega
 unfold gg;simp[hm]
theorem AE:((a.natAbs*b.natAbs:Nat):Int)=(a.natAbs:Int)*(b.natAbs:Int):=Int.natCast_mul _ _
theorem mul_neg(c:¬decide (a<0)=decide (b<0)):a*b= -((a.natAbs*b.natAbs:Nat):Int):=by
 rw[AE]
 by_cases h1:a<0<;>by_cases h2:b<0
 ·simp[h1,h2] at c
 ·rw[show(a.natAbs:Int)= -a by omega,show(b.natAbs:Int)=b by omega,Int.neg_mul,Int.neg_neg]
 ·rw[show(a.natAbs:Int)=a by omega,show(b.natAbs:Int)= -b by omega,Int.mul_neg,Int.neg_neg]
 ·simp[h1,h2] at c
theorem TX(c:decide (a<0)=decide (b<0)):a*b=((a.natAbs*b.natAbs:Nat):Int):=by
 rw[AE]
 by_cases h1:a<0<;>by_cases h2:b<0
 ·rw[show(a.natAbs:Int)= -a by omega,show(b.natAbs:Int)= -b by omega,Int.neg_mul,Int.mul_neg,Int.neg_neg]
 ·simp[h1,h2] at c
 ·simp[h1,h2] at c
 ·rw[show(a.natAbs:Int)=a by omega,show(b.natAbs:Int)=b by omega]
variable(ha:dZ a=true)(hb:dZ b=true)(h:((a.natAbs*b.natAbs/18446744073709551616:Nat):Int)=0)(h2:¬(4611686018427387904:Int)<((a.natAbs*b.natAbs%18446744073709551616:Nat):Int))
include ha hb h h2
theorem sW:gg a b=(a*b,true):=by
 have:dZ (a*b)=true:=by
  rw[pJ];rw[←AD] at h h2;omega
 unfold gg;rw[ha,hb,this];rfl
theorem TY(c:¬decide (a<0)=decide (b<0)):IntKind.i64.wrap (0-IntKind.i64.wrap ((a.natAbs*b.natAbs%18446744073709551616:Nat):Int))=(gg a b).1:=by
 rw[sW ha hb h h2,mul_neg c]
 generalize a.natAbs*b.natAbs=p at *
 rw[aM (x:=((p%18446744073709551616:Nat):Int)) ab ab,aM ab ab];simp only[];omega
theorem TZ(c:decide (a<0)=decide (b<0)):IntKind.i64.wrap ((a.natAbs*b.natAbs%18446744073709551616:Nat):Int)=(gg a b).1:=by
 rw[sW ha hb h h2,TX c]
 generalize a.natAbs*b.natAbs=p at *
 rw[aM ab ab];simp only[];omega
end
section
variable{l:List Int}{i:Nat}(hl:l.length≤1000000)(hi:¬(i:Int)<l.length)(hi2:i≤l.length)(ha:(l.take i).all dZ=true)
include hl hi ha
end
theorem AS(n:Int):ai E 115 [i64 n] (fun r t=>r=bl (dZ n)∧t=[]):=by
 refine ai.aC (n:=9) (rs:=[.tmp 2]) Tryz.func115 rfl Tryz.ntmps115 rfl ?_
 repeat'(first
 |refine aa.ah fun K hK=>?_
 |(refine aa.region ?_;simp only[go_sem])
 |(refine hK _ ?_;clear hK K)
 |(refine aP.split (fun h=>?_) (fun h=>?_)<;>simp only[h,go_sem]<;>(try simp only[dD] at h))
 |(
  refine aa.ret ?_
  refine aN.is ?_;simp only[go_sem,aI,aH,aG,aK,aJ,aL]<;>(simp[dZ, *]<;>omega)))
theorem UB(n:Int)(h:dZ n=true):ai E 248 [i64 n] (fun r t=>r= .v (.int .u64 (n.natAbs:Int))∧t=[]):=by
 have hb:=pJ.1 h
 refine ai.aC (n:=9) (rs:=[.tmp 2]) Tryz.func248 rfl Tryz.ntmps248 rfl ?_
 repeat'(first
 |refine aa.ah fun K hK=>?_
 |(refine aa.region ?_;simp only[go_sem])
 |(refine hK _ ?_;clear hK K)
 |refine aa.cond rfl (fun c=>?_) (fun c=>?_)<;>(try simp only[dD] at c)
 |refine aa.skip ?_
 |(
  refine aa.ret ?_
  refine aN.is ?_;simp only[go_sem,aI,aH,aG,aK,aJ,aL]<;>(first|(rw[Di];unfold tY;rw[aM ab ab];omega)|(rw[Di];unfold tY;omega))))
theorem Uj(a b:Int):ai E 205 [i64 a,i64 b] (fun r t=>r= .ax [i64 (gg a b).1,bl (gg a b).2]∧t=[]):=by
 refine ai.aC (n:=41) (rs:=[.tmp 4,.tmp 5]) Tryz.func205 rfl Tryz.ntmps205 rfl ?_
 repeat'(first
 |refine aa.ah fun K hK=>?_
 |(refine aa.region ?_;simp only[go_sem])
 |(refine hK _ ?_;clear hK K)
 |refine aa.cond rfl (fun c=>?_) (fun c=>?_)<;>first|exact Bool.noConfusion c|(try simp only[dD] at c)
 |refine aa.skip ?_
 |(refine ak.one (AS _) ae rfl ?_;simp only[go_sem])
 |(refine ak.one (UB _ af) ae rfl ?_;simp only[go_sem])
 |(have ha:=pJ.1 (show dZ a=true by assumption);have hb:=pJ.1 (show dZ b=true by assumption);refine ak.one (TU a.natAbs b.natAbs ab ab) ae rfl ?_;simp only[go_sem])
 |(refine aP.split (fun h=>?_) (fun h=>?_)<;>simp only[h,go_sem]<;>(try simp only[dD] at h))
 |(
  refine aa.ret ?_
  refine aN.is ?_;simp only[go_sem,aI,aH,aG,aK,aJ,aL]<;>(first
  |(rw[TV af];simp;done)
  |(rw[TW af];simp;done)
  |(rw[AF (.inl af)];simp;done)
  |(rw[AF (.inr af)];simp;done)
  |(rw[TY af af af af af,sW af af af af];simp;done)
  |(rw[TZ af af af af af,sW af af af af];simp;done))))
end Go.Proofs.YthoonfpkfdjhiaaGreatDoor
end
section
namespace Go.Proofs
open Go.RowKit Go.Maps Go.Sort Go.Shelf
variable{P:Program}{ρ:Ren}
def nx{α:Type}(F:Fence)(n:Nat)(P:Program)(g:Nat)(lb:Array Value)(enc:α→Value)(S:List α→Prop)(N:Nat)(w:World):Prop:=
 ∀(l:Nat) (J:List α→World→Prop) (W:World),Below w.heap.size w W→AbidesFrom W.heap.size J→(∀pre W1,J pre W1→Below w.heap.size w W1)→
  (∀pre x W1,J pre W1→pre.length<N→YieldAt F (n-1) P l #[enc x] W1 fun e W'=>e= .returned (.bool true)∧J (pre++[x]) W'∧KeepsWalks W1 W')→
  J [] W→CallsIn F n P g (#[.func (.yield l) #[] #[]]++lb) W fun e W'=>(∃v,e= .returned v)∧∃xs,S xs∧J xs W'
theorem nx.upto{α:Type}{F:Fence}{n:Nat}{P:Program}{g:Nat}{lb:Array Value}{enc:α→Value}{S:List α→Prop}{N:Nat}{w:World}
 (h:nx F n P g lb enc S N w):nx F n P g lb enc (fun xs=>S xs∧xs.length≤N) N w:=fun l J W hW hJ hB hY h0=>by
 refine(h l (fun xs W'=>J xs W'∧xs.length≤N) W hW (fun s A B row hs hg hr=>⟨hJ s A B row hs.1 hg hr,hs.2⟩) (fun pre W1 hj=>hB pre W1 hj.1)
  (fun pre x W1 hj hl=>(hY pre x W1 hj.1 hl).mono (fun e w' hr=>⟨hr.1,⟨hr.2.1,by simp;omega⟩,hr.2.2⟩)) ⟨h0,Nat.zero_le _⟩).mono ?_
 rintro e W' ⟨hv,xs,hS,hJ',hlen⟩
 exact⟨hv,xs,⟨hS,hlen⟩,hJ'⟩
set_option maxRecDepth 100000 in
theorem Sq.Ek(L:SlLaysZ.n11 P ρ)(F:Fence)(n:Nat)(h11:F.fn (ρ.f 11))(hro:F.round=none)(hn:2≤n)(g:Nat)(lb:Array Value)(hFg:F.fn g)(eg:∀args w,(callFunc g args).run P w= .ok (.enter g args) w)
 (S:List (List UInt8)→Prop) (N:Nat) (hN:N≤maxLen) (hNb:N*16≤140737488355328) (w:World) (hseq:nx F (n-1) P g lb encStr S N w):
 CallsIn F n P (ρ.f 11) #[.slice none 0 0,.func (.func g) #[] lb] w fun e w'=>∃(v:Value) (ss:List (List UInt8)),e= .returned v∧S ss∧w'.ownsRow w.heap.size (ρ.t 26) 1 v ss.length (ss.map encStr)∧(v= .slice none 0 0↔ss=[])∧Below w.heap.size w w':=by
 have h1:1≤n:=by omega
 have mixed:=L.mixed;have t0:=L.t0;have a0:=L.a0;have z0:=L.z0;have v0:=L.v0;have t24:=L.t24;have a24:=L.a24;have z24:=L.z24;have v24:=L.v24;have t26:=L.t26;have a26:=L.a26;have z26:=L.z26;have v26:=L.v26;have t28:=L.t28;have a28:=L.a28;have z28:=L.z28;have v28:=L.v28
 have hne:ρ.t 24≠ρ.t 26:=fun e=>by have h:=L.t24;rw[e,L.t26] at h;cases h
 have u0:=run_underlying L.t0;have u24:=run_underlying L.t24;have u26:=run_underlying L.t26;have u28:=run_underlying L.t28
 obtain⟨_,_,FG⟩:=L.f11
 refine callsIn_of_wp_marks FG rfl h11 ?_ hro
 simp only[SlBodyZ.n11_ntmps ρ,List.size_toArray,List.length_cons,List.length_nil,Nat.reduceAdd,Nat.reduceSub,Array.replicate_succ,Array.replicate_zero,List.push_toArray,List.append_toArray,List.nil_append,List.cons_append]
 gi_wp2
 refine wpIn_rangeFunc ?_
 intro fn hfn
 rw[hro]
 obtain⟨W0,hW0⟩:∃W0,w.alloc (.cells #[.slice none 0 0] (ρ.t 24))=W0:=⟨_,rfl⟩
 have hs0:W0.heap.size=w.heap.size+1:=by rw[←hW0];simp
 have hv0:W0.heap[w.heap.size]?=some (.cells #[.slice none 0 0] (ρ.t 24) (0,0)):=by rw[←hW0];exact World.alloc_heap_new w _
 have hb0:Below w.heap.size w W0:=by rw[←hW0];exact(Below.refl _ w).alloc (Nat.le_refl _) _
 rw[hW0]
 obtain⟨W1,hW1⟩:∃W1,(W0.alloc (.deferred (some []))).alloc (.loop (AnyZ.apRec ρ fn (.func (.func g) #[] lb) w.heap.size W0.heap.size .ready none))=W1:=⟨_,rfl⟩
 have hold:∀k,k<W0.heap.size→W1.heap[k]?=W0.heap[k]?:=fun k hk=>by
  rw[←hW1];exact(Below.heap_alloc _ _ k (by simp;omega)).trans (Below.heap_alloc _ _ k hk)
 have hb1:Below w.heap.size w W1:=by rw[←hW1];exact(hb0.alloc hb0.size _).alloc (by have:=hb0.size;simp;omega) _
 have hs1:W1.heap.size=W0.heap.size+2:=by rw[←hW1];simp
 have hM:AnyZ.ApAt ρ w fn (.func (.func g) #[] lb) w.heap.size (W0.heap.size+1) W0.heap.size [] W1:=
  ⟨⟨_,(hold w.heap.size ab).trans hv0,⟨rfl,.inl ⟨rfl,rfl⟩⟩,by simp⟩,
   by rw[←hW1];have:=World.alloc_heap_new (W0.alloc (.deferred (some []))) (.loop (AnyZ.apRec ρ fn (.func (.func g) #[] lb) w.heap.size W0.heap.size .ready none));rwa[World.size_alloc] at this,
   by rw[←hW1];exact(Below.heap_alloc _ _ _ aB).trans (World.alloc_heap_new W0 _),hb1⟩
 refine⟨W0.heap.size+1,[{ target:= .collected W0.heap.size,args:=#[] }],W1,{ target:= .fn (.func g) lb,args:=#[.func (.yield (W0.heap.size+1)) #[] #[]] },W1,g,
  #[.func (.yield (W0.heap.size+1)) #[] #[]]++lb,W1,?_,?_,?_,?_,fun _=>h1,?_⟩
 ·rw[←hW1];exact run_enterLoop_outer _ _ _ _ _
 ·simp[resolve,go_sem]
 ·intro f' hf';simp[Target.leads] at hf';subst hf';exact hFg
 ·simp[invoke,go_sem,eg]
 ·refine(hseq (W0.heap.size+1) (AnyZ.ApAt ρ w fn (.func (.func g) #[] lb) w.heap.size (W0.heap.size+1) W0.heap.size) W1 hb1 (AnyZ.ap_abides ρ _ _ _ _ _ _ _ hb1.size) (fun pre W hJ=>hJ.below)
   (fun pre x W hJ hl=>AnyZ.apYield { L with } F (n-1-1) w fn hfn _ w.heap.size (W0.heap.size+1) W0.heap.size ab ab ab (Nat.le_refl _) ab N hN hNb pre x W hJ hl) hM).mono ?_
  rintro e W2 ⟨⟨v0,rfl⟩,ss,hS,h2⟩
  obtain⟨v,hv,hrow,hnil⟩:=h2.box
  have hend:=run_endLoop (P:=P) h2.L (by simp[AnyZ.apRec])
  obtain⟨W3,hW3⟩:∃W3,W2.putObj (W0.heap.size+1) (.loop { AnyZ.apRec ρ fn (.func (.func g) #[] lb) w.heap.size W0.heap.size .ready none with state:= .exhausted })=W3:=⟨_,rfl⟩
  rw[hW3] at hend
  have hg3:W2.grownBy W3 (some (W0.heap.size+1)):=by rw[←hW3];exact grownBy_putObj_a _ _ _
  have hv3:W3.heap[w.heap.size]?=some (.cells #[v] (ρ.t 24) (0,0)):=by rw[←hW3];exact(World.putObj_heap_other ab).trans hv
  have hK3:W3.heap[W0.heap.size]?=some (.deferred (some [])):=by rw[←hW3];exact(World.putObj_heap_other ab).trans h2.K
  have hrow3:=hrow.kept hg3 (ownsRow_ne_a hrow h2.L (fun cur e=>by first|cases e|exact hne (Obj.cells.inj e).2.1))
  have hb3:Below w.heap.size w W3:=h2.below.grown hg3 h2.below.size (fun k e=>by cases e;omega)
  obtain⟨hc3,hf3⟩:=cell_of_box_a hv3
  clear hW3
  refine⟨none,W3,hend,?_⟩
  gi_wp2
  rw[←hs0]
  refine⟨by simp,.inl ⟨_,_,rfl,run_takeDeferred hK3,?_⟩⟩
  exact⟨_,results_tmp rfl _ _ _,v,ss,rfl,hS,hrow3.kept (grownBy_putObj_a _ _ _) (ownsRow_ne_a hrow3 hK3 (fun cur e=>by first|cases e|exact hne (Obj.cells.inj e).2.1)),hnil,hb3.grown (grownBy_putObj_a _ _ _) hb3.size (fun k e=>by cases e;omega)⟩
theorem Sq.KS(L:SlLaysZ.n8 P ρ)(F:Fence)(n:Nat)(h8:F.fn (ρ.f 8))(h11:F.fn (ρ.f 11))(hro:F.round=none)(hn:3≤n)(g:Nat)(lb:Array Value)(hFg:F.fn g)(eg:∀args w,(callFunc g args).run P w= .ok (.enter g args) w)
 (S:List (List UInt8)→Prop) (N:Nat) (hN:N≤maxLen) (hNb:N*16≤140737488355328) (w:World) (hseq:nx F (n-1-1) P g lb encStr S N w):
 CallsIn F n P (ρ.f 8) #[.func (.func g) #[] lb] w fun e w'=>∃(v:Value) (ss:List (List UInt8)),e= .returned v∧S ss∧w'.ownsRow w.heap.size (ρ.t 26) 1 v ss.length (ss.map encStr)∧(v= .slice none 0 0↔ss=[])∧Below w.heap.size w w':=by
 have h1:1≤n:=by omega
 have e11:∀args w,(callFunc (ρ.f 11) args).run P w= .ok (.enter (ρ.f 11) args) w:=L.f11.enters rfl
 have mixed:=L.mixed;have t0:=L.t0;have a0:=L.a0;have z0:=L.z0;have v0:=L.v0;have t24:=L.t24;have a24:=L.a24;have z24:=L.z24;have v24:=L.v24;have t26:=L.t26;have a26:=L.a26;have z26:=L.z26;have v26:=L.v26;have t28:=L.t28;have a28:=L.a28;have z28:=L.z28;have v28:=L.v28
 have u0:=run_underlying L.t0;have u24:=run_underlying L.t24;have u26:=run_underlying L.t26;have u28:=run_underlying L.t28
 obtain⟨_,_,FG⟩:=L.f8
 refine callsIn_of_wp FG rfl h8 ?_ hro
 simp only[SlBodyZ.n8_ntmps ρ,List.size_toArray,List.length_cons,List.length_nil,Nat.reduceAdd,Nat.reduceSub,Array.replicate_succ,Array.replicate_zero,List.push_toArray,List.append_toArray,List.nil_append,List.cons_append]
 gi_wp2_with (gi_at_fn (ρ.f 11);refine(Sq.Ek { L with } F (n-1) h11 hro ab g lb hFg eg S N hN hNb _ hseq).mono ?_;rintro e w' ⟨v,ss,rfl,hS,hrow,hnil,hb⟩)
 go_ret
 exact⟨v,ss,rfl,hS,hrow,hnil,hb⟩
set_option maxRecDepth 100000 in
theorem Sq.Yc(L:SlLaysZ.n6 P ρ)(F:Fence)(n:Nat)(h6:F.fn (ρ.f 6))(h8:F.fn (ρ.f 8))(h9:F.fn (ρ.f 9))(h11:F.fn (ρ.f 11))(hro:F.round=none)(hn:4≤n)(hsort:AnyZ.SortsIn P ρ F (n-1))(e9:∀args w,(callFunc (ρ.f 9) args).run P w= .ok (.enter (ρ.f 9) args) w)(g:Nat)(lb:Array Value)(hFg:F.fn g)(eg:∀args w,(callFunc g args).run P w= .ok (.enter g args) w)
 (S:List (List UInt8)→Prop) (N:Nat) (hN:N≤maxLen) (hNb:N*16≤140737488355328) (w:World) (hseq:nx F (n-1-1-1) P g lb encStr S N w):
 CallsIn F n P (ρ.f 6) #[.func (.func g) #[] lb] w fun e w'=>∃(v:Value) (ss:List (List UInt8)),e= .returned v∧S ss∧
  w'.ownsRow w.heap.size (ρ.t 26) 1 v ss.length ((ss.mergeSort (fun x y=>decide (x≤y))).map encStr)∧(v= .slice none 0 0↔ss=[])∧Below w.heap.size w w':=by
 have h1:1≤n:=by omega
 have e8:∀args w,(callFunc (ρ.f 8) args).run P w= .ok (.enter (ρ.f 8) args) w:=L.f8.enters rfl
 have mixed:=L.mixed;have t0:=L.t0;have a0:=L.a0;have z0:=L.z0;have v0:=L.v0;have t24:=L.t24;have a24:=L.a24;have z24:=L.z24;have v24:=L.v24;have t26:=L.t26;have a26:=L.a26;have z26:=L.z26;have v26:=L.v26;have t28:=L.t28;have a28:=L.a28;have z28:=L.z28;have v28:=L.v28
 have u0:=run_underlying L.t0;have u24:=run_underlying L.t24;have u26:=run_underlying L.t26;have u28:=run_underlying L.t28
 obtain⟨_,_,FG⟩:=L.f6
 refine callsIn_of_wp FG rfl h6 ?_ hro
 simp only[SlBodyZ.n6_ntmps ρ,List.size_toArray,List.length_cons,List.length_nil,Nat.reduceAdd,Nat.reduceSub,Array.replicate_succ,Array.replicate_zero,List.push_toArray,List.append_toArray,List.nil_append,List.cons_append]
 gi_wp2_with (gi_at_fn (ρ.f 8);refine(Sq.KS { L with } F (n-1) h8 h11 hro ab g lb hFg eg _ N hN hNb _ hseq.upto).mono ?_;rintro e W ⟨v,ss,rfl,⟨hS,hlen⟩,hrow,hnil,hb⟩)
 rcases hrow.2 with⟨rfl,hz⟩|⟨gb,cap,cur,rfl,hbase,hgb,r1,r2,r3,r4⟩
 ·
  have hss:ss=[]:=List.eq_nil_of_length_eq_zero hz
  subst hss
  gi_wp2_with (gi_at_fn (ρ.f 9);refine(hsort.2 none 0 W).mono ?_;rintro e w' ⟨rfl,rfl⟩)
  go_ret
  exact⟨.slice none 0 0,[],rfl,hS,by simpa using hrow,by simp,hb⟩
 ·have hH:Holds encStr W gb 0 ss.toArray:=holds_of_block hgb (by simpa using r4)
  have hgl:gb<W.heap.size:=(Array.getElem?_eq_some_iff.1 hgb).1
  have hsz:ss.length<4611686018427387904:=by omega
  have cS:=hsort.1 gb 0 cap ss W hH hgl hsz
  gi_wp2_with (gi_at_fn (ρ.f 9);refine cS.mono ?_;rintro e w' ⟨rfl,nn,os,rfl⟩)
  go_ret
  exact⟨_,ss,rfl,hS,ownsRow_sorted aB hbase hgb r1 r2 r3,hnil,hb.grown (grownBy_sorted _) hb.size (fun j hj=>by cases hj;exact hbase)⟩
end Go.Proofs
namespace Go.az
open Go Go.RowKit Go.Sort Go.Proofs Go.Maps
theorem Rel.start{w:World}{im:Im}(E:Env)(hG:lA E im)(hok:∀(b o:Nat) (x:Value),im b o=some x→w.cell? ⟨b,o,none⟩=some x):
 Rel w ⟨im,[],E.dr⟩ ⟨[],[],im⟩ ⟨[],[],[],E.gl,none,[]⟩ { tmps:=#[],defers:=[] } w:=
 ⟨⟨rfl,fun b o hb=>by
    cases h:im b o with
    |none=>exact h
    |some x=>exact absurd (World.block_lt_of_cell? w ⟨b,o,none⟩ (hok b o x h)) (Nat.not_lt.2 hb)⟩,rfl,by simp,Below.refl _ _,.refl _,fun _ _ _=>rfl,hok,rfl,by simp,rfl,by simp,by simp,⟨by simp,by simp,by simp⟩,fun g cs h=>hG g cs h,⟨rfl,by simp⟩,fun l d i h=>by simp at h⟩
theorem ai.UU{E:Env}{f:FuncId}{args:List AV}{R:AV→List Nat→Prop}
 (h:∀(w:World) (im:Im) (vs:List Value),E.ok w→lA E im→(∀(b o:Nat) (x:Value),im b o=some x→w.cell? ⟨b,o,none⟩=some x)→jl im args vs→Calls E.P f vs.toArray w fun e w'=>∃v,e= .returned v∧
   ∃c st a,Rel w ⟨im,[],E.dr⟩ c st a w'∧∃x,VR c x v∧∃sel y,fJ st.tk.length sel=true∧oU sel x y∧R y (ja st.tk sel)):ai E f args R:=by
 intro w im vs hE hG hok hpw
 refine(h w im vs hE hG hok hpw).mono ?_
 rintro e w' ⟨v,rfl,c',st',a,r',x,hv,sel,y,h3,h4,h5⟩
 refine⟨v,y,fK c' sel,c'.im,rfl,r'.below,r'.dc,r'.dq,r'.cr,Ck r' h3,Bf r' h3 hv h4,?_⟩
 rw[tA r' h3];exact h5
theorem Ge{im:Im}{l:List (List UInt8)}{cs:List Value}(h:cs.take l.length=l.map encStr):Cells im 1 (l.map str) cs:=by
 refine⟨fun i e he=>?_,fun i e j c he hc=>?_⟩
 ·rw[List.getElem?_map] at he
  cases hl:l[i]? with
  |none=>simp[hl] at he
  |some b=>simp only[hl,Option.map_some,Option.some.injEq] at he;subst he;rfl
 ·rw[List.getElem?_map] at he
  cases hl:l[i]? with
  |none=>simp[hl] at he
  |some b=>
   simp only[hl,Option.map_some,Option.some.injEq] at he;subst he
   have hlt:i<l.length:=(List.getElem?_eq_some_iff.1 hl).1
   have h1:(cs.take l.length)[i]?=cs[i]?:=by rw[List.getElem?_take,if_pos hlt]
   cases j with
   |succ j=>simp[AV.leaves] at hc
   |zero=>
    simp only[AV.leaves,List.getElem?_cons_zero,Option.some.injEq] at hc;subst hc
    refine⟨encStr b,?_,.v _,rfl⟩
    rw[Nat.mul_one,Nat.add_zero,←h1,h]
    simp[hl]
theorem ai.UW{E:Env}{f:FuncId}{args:List AV}{l:List (List UInt8)}{ty:TypeId}
 (h:∀(w:World) (im:Im) (vs:List Value),E.ok w→lA E im→(∀(b o:Nat) (x:Value),im b o=some x→w.cell? ⟨b,o,none⟩=some x)→jl im args vs→Calls E.P f vs.toArray w fun e w'=>∃v,e= .returned v∧
   w'.ownsRow w.heap.size ty 1 v l.length (l.map encStr)∧Go.RowKit.Below w.heap.size w w') (hdr:¬E.dr:=by exact fun h=>h):ai E f args (fun r t=>r= .sl (some 0) 1 (l.map str)∧t=[l.length]):=by
 refine ai.UU fun w im vs hE hG hok hpw=>(h w im vs hE hG hok hpw).mono ?_
 rintro e w' ⟨v,rfl,hrow,hb0⟩
 have hb:Below E.dr w.heap.size w w':=⟨hb0,fun d=>absurd d hdr⟩
 have r0:=Rel.start E hG hok
 refine⟨v,rfl,?_⟩
 rcases hrow.2 with⟨rfl,hz⟩|⟨g,cap,cur,rfl,hbase,hg,h1,h2,h3,h4⟩
 ·have hl:l=[]:=List.eq_nil_of_length_eq_zero hz
  subst hl
  exact⟨_,_,_,r0.ext hb,.aw,.base .aw,[(false,1)],.sl (some 0) 1 [],rfl,rfl,rfl,rfl⟩
 ·obtain⟨c',hle,r1,hv⟩:=r0.qU (k:=1) (cap:=cap) (es:=l.map str) (cs:=cur) hb hbase hg (.inl rfl) (by rw[h3];exact Nat.le_refl _) (by simpa using h1) (Ge (by simpa using h4))
  rw[List.length_map] at hv r1
  refine⟨c',_,_,r1,_,hv,[(true,0)],.sl (some 0) 1 (l.map str),rfl,⟨rfl,rfl,rfl⟩,rfl,?_⟩
  simp[ja]
end Go.az
namespace Go.az
open Go Go.RowKit Go.Sort Go.Proofs Go.Maps
abbrev fL(l:List (List UInt8)):List (List UInt8):=l.mergeSort fun x y=>decide (x≤y)
theorem mb(l:List (List UInt8)):(fL l).length=l.length:=List.length_mergeSort l
theorem Qw{w:World}{g n:Nat}{os:Array Obj}{d:Array (List UInt8)}{cur:Array Value}{e:TypeId}{fz:Nat×Nat}(hb:w.heap[g]?=some (.cells cur e fz)):
 (grow (putRow encStr (Sort.ahead w n) g 0 d) os).heap[g]?=some (.cells (putCells encStr 0 d cur) e fz):=by
 have hlt:=(Array.getElem?_eq_some_iff.1 hb).1
 rw[heap_grow_old _ _ (by simpa using hlt)]
 simp[putRow,mapBlock,Sort.ahead,Array.getElem?_modify,hb,onCells]
theorem Fp{w:World}{B g n:Nat}{os:Array Obj}(d:Array (List UInt8)){w0:World}{D:Prop}(h:Below D B w0 w)(hg:B≤g)(hB:B≤w.heap.size):Below D B w0 (grow (putRow encStr (Sort.ahead w n) g 0 d) os):=
 h.grown (grownBy_sorted d) hB (fun j hj=>by cases hj;exact hg) (Nat.le_add_right _ _)
theorem al.Ya{E:Env}{Q:Exit→St→Prop}{st:St}{ops:Array Oper}{rest:List Oper}{g:FuncId}{dst:Option Tmp}{f x:Operand}{tys:Array TypeId}{ty:TypeId}{pos:String}{after:Array Edge}
 (hc:ar E.P g=true) (he:st.ev f= .fn g [])
 (hsort:∀(aZ off cap:Nat) (ss:List (List UInt8)) (w:World),Holds encStr w aZ off ss.toArray→aZ<w.heap.size→ss.length<4611686018427387904→
   Calls E.P g #[.slice (some ⟨aZ,off,none⟩) ss.length cap] w fun e w'=>e= .returned (.tuple #[])∧∃n os,w'=grow (putRow encStr (Sort.ahead w n) aZ off (ss.mergeSort fun x y=>decide (x≤y)).toArray) os)
 (hnone:∀(p:Option Addr) (cap:Nat) (w:World),Calls E.P g #[.slice p 0 cap] w fun e w'=>e= .returned (.tuple #[])∧w'=w)
 {id cap:Nat} {l:List (List UInt8)} {sp:List AV} (hx:st.ev x= .mu id 1 0 l.length cap) (ho:st.own[id]?=some (some (l.map str++sp))) (hsz:l.length≤1000000)
 (h:al E ops rest Q (St.put { st with own:=st.own.set id (some ((fL l).map str++sp)) } dst (.ax []))):
 al E ops (⟨dst,.call ⟨.value f,#[x],tys⟩,ty,pos,after,none⟩::rest) Q st:=by
 refine al.F4 hc he fun w0 im0 cx a w vs h0 hG r hpw=>?_
 obtain⟨hn,hp⟩:=hpw
 obtain⟨v,rfl⟩:∃v,vs=[v]:=by
  match vs,hn with
  |[v],_=>exact⟨v,rfl⟩
 have hv:VR cx (.mu id 1 0 l.length cap) v:=by
  have:=hp 0 _ v rfl rfl
  rwa[←hx]
 have same:l=[]→{ st with own:=st.own.set id (some ((fL l).map str++sp)) }=st:=fun e=>by
  subst e
  have e1:st.own.set id (some ((fL []).map str++sp))=st.own:=by
   apply List.ext_getElem?
   intro j
   rw[List.getElem?_set]
   split
   ·rename_i hj;subst hj
    rw[if_pos (bO ho),ho];simp[fL]
   ·rfl
  rw[e1]
 rcases hv.cZ with⟨b,hb,hcap,rfl⟩|⟨hl,rfl,rfl⟩
 ·rcases Nat.eq_zero_or_pos l.length with hz|hz
  ·have hl:l=[]:=List.eq_nil_of_length_eq_zero hz
   subst hl
   refine(hnone _ cap w).mono ?_
   rintro e w' ⟨rfl,rfl⟩
   exact⟨_,rfl,cx,st,.ax [],r,.ax [] [] rfl aB,by rw[same rfl] at h;exact h⟩
  ·have hOK:=r.own id b 1 _ hb ho
   obtain⟨cs,te,lo,hi,hblk,hfr,hsize,hlv,hcell⟩:=hOK.aZ
   have hget:∀j,j<l.length→cs[j]?=some (encStr l[j]!):=fun j hj=>by
    have e1:(l.map str++sp)[j]?=some (str l[j]!):=by
     rw[List.getElem?_append_left (by simpa using hj)]
     simp[hj]
    obtain⟨v,hv,hvr,_⟩:=hcell j _ 0 _ e1 rfl
    rw[hvr.bd] at hv
    simpa using hv
   have hH:Holds encStr w b 0 l.toArray:=fun j hj=>by
    have hj':j<l.length:=by simpa using hj
    have e2:=hget j hj'
    have hlt:j<cs.size:=(Array.getElem?_eq_some_iff.1 e2).1
    constructor
    ·simp only[World.cell?,hblk,Nat.zero_add,e2]
     try simp[hj']
    ·simp only[World.frozen?,hblk,Nat.zero_add]
     rcases hfr with rfl|hfr
     ·first|(simp;done)|(simp;omega)
     ·first|(simp;done)|(simp;omega)
   have hbs:b<w.heap.size:=r.kR hb ho
   rw[Nat.zero_mul]
   refine(hsort b 0 cap l w hH hbs ab).mono ?_
   rintro e w' ⟨rfl,n,os,rfl⟩
   refine⟨_,rfl,cx,{ st with own:=st.own.set id (some ((fL l).map str++sp)) },.ax [],?_,.ax [] [] rfl aB,h⟩
   obtain⟨w1,hw1⟩:∃w1,putRow encStr (Sort.ahead w n) b 0 (l.mergeSort fun x y=>decide (x≤y)).toArray=w1:=⟨_,rfl⟩
   have hw1':grow w1 #[]=w1:=grow_empty w1
   have hsz1:w1.heap.size=w.heap.size:=by rw[←hw1];simp[putRow,mapBlock,Sort.ahead]
   have r1:Rel w0 im0 cx { st with own:=st.own.set id (some ((fL l).map str++sp)) } a w1:=by
    refine r.oH hb ho (fun d hd=>?_) ?_ ?_
    ·rw[←hw1]
     simp[putRow,mapBlock,Sort.ahead,Array.getElem?_modify,Ne.symm hd]
    ·rw[←hw1',←hw1]
     exact Fp _ r.below hOK.new r.below.size
    ·refine⟨_,te,lo,hi,(by rw[←hw1',←hw1];exact Qw hblk),?_,?_,?_,?_⟩
     ·simpa[putCells] using hfr
     ·simp only[List.length_append,List.length_map,mb] at hsize ⊢
      simpa[putCells] using hsize
     ·intro i e he
      rcases qI _ _ _ _ he with⟨h1,h2⟩|⟨h1,h2⟩
      ·rw[List.getElem?_map] at h2
       cases hq:(fL l)[i]? with
       |none=>simp[hq] at h2
       |some z=>simp only[hq,Option.map_some,Option.some.injEq] at h2;subst h2;rfl
      ·refine hlv i e ?_
       rw[List.length_map,mb] at h1 h2
       rw[List.getElem?_append_right (by rw[List.length_map];exact h1),List.length_map];exact h2
     ·intro i e j y he hy
      rcases qI _ _ _ _ he with⟨h1,h2⟩|⟨h1,h2⟩
      ·rw[List.length_map,mb] at h1
       rw[List.getElem?_map] at h2
       cases hq:(fL l)[i]? with
       |none=>simp[hq] at h2
       |some z=>
        simp only[hq,Option.map_some,Option.some.injEq] at h2;subst h2
        cases j with
        |succ j=>simp[AV.leaves] at hy
        |zero=>
         simp only[AV.leaves,List.getElem?_cons_zero,Option.some.injEq] at hy;subst hy
         have hlt:i<cs.size:=(Array.getElem?_eq_some_iff.1 (hget i h1)).1
         refine⟨encStr z,?_,.base (.v _),.inr rfl⟩
         rw[Nat.mul_one,Nat.add_zero]
         have hz2:(l.mergeSort fun x y=>decide (x≤y))[i]?=some z:=hq
         have hi2:=bO hz2
         simp only[putCells,Array.getElem?_mapIdx,Array.getElem?_eq_getElem hlt,Option.map_some]
         rw[if_pos ⟨Nat.zero_le _,by simpa using hi2⟩]
         simp[hz2]
      ·have h3:(l.map str++sp)[i]?=some e:=by
        rw[List.length_map,mb] at h1 h2
        rw[List.getElem?_append_right (by rw[List.length_map];exact h1),List.length_map];exact h2
       obtain⟨v,hv,hvr,hv1⟩:=hcell i e j y h3 hy
       refine⟨v,?_,hvr,hv1⟩
       rw[List.length_map,mb] at h1
       have hlt:=(Array.getElem?_eq_some_iff.1 hv).1
       simp only[putCells,Array.getElem?_mapIdx,Array.getElem?_eq_getElem hlt,Option.map_some]
       have hns:¬(0≤i*1+j∧i*1+j<0+(l.mergeSort fun x y=>decide (x≤y)).toArray.size):=by
        have:(l.mergeSort fun x y=>decide (x≤y)).length=l.length:=List.length_mergeSort l
        simp only[List.size_toArray,this];omega
       rw[if_neg hns]
       rw[Array.getElem?_eq_getElem hlt] at hv;exact hv
   rw[hw1]
   exact r1.ext (w':=grow w1 os) ((Below.refl _ w1).grown (w':=grow w1 os) (row:=none) ⟨rfl,rfl,rfl,by simp[grow],fun k hk _=>heap_grow_old _ _ hk⟩ (Nat.le_refl _) (fun j hj=>by cases hj) (Nat.le_refl _))
 ·have hl:l=[]:=List.eq_nil_of_length_eq_zero hl
  subst hl
  refine(hnone _ 0 w).mono ?_
  rintro e w' ⟨rfl,rfl⟩
  exact⟨_,rfl,cx,st,.ax [],r,.ax [] [] rfl aB,by rw[same rfl] at h;exact h⟩
end Go.az
end
section
namespace Go.Proofs
open Go.RowKit Go.Shelf Go.Sort
attribute [local go_sem] Oper.semAt_some
theorem Tryz.abi(zs:List (List UInt8)):(List.range zs.length).map (fun j=>zs[j]?.getD [])=zs:=by
 apply List.ext_getElem
 ·simp
 ·intro i h1 h2
  simp[h2]
theorem Tryz.abk{α:Type}(f:Nat→α)(k:Nat):(List.range (k+1)).map f=(List.range k).map f++[f k]:=by simp[List.range_succ]
set_option maxRecDepth 100000 in
theorem Tryz.abm(F:Fence)(n:Nat)(h7:F.fn 182)(hro:F.round=none)(hn:1≤n)(l Bs bo b off len cap:Nat)(zs:List (List UInt8))(hreach:len*16≤140737488351232)(w:World)(hb:b<w.heap.size)(J:List (List UInt8)→World→Prop)(hJB:∀pre W1,J pre W1→Below w.heap.size w W1)
 (hY:∀pre x W,J pre W→pre.length<len→YieldAt F (n-1) Tryz.prog l #[encStr x] W fun e W'=>e= .returned (.bool true)∧J (pre++[x]) W'∧KeepsWalks W W')
 (W:World) (hBs:W.cell? ⟨Bs,bo,none⟩=some (.slice (some ⟨b,off,none⟩) len cap)) (hc:∀j,j<len→w.cell? ⟨b,off+j,none⟩=some (encStr (zs[j]?.getD []))) (h0:J [] W):
 CallsIn F n Tryz.prog 182 #[.func (.yield l) #[] #[],.pointer (some ⟨Bs,bo,none⟩)] W fun e W'=>(∃v,e= .returned v)∧J ((List.range len).map fun j=>zs[j]?.getD []) W':=by
 refine callsIn_of_wp Tryz.func182 rfl h7 ?_ hro
 simp only[Tryz.ntmps182,List.size_toArray,List.length_cons,List.length_nil,Nat.reduceAdd,Nat.reduceSub,Array.replicate_succ,Array.replicate_zero,List.push_toArray,List.append_toArray,List.nil_append,List.cons_append]
 gi_wp2
 gi_loopw [7] (fun i wr=>∃k:Nat,k≤len∧i= .int .i64 k∧J ((List.range k).map fun j=>zs[j]?.getD []) wr)
  (fun i _=>len-(intOf i).toNat)
 case atStart=>exact⟨0,Nat.zero_le _,rfl,h0⟩
 case round=>
  obtain⟨k,hk,rfl,hJs⟩:=hrel
  have hcx:k<len→wr.cell? ⟨b,off+k,none⟩=some (encStr (zs[k]?.getD [])):=fun h=>((hJB _ _ hJs).cell (p:=⟨b,off+k,none⟩) hb).trans (hc k h)
  by_cases hlt:k<len
  ·obtain⟨fn,tmps,assign,body,hy,hR⟩:=hY _ (zs[k]?.getD []) wr hJs (by simpa using hlt)
   have hcx':=hcx hlt
   dsimp only[encStr] at hy hcx'
   gi_wp2
   refine hR.mono ?_
   rintro e W3 ⟨rfl,hJ3,hk3⟩
   gi_wp2
   go_roundw
   case rel=>exact⟨k+1,by omega,by simp,by rw[Tryz.abk];exact hJ3⟩
   case measure=>simp[intOf];omega
  ·obtain rfl:k=len:=by omega
   gi_wp2
   go_end0
   exact⟨⟨_,rfl⟩,hJs⟩
set_option maxRecDepth 100000 in
theorem Tryz.Dq(F:Fence)(n:Nat)(h7:F.fn 182)(hro:F.round=none)(l Bs bo cap:Nat)(a:Option Addr)(J:List (List UInt8)→World→Prop)(W:World)(hBs:W.cell? ⟨Bs,bo,none⟩=some (.slice a 0 cap))(h0:J [] W):
 CallsIn F n Tryz.prog 182 #[.func (.yield l) #[] #[],.pointer (some ⟨Bs,bo,none⟩)] W fun e W'=>(∃v,e= .returned v)∧J [] W':=by
 refine callsIn_of_wp Tryz.func182 rfl h7 ?_ hro
 simp only[Tryz.ntmps182,List.size_toArray,List.length_cons,List.length_nil,Nat.reduceAdd,Nat.reduceSub,Array.replicate_succ,Array.replicate_zero,List.push_toArray,List.append_toArray,List.nil_append,List.cons_append]
 gi_wp2
 gi_loopw [7] (fun i wr=>i= .int .i64 0∧J [] wr) (fun _ _=>0)
 case atStart=>exact⟨rfl,h0⟩
 case round=>
  obtain⟨rfl,hJs⟩:=hrel
  gi_wp2
  go_end0
  exact⟨⟨_,rfl⟩,hJs⟩
theorem Tryz.Ye(m:Nat):AnyZ.SortsIn Tryz.prog Tryz.wX Fence.wide m:=
 ⟨fun aZ off cap ss W hH hblk hsz=>callsIn_wide.2 (AnyM.slices_Sort_string Tryz.tJ aZ off cap ss W hH hblk hsz),
  fun p cap W=>callsIn_wide.2 (AnyM.slices_Sort_string_none Tryz.tJ p cap W)⟩
end Go.Proofs
namespace Go.Proofs.YthoonfpkfdjhiaaGreatDoor
open Go Go.az Go.RowKit Go.Bk Go.Sort Go.Shelf
abbrev fL(l:List Bs):List Bs:=l.mergeSort fun x y=>decide (x≤y)
theorem Yd(l:List Bs)(hl:l.length≤1000000):ai E 144 [.fn 182 [.bR [.sl none 1 (l.map str)]]] (fun r t=>r= .sl (some 0) 1 ((fL l).map str)∧t=[(fL l).length]):=by
 refine ai.UW (ty:=Tryz.wX.t 26) fun w im vs hE hG hok hpw=>?_
 obtain⟨hn,hp⟩:=hpw
 obtain⟨v,rfl⟩:∃v,vs=[v]:=by
  match vs,hn with
  |[v],_=>exact⟨v,rfl⟩
 obtain⟨us,rfl,hn2,hp2⟩:=(VR.base (c:=⟨[],[],im⟩) (hp 0 _ v rfl rfl)).iz
 obtain⟨u,rfl⟩:∃u,us=[u]:=by
  match us,hn2 with
  |[u],_=>exact⟨u,rfl⟩
 obtain⟨Bs,bo,rfl,cv,h1,h2,h3⟩:=(hp2 0 _ u rfl rfl).nU
 have hc:=hok _ _ _ (h1 0 _ rfl)
 have hs:=h3 0 _ rfl
 have hBs:=World.block_lt_of_cell? w _ hc
 have hbase:∃S:List (List UInt8)→Prop,(∀ss,S ss→ss=l)∧nx Fence.wide 2 Tryz.prog 182 #[.pointer (some ⟨Bs,bo,none⟩)] encStr S l.length w:=by
  obtain⟨a,cap,hcv,hcap,hd⟩:=hs.fu
  rw[List.length_map] at hcv
  refine⟨fun ss=>ss=l,fun _ h=>h,fun lp J W hW hJ hB hY h0=>?_⟩
  have hc':=(hW.cell (p:=⟨Bs,bo,none⟩) hBs).trans hc
  rw[hcv] at hc'
  rcases hd with hd|⟨b,o,rfl,hk,cw,g1,g2,g3⟩
  ·have:l=[]:=by simpa using hd
   subst this
   exact(Tryz.Dq Fence.wide 2 trivial rfl lp Bs bo cap a J W hc' h0).mono fun e W' ⟨he,hj⟩=>⟨he,[],rfl,hj⟩
  ·have hcell:∀j,j<l.length→w.cell? ⟨b,o+j,none⟩=some (encStr (l[j]?.getD [])):=fun j hj=>by
    have e1:(l.map str)[j]?=some (str (l[j]?.getD [])):=by simp[hj]
    have e2:=g1 j _ 0 _ e1 rfl
    have e3:=g3 j _ 0 _ e1 rfl
    have e5:=(VR.base (c:=⟨[],[],im⟩) e3).bd
    have e4:=hok _ _ _ e2
    rw[e5] at e4
    simpa using e4
   rcases Nat.eq_zero_or_pos l.length with hz|hz
   ·have:l=[]:=List.eq_nil_of_length_eq_zero hz
    subst this
    exact(Tryz.Dq Fence.wide 2 trivial rfl lp Bs bo cap _ J W hc' h0).mono fun e W' ⟨he,hj⟩=>⟨he,[],rfl,hj⟩
   ·have hb:=World.block_lt_of_cell? w _ (hcell 0 hz)
    refine(Tryz.abm Fence.wide 2 trivial rfl ab lp Bs bo b o l.length cap l ab w hb J hB hY W hc' hcell h0).mono ?_
    rintro e W' ⟨he,hj⟩
    rw[Tryz.abi] at hj
    exact⟨he,l,rfl,hj⟩
 obtain⟨S,hS,hseq⟩:=hbase
 refine(callsIn_wide.1 (Sq.Yc Tryz.Yb Fence.wide 5 trivial trivial trivial trivial rfl ab (Tryz.Ye _) (enters_of Tryz.func149 ae rfl) 182 #[.pointer (some ⟨Bs,bo,none⟩)] trivial (enters_of Tryz.func182 ae rfl) S l.length (by simp[maxLen];omega) ab w hseq)).mono ?_
 rintro e w' ⟨v,ss,rfl,hss,hrow,_,hbl⟩
 obtain rfl:=hS ss hss
 refine⟨v,rfl,?_,hbl⟩
 simpa[fL] using hrow
end Go.Proofs.YthoonfpkfdjhiaaGreatDoor
end
section
namespace Go.Proofs.YthoonfpkfdjhiaaGreatDoor
open Go Go.az Go.RowKit Go.Bk
end Go.Proofs.YthoonfpkfdjhiaaGreatDoor
end
section
namespace Go.Proofs.YthoonfpkfdjhiaaGreatDoor
open Go Go.az Go.RowKit Go.Bk
theorem ZS{l:List Bs}{i:Nat}{p b:Bs}(hp:l[i]?=some p)(hb:l[i+1]?=some b)(h:¬b=p):fN (l.drop (i+1))=fN (l.drop i):=by
 rw[sB hp,sB hb];simp[fN,h]
theorem ZT{l:List Bs}{i:Nat}{p b:Bs}(hp:l[i]?=some p)(hb:l[i+1]?=some b)(h:b=p):fN (l.drop i)=true:=by
 rw[sB hp,sB hb];simp[fN,h]
theorem ZR{l:List Bs}{i:Nat}(h:l.length≤i+1):fN (l.drop i)=false:=by
 cases hd:l.drop i with
 |nil=>rfl
 |cons x m=>
  have:=congrArg List.length hd
  rw[List.length_drop,List.length_cons] at this
  have:m=[]:=List.eq_nil_of_length_eq_zero ab
  subst this;rfl
theorem zG{i j:Nat}(h1:i≤1000000)(h2:j≤1000000):IntKind.i64.wrap ((IntKind.u64.wrap (IntKind.i64.wrap ((i:Int)+j))).fdiv (2^(min 1 64)))=(((i+j)/2:Nat):Int):=by
 have e0:IntKind.i64.wrap ((i:Int)+j)=(i:Int)+j:=aM ab ab
 have e1:IntKind.u64.wrap ((i:Int)+j)=((i:Int)+j):=by
  simp only[IntKind.wrap,IntKind.bits,IntKind.signed]
  have:((i:Int)+j)%2^64=((i:Int)+j):=by omega
  simp only[this];simp
 rw[e0,e1,show(2:Int)^(min 1 64)=2 by decide,Int.fdiv_eq_ediv_of_nonneg _ ab]
 rw[aM ab ab];omega
theorem Ts{l:List Bs}{x y:Bs}{i m:Nat}(hs:l.Pairwise (fun a b=>a≤b))(h3:∀k y,k<i→l[k]?=some y→y<x)(hb:l[m]?=some y)(h:y<x):∀k y,k<m+1→l[k]?=some y→y<x:=by
 intro k z hk hz
 rcases Nat.lt_or_ge k m with h'|h'
 ·obtain⟨hk1,rfl⟩:=List.getElem?_eq_some_iff.1 hz
  obtain⟨hm1,rfl⟩:=List.getElem?_eq_some_iff.1 hb
  exact List.lt_of_le_of_lt (List.pairwise_iff_getElem.1 hs k m hk1 hm1 h') h
 ·have:k=m:=by omega
  subst this
  rw[hb] at hz;cases hz;exact h
theorem Qx{l:List Bs}{x y:Bs}{j m:Nat}(hs:l.Pairwise (fun a b=>a≤b))(h4:∀k y,j≤k→l[k]?=some y→¬y<x)(hb:l[m]?=some y)(h:¬y<x):∀k y,m≤k→l[k]?=some y→¬y<x:=by
 intro k z hk hz hc
 rcases Nat.lt_or_ge m k with h'|h'
 ·obtain⟨hk1,rfl⟩:=List.getElem?_eq_some_iff.1 hz
  obtain⟨hm1,rfl⟩:=List.getElem?_eq_some_iff.1 hb
  exact h (List.lt_of_le_of_lt (List.pairwise_iff_getElem.1 hs m k hm1 hk1 h') hc)
 ·have:k=m:=by omega
  subst this
  rw[hb] at hz;cases hz;exact h hc
theorem Pk{l:List Bs}{x y:Bs}{i:Nat}(h3:∀k y,k<i→l[k]?=some y→y<x)(h4:∀k y,i≤k→l[k]?=some y→¬y<x)(hs:l.Pairwise (fun a b=>a≤b))(hb:l[i]?=some y):decide (x∈l)=decide (y=x):=by
 by_cases h:y=x
 ·subst h;simp[List.mem_of_getElem? hb]
 ·have:¬x∈l:=fun hm=>by
   obtain⟨k,hk⟩:=List.mem_iff_getElem?.1 hm
   rcases Nat.lt_trichotomy k i with h'|h'|h'
   ·exact List.lt_irrefl x (h3 k x h' hk)
   ·subst h';rw[hk] at hb;cases hb;exact h rfl
   ·obtain⟨hk1,e1⟩:=List.getElem?_eq_some_iff.1 hk
    obtain⟨hm1,e2⟩:=List.getElem?_eq_some_iff.1 hb
    have:=List.pairwise_iff_getElem.1 hs i k hm1 hk1 h'
    rw[e1,e2] at this
    have h5:=h4 i y (Nat.le_refl _) hb
    exact h (List.le_antisymm this (List.not_lt.1 h5))
  simp[this,h]
theorem Pj{l:List Bs}{x:Bs}{i:Nat}(hi:l.length≤i)(h3:∀k y,k<i→l[k]?=some y→y<x):decide (x∈l)=false:=by
 simp only[decide_eq_false_iff_not]
 intro hm
 obtain⟨k,hk⟩:=List.mem_iff_getElem?.1 hm
 exact List.lt_irrefl x (h3 k x (by have:=cz hk;omega) hk)
theorem Df(l:List Bs)(hl:l.length≤9223372036854775807):ai E 146 [.sl none 1 (l.map str)] (fun r t=>r=bl (fN l)∧t=[]):=by
 refine ai.aC (n:=20) (rs:=[.tmp 2]) Tryz.func146 rfl Tryz.ntmps146 rfl ?_
 repeat'(first
 |refine aa.ah fun K hK=>?_
 |(
  refine aa.here 4 10 10 rfl ?_
  have hlt:i+1<l.length:=by omega
  obtain⟨p,hp⟩:∃p,l[i]?=some p:=⟨_,List.getElem?_eq_getElem ab⟩
  refine aa.bB [0,1,2,3,4,5,6,7,8,9] [] ae ae rfl ?_;simp only[go_sem,hw,hp]
  refine aQ.nth hlt (fun b hb=>?_)
  simp only[hb,go_sem,hw,hp])
 |(refine aa.region ?_;simp only[go_sem])
 |(refine hK _ ?_;clear hK K)
 |refine aa.block ?_
 |refine aa.cond rfl (fun c=>?_) (fun c=>?_)<;>(try simp only[dD] at c)
 |refine aa.skip ?_
 |(refine aa.exit ?_;simp only[go_sem])
 |((with_reducible refine And.intro ?_ ?_);(focus((simp;done)));(try simp only[hb,go_sem]))
 |(
  refine aa.here 2 4 4 rfl ?_
  refine aa.dU (ι:=Nat) [2,4,5,6,7,8,9,10,11,12,13,14,15,16,17,18,19] (fun(i:Nat)=>[(3,i64 (i+1:Nat))]) (fun(i:Nat)=>i≤l.length∧fN (l.drop i)=fN l) (fun(i:Nat)=>l.length-i) (0) ?_ ?_ ?_
  ·(try simp only[go_sem]);(repeat'(first|fail))
  ·exact⟨by omega,rfl⟩
  rintro i ⟨h1,h2⟩
  simp only[go_sem]
  have hw:(IntKind.i64.wrap (((i+1:Nat):Int)-1))=(i:Int):=by rw[aM ab ab];omega)
 |(
  refine⟨i+1,?_,?_,?_⟩
  ·(try simp only[go_sem]);(try rw[aM ab ab]);((simp;done))
  ·exact⟨by omega,by rw[←h2];exact ZS hp hb af⟩
  ·(try simp only[]);omega)
 |(
  refine aa.ret ?_
  refine aN.is ?_;simp only[go_sem,aI,aH,aG,aK,aJ,aL]<;>(first
  |(rw[←h2,ZT hp hb af];done)
  |(rw[←h2,ZR ab];done)))
 |refine aa.fin af ?_)
theorem X8(s:Bs):ai E 184 [str s] (fun r t=>r=bl false∧t=[]):=by
 refine ai.aC (n:=6) (rs:=[.tmp 2]) Tryz.func184 rfl Tryz.ntmps184 rfl ?_
 repeat'(first
 |refine aa.ah fun K hK=>?_
 |(refine aa.region ?_;simp only[go_sem])
 |(refine hK _ ?_;clear hK K)
 |(
  refine aa.ret ?_
  refine aN.is ?_;simp only[go_sem,aI,aH,aG,aK,aJ,aL]<;>(simp;done)))
theorem yp(s:Bs):ai E 180 [str s] (fun r t=>r=bl false∧t=[]):=by
 refine ai.aC (n:=6) (rs:=[.tmp 2]) Tryz.func180 rfl Tryz.ntmps180 rfl ?_
 repeat'(first
 |refine aa.ah fun K hK=>?_
 |(refine aa.region ?_;simp only[go_sem])
 |(refine hK _ ?_;clear hK K)
 |(
  refine aa.ret ?_
  refine aN.is ?_;simp only[go_sem,aI,aH,aG,aK,aJ,aL]<;>(simp;done)))
theorem KI(s u:Bs):ai E 183 [str s,str u] (fun r t=>r=bl (decide (s<u))∧t=[]):=by
 refine ai.aC (n:=17) (rs:=[.tmp 4]) Tryz.func183 rfl Tryz.ntmps183 rfl ?_
 repeat'(first
 |refine aa.ah fun K hK=>?_
 |(refine aa.region ?_;simp only[go_sem,Go.Proofs.bytesLess_eq])
 |(refine hK _ ?_;clear hK K)
 |(refine ak.one (yp _) ae rfl ?_;simp only[go_sem,Go.Proofs.bytesLess_eq])
 |(
  refine aa.ret ?_
  refine aN.is ?_;simp only[go_sem,aI,aH,aG,aK,aJ,aL]<;>(simp[Go.Proofs.bytesLess_eq];done)))
theorem FX(l:List Bs)(x:Bs)(hs:l.Pairwise (fun a b=>a≤b))(hl:l.length≤1000000):ai E 148 [.sl none 1 (l.map str),str x] (fun r t=>(∃n:Int,r= .ax [i64 n,bl (decide (x∈l))])∧t=[]):=by
 refine ai.aC (n:=54) (rs:=[.tmp 4,.tmp 5]) Tryz.func148 rfl Tryz.ntmps148 rfl ?_
 repeat'(first
 |refine aa.ah fun K hK=>?_
 |(
  refine aa.here 5 22 6 rfl ?_
  rw[zG (i:=i) (j:=j) ab ab]
  refine aa.region ?_;simp only[go_sem])
 |(refine aa.region ?_;simp only[go_sem])
 |(refine hK _ ?_;clear hK K)
 |refine aa.block ?_
 |refine aa.cond rfl (fun c=>?_) (fun c=>?_)<;>(try simp only[dD] at c)
 |refine aa.skip ?_
 |(refine aa.exit ?_;simp only[go_sem])
 |(refine ak.one (KI _ _) ae rfl ?_;simp only[go_sem])
 |(refine ak.one (X8 _) ae rfl ?_;simp only[go_sem])
 |(refine aP.du (fun h=>?_) (fun h=>?_)<;>simp only[h,go_sem]<;>(try simp only[dD] at h))
 |(refine aP.split (fun h=>?_) (fun h=>?_)<;>simp only[h,go_sem]<;>(try simp only[dD] at h))
 |(refine aQ.ez af ?_;(try simp only[go_sem]))
 |((first|refine aQ.nth ?_ (fun b hb=>?_)|with_reducible refine And.intro ?_ ?_);(focus(first|omega|(simp;done)));(try simp only[hb,go_sem]))
 |(
  refine aa.here 3 13 3 rfl ?_
  refine aa.dU (ι:=Nat×Nat) [9,13,14,15,16,17,18,19,20,21,22,23,24,25,26,27,28,29,30] (fun⟨i,j⟩=>[(7,i64 i),(8,i64 j)]) (fun⟨i,j⟩=>i≤j∧j≤l.length∧(∀k y,k<i→l[k]?=some y→y<x)∧(∀k y,j≤k→l[k]?=some y→¬y<x)) (fun⟨i,j⟩=>j-i) ((0,l.length)) ?_ ?_ ?_
  ·(try simp only[go_sem]);(repeat'(first|fail))
  ·exact⟨by simp,by simp,by simp,fun k y h1 h2=>absurd (cz h2) (by simpa using h1)⟩
  rintro⟨i,j⟩ ⟨h1,h2,h3,h4⟩
  simp only[go_sem])
 |(
  first
  |(refine⟨((i+j)/2+1,j),?_,?_,?_⟩
    ·(try simp only[go_sem]);(try rw[aM ab ab]);simp
    ·exact⟨by show(i+j)/2+1≤j;omega,h2,Ts hs h3 hb af,h4⟩
    ·show j-((i+j)/2+1)<j-i;omega)
  |(refine⟨(i,(i+j)/2),?_,?_,?_⟩
    ·(try simp only[go_sem]);(try simp)
    ·exact⟨by show i≤(i+j)/2;omega,by show(i+j)/2≤l.length;omega,h3,Qx hs h4 hb af⟩
    ·show(i+j)/2-i<j-i;omega))
 |(
  refine aa.ret ?_
  simp only[go_sem]
  refine⟨[],.ax [i64 i,bl (decide (x∈l))],rfl,⟨rfl,?_,trivial⟩,⟨i,rfl⟩,rfl⟩
  refine congrArg (fun b=>Value.bool b) ?_
  obtain rfl:i=j:=by omega
  first|(rw[Pk h3 h4 hs hb];simp[*];done)|exact(Pj ab h3).symm)
 |refine aa.fin af ?_)
end Go.Proofs.YthoonfpkfdjhiaaGreatDoor
end
