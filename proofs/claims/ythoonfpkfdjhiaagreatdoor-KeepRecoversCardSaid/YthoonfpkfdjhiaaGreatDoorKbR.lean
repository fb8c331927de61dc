/- Texts of one chain, put together (G35, G36, KpI, A20, A30, A31, A32, A33, RwKRecoversa). -/
import Derived.Test.YthoonfpkfdjhiaaGreatDoorKbQ
import Derived.Test.YthoonfpkfdjhiaaGreatDoorKbM
import Derived.Test.YthoonfpkfdjhiaaGreatDoorKbO
import Derived.Test.YthoonfpkfdjhiaaGreatDoorKbH
import Derived.Test.YthoonfpkfdjhiaaGreatDoorKbP
import Derived.Test.YthoonfpkfdjhiaaGreatDoorKbJ
import Derived.Test.YthoonfpkfdjhiaaGreatDoorKbK
import Derived.Test.YthoonfpkfdjhiaaGreatDoorKbA
set_option linter.unusedVariables false
set_option linter.unusedSimpArgs false
set_option maxHeartbeats 16000000
set_option maxRecDepth 8000
section
namespace Go.Proofs.YthoonfpkfdjhiaaGreatDoor
open Go Go.az Go.RowKit Go.Bk
theorem FW{l:List Lm}{x y:Lm}{m:Nat}(hr:c8 l=true)(hy:l[m]?=some y)(h:cmpL y x<0):∀(k:Nat) (z:Lm),k<m+1→l[k]?=some z→cmpL z x<0:=by
 intro k z hk hz
 rcases Nat.lt_or_ge k m with h1|h1
 ·exact vP (CB hr m k z y h1 hz hy) h
 ·obtain rfl:k=m:=by omega
  rw[hy] at hz;cases hz;exact h
theorem FV{l:List Lm}{x y:Lm}{m:Nat}(hr:c8 l=true)(hy:l[m]?=some y)(h:¬cmpL y x<0):∀(k:Nat) (z:Lm),m≤k→l[k]?=some z→¬cmpL z x<0:=by
 intro k z hk hz h2
 rcases Nat.lt_or_ge m k with h1|h1
 ·exact h (vP (CB hr k m y z h1 hy hz) h2)
 ·obtain rfl:k=m:=by omega
  rw[hy] at hz;cases hz;exact h h2
theorem FY(l:List Lm)(x:Lm)(hr:c8 l=true):ai E 176 [ct l,bD x,.fn 105 []] (fun r t=>r= .ax [i64 (cu l x),bl (iQ l x)]∧t=[]):=by
 have hl:l.length≤32:=(nc.1 hr).1
 refine ai.aC (n:=49) (rs:=[.tmp 6,.tmp 7]) Tryz.func176 rfl Tryz.ntmps176 rfl ?_
 repeat'(first
 |refine aa.ah fun K hK=>?_
 |(
  refine aa.here 4 18 7 rfl ?_
  have hh:=zG (i:=i) (j:=j) ab ab
  refine aa.region ?_;simp only[go_sem,hh])
 |(
  refine aa.here 5 24 8 rfl ?_
  refine aa.bB [0,1,2,3,4,5,6,7] [] ae ae rfl ?_;simp only[go_sem,Int.toNat_natCast])
 |(
  refine aa.here 8 35 16 rfl ?_
  obtain rfl:i=j:=by omega
  have gp:=VU (x:=x) g2 g3 (fun y hy=>g4 i y (Nat.le_refl _) hy)
  refine aa.bB [0,1,2,3,4,5,6,7,8,9,10,11,12,13,14,15] [] ae ae rfl ?_;simp only[go_sem])
 |(refine aa.region ?_;simp only[go_sem])
 |(refine hK _ ?_;clear hK K)
 |refine aa.block ?_
 |refine aa.cond rfl (fun c=>?_) (fun c=>?_)<;>(try simp only[dD] at c)
 |refine aa.skip ?_
 |(refine aa.exit ?_;simp only[go_sem])
 |(refine ak.one (Ag _ _) ae rfl ?_;simp only[go_sem])
 |(refine aP.split (fun h=>?_) (fun h=>?_)<;>simp only[h,go_sem]<;>(try simp only[dD] at h))
 |((first|refine aQ.nth ?_ (fun b hb=>?_)|with_reducible refine And.intro ?_ ?_);(focus(first|omega|(simp;done)));(try simp only[hb,go_sem]))
 |(
  refine aa.here 3 15 3 rfl ?_
  refine aa.dU (ι:=Nat×Nat) [11,15,16,17,18,19,20,21,22,23,24,25,26,27,28,29,30,31,32,33,34] (fun⟨i,j⟩=>[(9,i64 i),(10,i64 j)]) (fun⟨i,j⟩=>i≤j∧j≤l.length∧(∀(k:Nat) (y:Lm),k<i→l[k]?=some y→cmpL y x<0)∧(∀(k:Nat) (y:Lm),j≤k→l[k]?=some y→¬cmpL y x<0)) (fun⟨i,j⟩=>j-i) ((0,l.length)) ?_ ?_ ?_
  ·(try simp only[go_sem]);(repeat'(exact .inr (bm rfl)));done
  ·exact⟨by omega,by omega,fun k y h=>by omega,fun k y h h2=>by have:=cz h2;omega⟩
  rintro⟨i,j⟩ ⟨g1,g2,g3,g4⟩
  simp only[go_sem])
 |(
  refine⟨((i+j)/2+1,j),?_,?_,?_⟩
  ·(try simp only[go_sem]);(try rw[aM ab ab]);(repeat'(first|refine And.intro ?_ ?_|exact .inr rfl|exact .inr (bm rfl)));done
  ·(exact⟨by show(i+j)/2+1≤j;omega,g2,FW hr hb af,g4⟩)
  ·(show j-((i+j)/2+1)<j-i;omega))
 |(
  refine⟨(i,(i+j)/2),?_,?_,?_⟩
  ·(try simp only[go_sem]);(try rw[aM ab ab]);(repeat'(exact .inr (bm rfl)));done
  ·(exact⟨by show i≤(i+j)/2;omega,by show(i+j)/2≤l.length;omega,g3,FV hr hb af⟩)
  ·(show(i+j)/2-i<j-i;omega))
 |(
  refine aa.ret ?_
  refine aN.is ?_;simp only[go_sem,aI,aH,aG,aK,aJ,aL]<;>((try simp only[gp,true_and]);(first|(rw[pq (show l[cu l x]?=some b by rw[gp];exact hb)];done)|(rw[zH (x:=x) ab];done))))
 |refine aa.fin af ?_)
theorem qt(l:List Lm):∀e∈l.map bD,∀x∈e.leaves,x.dR=some x:=by
 intro e he x hx
 obtain⟨o,_,rfl⟩:=List.mem_map.1 he
 simp only[AV.leaves,List.mem_cons,List.not_mem_nil,or_false] at hx
 rcases hx with rfl|rfl|rfl|rfl|rfl|rfl<;>rfl
theorem VK(l:List Lm):∀e∈l.map bD,e.leaves.length=6∧∀y∈e.leaves,∃z,y= .v z:=by
 intro e he
 obtain⟨o,_,rfl⟩:=List.mem_map.1 he
 refine⟨rfl,fun x hx=>?_⟩
 simp only[AV.leaves,List.mem_cons,List.not_mem_nil,or_false] at hx
 rcases hx with rfl|rfl|rfl|rfl|rfl|rfl<;>exact⟨_,rfl⟩
theorem Tt{l:List Lm}{k m:Nat}{y:Lm}(h:l[k]?=some y):(l.map bD++spare 6 m)[k]?=some (bD y):=by
 rw[List.getElem?_append_left (by rw[List.length_map];exact cz h),List.getElem?_map,h];rfl
theorem Tu{l:List Lm}{k m:Nat}{x:Lm}(h:k<l.length):(l.map bD++spare 6 m).set k (bD x)=(l.set k x).map bD++spare 6 m:=by
 rw[List.set_append_left _ _ (by simpa using h),List.map_set]
theorem Tv(l:List Lm)(x:Lm)(hl:l.length≤1000000):ai E 136 [ct l,bD x] (fun r t=>r= .ax [ct (fx l x).1,i64 (fx l x).2]∧t=[]):=by
 refine ai.aC (n:=41) (rs:=[.tmp 4,.tmp 5]) Tryz.func136 rfl Tryz.ntmps136 rfl ?_
 repeat'(first
 |refine aa.ah fun K hK=>?_
 |(
  refine aa.here 3 19 3 rfl ?_
  refine aa.oz 6 1 6 l.length (l.length+m) (l.map bD) (spare 6 m) rfl rfl aB (qt _) ?_
  simp only[go_sem]
  refine aa.region ?_;simp only[go_sem])
 |(
  refine aa.here 6 27 5 rfl ?_
  have hmr:gf x=true:=by simp_all
  have hhs:iQ l x=true:=by simp_all
  have f1:=Tt (m:=m) (List.getElem?_eq_getElem (qL hhs))
  refine aa.region ?_;simp only[go_sem,f1,Int.toNat_natCast]
  refine⟨(by have:=qL hhs;omega),?_⟩)
 |(
  refine aa.here 7 31 3 rfl ?_
  rw[Tu (qL hhs)]
  refine aa.oz 6 1 6 l.length (l.length+m) ((l.set (cu l x) x).map bD) (spare 6 m) rfl rfl aB (qt _) ?_
  simp only[go_sem]
  refine aa.region ?_;simp only[go_sem])
 |(
  refine aa.here 9 35 3 rfl ?_
  refine aa.oz 6 1 6 l.length (l.length+m) (l.map bD) (spare 6 m) rfl rfl aB (qt _) ?_
  simp only[go_sem]
  refine aa.region ?_;simp only[go_sem])
 |(
  refine aa.here 10 36 7 rfl ?_
  have hr:c8 l=true:=by simp_all
  have h32:l.length≤32:=(nc.1 hr).1
  refine aa.aW ?_
  refine al.at 7 4 rfl ?_
  simp only[go_sem]
  (repeat(refine⟨⟨_,rfl⟩,?_⟩))
  refine QK (l:=l) (p:=cu l x) (m:=m) (id:=1) (x:=x) rfl rfl rfl rfl (wq l x).1 ab ?_
  intro own' id' m' ho'
  refine al.of ?_
  (try simp only[go_sem]))
 |(refine aa.region ?_;simp only[go_sem])
 |(refine hK _ ?_;clear hK K)
 |refine aa.cond rfl (fun c=>?_) (fun c=>?_)<;>first|exact Bool.noConfusion c|(try simp only[dD] at c)
 |refine aa.skip ?_
 |(refine ak.take (Ai l hl) ae rfl (.cons (.one (.clean rfl)) .nil) ?_;rintro r t ⟨rfl,rfl⟩;refine⟨0,6,_,rfl,by simp,VK _,fun m=>?_⟩;simp only[go_sem,List.length_map])
 |(refine ak.one (vO l ab) ae rfl ?_;simp only[go_sem])
 |(refine ak.one (An x) ae rfl ?_;simp only[go_sem])
 |(have hr:c8 l=true:=af;refine ak.sn (.cons (.one (.jA rfl aB (qt _))) (.cons (.one (.clean rfl)) (.cons (.fn .nil) .nil))) (FY l x hr) ae rfl (by(simp[kj,lz,ly];done)) ?_;simp only[go_sem])
 |(refine aP.split (fun h=>?_) (fun h=>?_)<;>simp only[h,go_sem]<;>(try simp only[dD] at h))
 |((with_reducible refine And.intro ?_ ?_);(focus((simp;done)));(try simp only[hb,go_sem]))
 |(
  unfold kQ at ho'
  refine aa.oz 4 id' 6 (l.length+1) (l.length+1+m') ((l.take (cu l x)++x::l.drop (cu l x)).map bD) (spare 6 m') rfl ho' (by have:=(wq l x).1;simp;omega) (qt _) ?_
  simp only[go_sem]
  refine aa.ret ?_
  refine aN.is ?_;simp only[go_sem,aI,aH,aG,aK,aJ,aL]<;>(((rw[Cp (by simp_all) (by simp_all) (by simp_all) ab];simp;done))))
 |(
  refine aa.ret ?_
  refine aN.is ?_;simp only[go_sem,aI,aH,aG,aK,aJ,aL]<;>((first|(rw[Cn (fun e=>by simp_all)];simp;done)|(rw[Cq (by simp_all) (by simp_all) (by simp_all)];simp;done)|(rw[Co (by simp_all) (by simp_all) (by simp_all) ab];simp;done)))))
end Go.Proofs.YthoonfpkfdjhiaaGreatDoor
end
section
namespace Go.Kp
open Go.Txt
section
variable{σ:Type}{ask:σ→Ak→σ×Int×Int}
theorem A9{g0:σ}{l:List Ak}(hok:j0 ask g0 l){d:Dk}{n:Nat}(hd:bV d=true)(h1:d.f1=⟨[],[]⟩)
 (h0:bu d.f0=(cd (bX::b7 l)).take n) {s:Nat} (hs:s≤l.length) (hn:(cd (bX::b7 (l.take s))).length≤n):
 ∃i,s≤i∧i≤l.length∧bP d=(⟨eo d 0 ⟨(bu d.f0).take (cd (bX::b7 (l.take i))).length,[]⟩,0,1⟩,[],b7 (l.take i),0):=by
 have hg:∀r∈bX::b7 l,jW r:=by
  intro r hr
  rcases List.mem_cons.1 hr with rfl|hr
  ·exact zc
  ·exact u1 (g:=g0) hok r hr
 obtain⟨m,m1,m2,m3,m4⟩:=qn (k:=n) hg
 have hm:s+1≤m:=by
  rcases Nat.lt_or_ge m (s+1) with hlt|hge
  ·have hml:m<(bX::b7 l).length:=by
    have:(b7 l).length=l.length:=by simp[b7]
    simp only[List.length_cons];omega
   have h5:=m4 hml
   have h6:(cd ((bX::b7 l).take (m+1))).length≤(cd (bX::b7 (l.take s))).length:=by
    rw[sC,←List.take_succ_cons]
    have:(bX::b7 l).take (s+1)=(bX::b7 l).take (m+1)++((bX::b7 l).drop (m+1)).take (s-m):=by
     rw[show s+1=(m+1)+(s-m) by omega,List.take_add]
    rw[this,tq];simp
   omega
  ·exact hge
 obtain⟨i,rfl⟩:∃i,m=i+1:=⟨m-1,by omega⟩
 have hi:i≤l.length:=by
  have:(b7 l).length=l.length:=by simp[b7]
  simp only[List.length_cons] at m1;omega
 rw[List.take_succ_cons,←sC] at m2
 have hlk:=As m2
 refine⟨i,by omega,hi,?_⟩
 unfold bP
 rw[if_pos hd,h0,hlk,h1]
 rfl
theorem uP{g0:σ}{k:Ks σ}{l:List Ak}{s:Nat}(h:gm ask g0 k l s)(n0 n1:Int):bV (fp k.jn n0 n1)=true∧fp k.jn n0 n1=⟨gX n0 k.jn.d.f0,⟨[],[]⟩⟩:=by
 have e:fp k.jn n0 n1=⟨gX n0 k.jn.d.f0,⟨[],[]⟩⟩:=by
  unfold fp mr;rw[if_pos h.right,h.f1];simp[gX]
 refine⟨?_,e⟩
 have:=(nf.1 h.right).1
 rw[e,nf]
 simp only[gX,List.length_append,List.length_take,List.length_nil];omega
theorem A7{g0:σ}{k:Ks σ}{l:List Ak}{s:Nat}(h:gm ask g0 k l s)(n0 n1:Int):
 ∃i,s≤i∧i≤l.length∧(bP (fp k.jn n0 n1)).2.2.1=b7 (l.take i)∧(bP (fp k.jn n0 n1)).2.2.2=0:=by
 obtain⟨hr,e⟩:=uP h n0 n1
 have ha:bu (gX n0 k.jn.d.f0)=(cd (bX::b7 l)).take (k.jn.d.f0.safe.length+n0.toNat):=by rw[z7,qN h]
 rw[e] at hr ⊢
 obtain⟨i,h2,h3,h4⟩:=A9 h.ok (n:=k.jn.d.f0.safe.length+n0.toNat) hr rfl ha h.sl (by rw[←h.safe];omega)
 exact⟨i,h2,h3,by rw[h4],by rw[h4]⟩
theorem Vg{g0:σ}{k:Ks σ}{l:List Ak}{s:Nat}(h:gm ask g0 k l s):(bP k.jn.d).2.2.1=b7 l∧(bP k.jn.d).2.2.2=0:=by
 have ha:bu k.jn.d.f0=(cd (bX::b7 l)).take (cd (bX::b7 l)).length:=by rw[qN h,List.take_of_length_le (Nat.le_refl _)]
 obtain⟨i,h2,h3,h4⟩:=A9 h.ok h.right h.f1 ha (Nat.le_refl l.length) (by rw[List.take_of_length_le (Nat.le_refl _)];exact Nat.le_refl _)
 obtain rfl:i=l.length:=by omega
 rw[h4,List.take_of_length_le (Nat.le_refl _)]
 exact⟨rfl,rfl⟩
end
end Go.Kp
end
section
namespace Go.Proofs.YthoonfpkfdjhiaaGreatDoor
open Go Go.az Go.RowKit Go.Bk Go.Msg Go.Txt
def a5:Ak:=⟨4,0,Txt.br,[],aX,5,false,Txt.bE⟩
def p5:List UInt8:=[49,61,52,1,49,48,61,53,1]
theorem od:bA a5=true:=by rw[oc rfl];decide
theorem rf:cb a5=(p5,0):=by
 rw[BB od,y7 rfl]
 have e1:Fld.ay 1=[49]:=by rw[Fld.tG aj aj];rfl
 have e4:Fld.ay 4=[52]:=by rw[Fld.tG aj aj];rfl
 have e5:Fld.ay 5=[53]:=by rw[Fld.tG aj aj];rfl
 have e10:Fld.ay 10=[49,48]:=by rw[Fld.XL aj aj,Fld.tG aj aj];rfl
 show(Fld.bC [(1,Fld.ay 4),(10,Fld.ay 5)],0)=_
 rw[e4,e5]
 simp only[Fld.bC,Fld.gw,e1,e10]
 rfl
theorem BJ:dt p5=(a5,0):=by
 have h:=BR od
 rw[rf] at h
 exact h
def gA:Gt:=⟨[zeroV],[],false,0,100⟩
def gB:Gt:=⟨[zeroV],[],false,5,100⟩
theorem qq:cA 1 100=(gA,0):=by rw[sX aj aj aj];rfl
theorem E1:fA gA 5=(gB,0):=by rw[CX aj aj aj];rfl
theorem DC:∀v∈[zeroV],oV v:=by
 intro v hv
 simp only[List.mem_singleton] at hv
 subst hv
 exact⟨by decide,by decide,by decide,by decide⟩
theorem vj:dn gA:=⟨by decide,by decide,DC⟩
theorem zl:dn gB:=⟨by decide,by decide,DC⟩
theorem Ew{g:Gt}{a:Ak}(h:dn g):dn (dY g a).1:=by
 unfold dY fA
 split
 ·split
  ·exact h
  ·exact h
 ·exact h
theorem sd:dY gA a5=(gB,0,0):=by rw[xP rfl];show((fA gA 5).1,_,(fA gA 5).2)=_;rw[E1]
def eX:Kp.Ks Gt:=⟨(Kp.bP Kp.eF).1,gA⟩
theorem vv{k:Kp.Ks Gt}{l:List Ak}{s:Nat}(h:Kp.gm dY gA k l s):ep k.jn.d:=fa h.right
theorem sJ:Kp.gm dY gA eX [] 0:=by
 have h:=(Kp.zQ (ask:=dY) gA).1
 have e:(Kp.fI dY gA Kp.eF).1=eX:=by unfold Kp.fI eX;rw[Kp.ov];rfl
 rwa[e] at h
theorem Rn:ep eX.jn.d:=vv sJ
theorem DG:(Kp.dP eX.jn p5).2=0:=by
 have hm:=(Kp.vu sJ).1
 have e:eX.jn=⟨⟨⟨Kp.recC Kp.bX,[]⟩,⟨[],[]⟩⟩,0,1⟩:=by unfold eX;rw[Kp.ov]
 have hr:Kp.bV ⟨⟨Kp.recC Kp.bX,[]⟩,⟨[],[]⟩⟩=true:=by have:=sJ.right;rwa[e] at this
 have hw:(Kp.eL eX.jn.d eX.jn.at' (Kp.recC p5)).2=0:=by
  rw[e]
  show(Kp.eL ⟨⟨Kp.recC Kp.bX,[]⟩,⟨[],[]⟩⟩ 0 (Kp.recC p5)).2=0
  rw[xw hr (by show(Kp.recC Kp.bX).length+0+_≤_;rw[Kp.eD,Kp.eD];decide)]
 rw[xA hm aj aj hw]
theorem E2:∃k1 k2:Kp.Ks Gt,Kp.dJ dY eX a5=(k1,0,0)∧k1.g=gB∧ep k1.jn.d∧Kp.ik k1=(k2,0)∧k2.g=gB∧ep k2.jn.d∧ep (Kp.fp k2.jn 0 0)∧(Kp.bP (Kp.fp k2.jn 0 0)).2.2.1=[p5]∧(Kp.bP (Kp.fp k2.jn 0 0)).2.2.2=0∧Kp.eb dY gA (Kp.bP (Kp.fp k2.jn 0 0)).2.2.1=gB:=by
 have ha:(dY eX.g a5).2.2=0:=by show(dY gA a5).2.2=0;rw[sd]
 have hp:(Kp.dP eX.jn (cb a5).1).2=0:=by rw[rf];exact DG
 have hd:=vw (ask:=dY) (k:=eX) od ha hp
 have hd2:(Kp.dJ dY eX a5).2.2=0:=by rw[hd]
 have i1:=(Kp.yR sJ a5).1 hd2
 have hg1:(Kp.dJ dY eX a5).1.g=gB:=by rw[hd];show(dY gA a5).1=gB;rw[sd]
 obtain⟨s1,i2,s2⟩:=Kp.CP i1
 obtain⟨i,j1,j2,j3,j4⟩:=Kp.A7 i2 0 0
 have hi:i=1:=by
  have h1:1≤i:=j1
  have h2:i≤1:=j2
  omega
 subst hi
 have he:(Kp.bP (Kp.fp (Kp.ik (Kp.dJ dY eX a5).1).1.jn 0 0)).2.2.1=[p5]:=by rw[j3];show[(cb a5).1]=_;rw[rf]
 refine⟨(Kp.dJ dY eX a5).1,(Kp.ik (Kp.dJ dY eX a5).1).1,?_,hg1,vv i1,Prod.ext rfl s1,s2.trans hg1,vv i2,fa (Kp.uP i2 0 0).1,he,j4,?_⟩
 ·refine Prod.ext rfl (Prod.ext ?_ hd2)
  rw[hd];show(dY gA a5).2.1=0;rw[sd]
 ·rw[he]
  show Kp.eb dY gA [p5]=gB
  rw[Kp.eb,BJ,if_pos rfl,sd,if_pos rfl];rfl
theorem E3  :ai E 7 [] (fun r t=>r=bl true∧t=[]):=by
 obtain⟨k1,k2,h1,h2,h3,h4,h5,h6,h7,h8,h9,h10⟩:=E2
 have c1:=Ab 1 100 (by rw[qq])
 rw[show(⟨(Kp.bP Kp.eF).1,(cA 1 100).1⟩:Kp.Ks Gt)=eX by rw[qq];rfl] at c1
 have c2:=z6 dY 1 100 eX a5 vj Rn (fun _=>by rw[rf];(decide)) (fun _=>zX gA a5 rfl vj)
 rw[h1] at c2
 have c3:=vD 1 100 k1 (by rw[h2];exact zl) h3
 rw[h4] at c3
 have c4:=zS k2.jn 0 0 h6
 have c5:=vC dY dn 1 100 (Kp.fp k2.jn 0 0) h7 (fun _=>by rw[qq];exact vj) (by rw[h8];(decide)) (by rw[h8];intro b hb;simp only[List.mem_singleton] at hb;subst hb;decide)
  (by
    rw[h8]
    intro g b hg hb hr
    simp only[List.mem_singleton] at hb
    subst hb
    rw[BJ]
    exact⟨zX g a5 rfl hg,fun _=>Ew hg⟩)
 rw[oA (g:=gB) (by rw[qq]) h9 (by rw[qq];exact h10)] at c5
 have c6:=vB a5
 rw[rf] at c6
 have c7:=RX gB k2.g zl
 rw[h5] at c7
 rw[decide_eq_true rfl] at c7
 dsimp only at c2 c3 c5 c6
 have hk2:k2.g=gB:=h5
 obtain⟨j2,g2⟩:=k2
 dsimp only at hk2
 subst hk2
 dsimp only at c3 c4 c5
 refine ai.aC (n:=75) (rs:=[.tmp 0]) Tryz.func7 rfl Tryz.ntmps7 rfl ?_
 repeat'(first
 |refine aa.ah fun K hK=>?_
 |(refine aa.region ?_;simp only[go_sem])
 |(refine hK _ ?_;clear hK K)
 |(refine ak.one (c1) ae rfl ?_;simp only[go_sem])
 |(refine ak.one (c2) ae rfl ?_;simp only[go_sem])
 |(refine ak.one (c3) ae rfl ?_;simp only[go_sem])
 |(refine ak.one (c4) ae rfl ?_;simp only[go_sem])
 |(refine ak.one (c5) ae rfl ?_;simp only[go_sem])
 |(refine ak.one (c6) ae rfl ?_;simp only[go_sem])
 |(refine ak.one (c7) ae rfl ?_;simp only[go_sem])
 |(refine aP.split (fun h=>?_) (fun h=>?_)<;>simp only[h,go_sem]<;>(try simp only[dD] at h))
 |(
  refine aa.ret ?_
  refine aN.is ?_;simp only[go_sem,aI,aH,aG,aK,aJ,aL]<;>(first|rfl|skip))
 |(exact absurd rfl h))
def b6(g:Gt)(a:Ak):Gt×Int×Int:=
 if a.kind=1 then gE g a.bq a.ord else
 if a.kind=2 then fV g a.bq a.id a.ord.id a.ord.au a.ord.aE else
 if a.kind=3 then dO g a.bq a.exec else
 if a.kind=4 then((fA g a.now).1,0,(fA g a.now).2) else
 if a.kind=5 then((lR g a.on).1,0,(lR g a.on).2) else
 if a.kind=6 then((jU g a.bq a.on).1,0,(jU g a.bq a.on).2) else
 if a.kind=7 then((iY g a.bq).1,0,(iY g a.bq).2) else
 if a.kind=8 then((iR g a.lim).1,0,(iR g a.lim).2) else(g,0,1)
theorem ur{g:Gt}{a:Ak}(h:a.kind=1):b6 g a=gE g a.bq a.ord:=by unfold b6;rw[if_pos h]
theorem uu{g:Gt}{a:Ak}(h:a.kind=2):b6 g a=fV g a.bq a.id a.ord.id a.ord.au a.ord.aE:=by unfold b6;rw[if_neg ab,if_pos h]
theorem uv{g:Gt}{a:Ak}(h:a.kind=3):b6 g a=dO g a.bq a.exec:=by unfold b6;rw[if_neg ab,if_neg ab,if_pos h]
theorem uw{g:Gt}{a:Ak}(h:a.kind=4):b6 g a=((fA g a.now).1,0,(fA g a.now).2):=by unfold b6;rw[if_neg ab,if_neg ab,if_neg ab,if_pos h]
theorem ux{g:Gt}{a:Ak}(h:a.kind=5):b6 g a=((lR g a.on).1,0,(lR g a.on).2):=by unfold b6;rw[if_neg ab,if_neg ab,if_neg ab,if_neg ab,if_pos h]
theorem uy{g:Gt}{a:Ak}(h:a.kind=6):b6 g a=((jU g a.bq a.on).1,0,(jU g a.bq a.on).2):=by unfold b6;rw[if_neg ab,if_neg ab,if_neg ab,if_neg ab,if_neg ab,if_pos h]
theorem uz{g:Gt}{a:Ak}(h:a.kind=7):b6 g a=((iY g a.bq).1,0,(iY g a.bq).2):=by unfold b6;rw[if_neg ab,if_neg ab,if_neg ab,if_neg ab,if_neg ab,if_neg ab,if_pos h]
theorem uA{g:Gt}{a:Ak}(h:a.kind=8):b6 g a=((iR g a.lim).1,0,(iR g a.lim).2):=by unfold b6;rw[if_neg ab,if_neg ab,if_neg ab,if_neg ab,if_neg ab,if_neg ab,if_neg ab,if_pos h]
theorem Ey{g:Gt}{a:Ak}(h:¬a.kind=1∧¬a.kind=2∧¬a.kind=3∧¬a.kind=4∧¬a.kind=5∧¬a.kind=6∧¬a.kind=7∧¬a.kind=8):b6 g a=(g,0,1):=by
 obtain⟨h1,h2,h3,h4,h5,h6,h7,h8⟩:=h
 unfold b6;rw[if_neg h1,if_neg h2,if_neg h3,if_neg h4,if_neg h5,if_neg h6,if_neg h7,if_neg h8]
theorem uB{g:Gt}{a:Ak}(h:bS g=true):bS (b6 g a).1=true:=by
 unfold b6
 split;exact Vl h
 split;exact Gm h
 split;exact ZJ h
 split;exact Zt h
 split;exact RA h
 split;exact PI h
 split;exact W4 h
 split;exact Tf h
 exact h
theorem xQ(g:Gt)(a:Ak)(h:bA a=true):b6 g (a8 a)=b6 g a:=by
 have hk:=mO h
 have e:=Bx a
 rcases(by omega:a.kind=1∨a.kind=2∨a.kind=3∨a.kind=4∨a.kind=5∨a.kind=6∨a.kind=7∨a.kind=8) with k|k|k|k|k|k|k|k
 ·rw[ur (e.trans k),ur k];simp only[a8,k,if_pos];rfl
 ·rw[uu (e.trans k),uu k];simp[a8,k]
 ·rw[uv (e.trans k),uv k];simp[a8,k]
 ·rw[uw (e.trans k),uw k];simp[a8,k]
 ·rw[ux (e.trans k),ux k];simp[a8,k]
 ·rw[uy (e.trans k),uy k];simp[a8,k]
 ·rw[uz (e.trans k),uz k];simp[a8,k]
 ·rw[uA (e.trans k),uA k];simp[a8,k]
theorem zY(g:Gt)(a:Ak)(hg:dn g):ai E 38 [bK g,gq a] (fun r t=>r= .ax [bK (b6 g a).1,i64 (b6 g a).2.1,i64 (b6 g a).2.2]∧t=[]):=by
 refine ai.aC (n:=101) (rs:=[.cell 4 55,.tmp 5,.tmp 6]) Tryz.func38 rfl Tryz.ntmps38 rfl ?_
 repeat'(first
 |refine aa.ah fun K hK=>?_
 |(refine aa.region ?_;simp only[go_sem])
 |(refine hK _ ?_;clear hK K)
 |refine aa.block ?_
 |refine aa.cond rfl (fun c=>?_) (fun c=>?_)<;>(try simp only[dD] at c)
 |(refine ak.one (P6 g a.bq a.ord hg) ae rfl ?_;simp only[go_sem])
 |(refine ak.one (PJ g a.bq a.id a.ord.id a.ord.au a.ord.aE hg) ae rfl ?_;simp only[go_sem])
 |(refine ak.one (Ql g a.bq a.exec hg) ae rfl ?_;simp only[go_sem])
 |(refine ak.one (zB g a.now hg) ae rfl ?_;simp only[go_sem])
 |(refine ak.one (P3 g a.on hg) ae rfl ?_;simp only[go_sem])
 |(refine ak.one (P2 g a.bq a.on hg) ae rfl ?_;simp only[go_sem])
 |(refine ak.one (P8 g a.bq hg) ae rfl ?_;simp only[go_sem])
 |(refine ak.one (P4 g a.lim hg (Tv g.aY a.lim hg.2.1)) ae rfl ?_;simp only[go_sem])
 |(
  refine aa.ret ?_
  refine aN.is ?_;simp only[go_sem,aI,aH,aG,aK,aJ,aL]<;>(first|(rw[ur af];exact⟨⟨rfl,rfl,rfl,rfl,rfl⟩,rfl,rfl⟩)|(rw[uu af];exact⟨⟨rfl,rfl,rfl,rfl,rfl⟩,rfl,rfl⟩)|(rw[uv af];exact⟨⟨rfl,rfl,rfl,rfl,rfl⟩,rfl,rfl⟩)|(rw[uw af];exact⟨⟨rfl,rfl,rfl,rfl,rfl⟩,rfl,rfl⟩)|(rw[ux af];exact⟨⟨rfl,rfl,rfl,rfl,rfl⟩,rfl,rfl⟩)|(rw[uy af];exact⟨⟨rfl,rfl,rfl,rfl,rfl⟩,rfl,rfl⟩)|(rw[uz af];exact⟨⟨rfl,rfl,rfl,rfl,rfl⟩,rfl,rfl⟩)|(rw[uA af];exact⟨⟨rfl,rfl,rfl,rfl,rfl⟩,rfl,rfl⟩)|(rw[Ey ⟨by omega,by omega,by omega,by omega,by omega,by omega,by omega,by omega⟩];exact⟨⟨rfl,rfl,rfl,rfl,rfl⟩,rfl,rfl⟩))))
theorem T4{n p:Int}(h:(cA n p).2=0):bS (cA n p).1=true:=by
 by_cases hc:n<1∨4<n∨eE p=false
 ·rw[cA,if_pos hc] at h;exact absurd h aj
 ·have ht:eE p=true:=by
   cases ht:eE p with
   |true=>rfl
   |false=>exact absurd (.inr (.inr ht)) hc
  exact AL ab ab ht
theorem BS:∀(l:List (List UInt8)),l.length≤(Kp.cd l).length
 |[]=>Nat.zero_le _
 |r::l=>by
  have h:=BS l
  have e:Kp.cd (r::l)=Kp.recC r++Kp.cd l:=rfl
  rw[e,List.length_append,Kp.eD,List.length_cons];omega
theorem Tp{b:List UInt8}{c:Kp.Ct}(h:Kp.dz b=some c):c.jt.length≤b.length∧∀r∈c.jt,r.length≤4096:=by
 obtain⟨h1,r,h2⟩:=Kp.Au h
 obtain⟨i1,i2,i3,_⟩:=Kp.r5 b.length b (Nat.le_refl _)
 rw[h2] at i1 i2
 have h5:=BS (r::c.jt)
 have h6:=congrArg List.length i3
 rw[List.length_append,h2] at h6
 rw[List.length_cons] at h5
 exact⟨by omega,fun x hx=>(i1 x (by simp[hx])).2⟩
theorem A8{d:Kp.Dk}(hr:Kp.bV d=true):(Kp.bP d).2.2.1.length≤1000000∧∀b∈(Kp.bP d).2.2.1,b.length≤4200:=by
 have hl:=l9 hr
 have l0:(Kp.bu d.f0).length≤65536:=by unfold Kp.bu;rw[List.length_append];omega
 have l1:(Kp.bu d.f1).length≤65536:=by unfold Kp.bu;rw[List.length_append];omega
 have key:∀{b:List UInt8} {c:Kp.Ct},Kp.dz b=some c→b.length≤65536→c.jt.length≤1000000∧∀r∈c.jt,r.length≤4200:=fun h hb=>by
  obtain⟨a1,a2⟩:=Tp h
  exact⟨by omega,fun r hr=>by have:=a2 r hr;omega⟩
 unfold Kp.bP
 rw[if_pos hr]
 rcases h0:Kp.dz (Kp.bu d.f0) with _|a<;>rcases h1:Kp.dz (Kp.bu d.f1) with _|b
 ·exact⟨Nat.zero_le _,fun b hb=>by simp at hb⟩
 ·exact key h1 l1
 ·exact key h0 l0
 ·by_cases hg:a.gen<b.gen
  ·simp only[hg,if_true];exact key h1 l1
  ·simp only[hg,if_false];exact key h0 l0
theorem Ad(n p:Int)(d:Kp.Dk)(hr:Kp.bV d=true):ai E 18 [i64 n,i64 p,cH d] (fun r t=>r=kT b6 n p d∧t=[]):=
 vC b6 (fun g=>bS g=true) n p d (fa hr) T4 (A8 hr).1 (A8 hr).2 fun g b hg _ _=>⟨zY g _ (Bk.fa hg),fun _=>uB hg⟩
theorem L4{ask:Gt→Ak→Gt×Int×Int}{k:Kp.Ks Gt}{a:Ak}(h:(Kp.dJ ask k a).2.2=0):bA a=true∧(ask k.g a).2.2=0∧(Kp.dP k.jn (cb a).1).2=0:=by
 unfold Kp.dJ at h
 by_cases hm:bA a=true
 ·rw[if_pos hm] at h
  by_cases ha:(ask k.g a).2.2=0
  ·rw[if_pos ha] at h
   by_cases hp:(Kp.dP k.jn (cb a).1).2=0
   ·exact⟨hm,ha,hp⟩
   ·rw[if_neg hp] at h;exact absurd h hp
  ·rw[if_neg ha] at h;exact absurd h ha
 ·rw[if_neg hm] at h;exact absurd h (by show ¬(1:Int)=0;decide)
theorem abM{n:Int}(h0:0≤n)(h1:n<256):IntKind.u8.wrap n=n:=by
 simp only[IntKind.wrap,IntKind.bits,IntKind.signed,Bool.false_and,Bool.false_eq_true,if_false]
 omega
def jV:Gt→List Ak→List Gt
 |g,[]=>[g]
 |g,a::l=>g::jV (b6 g a).1 l
theorem qG:∀(l:List Ak) (g:Gt),(jV g l).length=l.length+1
 |[],_=>rfl
 |a::l,g=>by rw[jV,List.length_cons,qG l];rfl
theorem zu{m:Nat}(h:m≤1000):IntKind.i64.wrap (((m+1:Nat):Int)-1)=(m:Int):=by rw[aM ab ab];omega
theorem zp:∀(l:List Ak) (g:Gt) (a:Ak),jV g (l++[a])=jV g l++[Kp.runK b6 g (l++[a])]
 |[],_,_=>rfl
 |b::l,g,a=>by
  show g::jV (b6 g b).1 (l++[a])=(g::jV (b6 g b).1 l)++[Kp.runK b6 (b6 g b).1 (l++[a])]
  rw[zp l];rfl
theorem zo:∀(l:List Ak) (g:Gt) (i:Nat),i≤l.length→(jV g l)[i]?=some (Kp.runK b6 g (l.take i))
 |[],g,i,h=>by
  obtain rfl:i=0:=by simpa using h
  rfl
 |b::l,g,0,_=>rfl
 |b::l,g,i+1,h=>zo l (b6 g b).1 i (by simpa using h)
def mh(n:Int)(k:Kp.Ks Gt)(ms:List Ak)(s:Nat):Prop:=Kp.gm b6 (cA n 20).1 k ms s∧bS k.g=true
theorem QM(n:Int)(h:bS (cA n 20).1=true):mh n ⟨(Kp.bP Kp.eF).1,(cA n 20).1⟩ [] 0:=by
 have h2:=(Kp.zQ (ask:=b6) (cA n 20).1).1
 have e:(Kp.fI b6 (cA n 20).1 Kp.eF).1=⟨(Kp.bP Kp.eF).1,(cA n 20).1⟩:=by unfold Kp.fI;rw[Kp.ov];rfl
 rw[e] at h2
 exact⟨h2,h⟩
theorem L2{n:Int}{k:Kp.Ks Gt}{ms:List Ak}{s:Nat}(h:mh n k ms s)(a:Ak):∃k2 w f,Kp.dJ b6 k a=(k2,w,f)∧((f≠0∧k2=k∧w=0)∨(f=0∧mh n k2 (ms++[a]) s)):=by
 obtain⟨hi,hr⟩:=h
 have hd:=Kp.yR hi a
 refine⟨(Kp.dJ b6 k a).1,(Kp.dJ b6 k a).2.1,(Kp.dJ b6 k a).2.2,rfl,?_⟩
 by_cases h0:(Kp.dJ b6 k a).2.2=0
 ·obtain⟨hm,ha,hp⟩:=L4 h0
  have e:=vw hm ha hp
  exact .inr ⟨h0,hd.1 h0,by rw[e];exact uB hr⟩
 ·obtain⟨h1,h2⟩:=hd.2 h0
  exact .inl ⟨h0,h1,h2⟩
theorem CO{n:Int}{k:Kp.Ks Gt}{ms:List Ak}{s:Nat}(h:mh n k ms s):∃k2,Kp.ik k=(k2,0)∧k2.g=k.g∧mh n k2 ms ms.length:=by
 obtain⟨h1,h2,h3⟩:=Kp.CP h.1
 exact⟨(Kp.ik k).1,Prod.ext rfl h1,h3,h2,by rw[h3];exact h.2⟩
theorem Wm{n:Int}{k:Kp.Ks Gt}{ms:List Ak}{s:Nat}(h:mh n k ms s)(hn:(cA n 20).2=0):∃j,kT b6 n 20 k.jn.d= .ax [fH n 20 ⟨j,k.g⟩,i64 0]:=by
 obtain⟨_,h2⟩:=Kp.Wl (ask:=b6) xQ h.1
 obtain⟨o1,o2⟩:=Kp.Vg h.1
 refine⟨_,oA hn o2 ?_⟩
 unfold Kp.fI at h2
 rw[if_pos o2] at h2
 exact h2
theorem Wj{n:Int}{k:Kp.Ks Gt}{ms:List Ak}{s:Nat}(h:mh n k ms s)(hn:(cA n 20).2=0)(p q:Int):∃j i,s≤i∧i≤ms.length∧kT b6 n 20 (Kp.fp k.jn p q)= .ax [fH n 20 ⟨j,Kp.runK b6 (cA n 20).1 (ms.take i)⟩,i64 0]:=by
 obtain⟨_,i,h2,h3,h4⟩:=Kp.Wi (ask:=b6) xQ h.1 p q
 obtain⟨_,_,_,_,o2⟩:=Kp.A7 h.1 p q
 refine⟨_,i,h2,h3,oA hn o2 ?_⟩
 unfold Kp.fI at h4
 rw[if_pos o2] at h4
 exact h4
theorem Cf:∀(l:List Ak) (g:Gt),bS g=true→bS (Kp.runK b6 g l)=true
 |[],_,h=>h
 |a::l,g,h=>Cf l _ (uB h)
theorem Ru(z:Int)(l:List Ak)(sy:List Bool)(kp:Int)(hz:0≤z∧z<256)(hl:l.length≤9223372036854775807)(hs:sy.length≤9223372036854775807)(hk:0≤kp∧kp<65536):ai E 4 [.v (.int .u8 z),.sl none 29 (l.map gq),.sl none 1 (sy.map bl),.v (.int .u16 kp)] (fun r t=>r=bl true∧t=[]):=by
 obtain⟨n,hn,hn1,hn2⟩:∃n:Int,z%4+1=n∧1≤n∧n≤4:=⟨_,rfl,by omega,by omega⟩
 have hnw:(cA n 20).2=0:=by rw[sX hn1 hn2 aj]
 have hgr:bS (cA n 20).1=true:=AL hn1 hn2 aj
 have hc1:=Ab n 20 hnw
 have hiv:=QM n hgr
 have hz1:IntKind.i64.wrap (IntKind.i64.wrap (z.tmod 4)+1)=n:=by
  rw[Int.tmod_eq_emod_of_nonneg hz.1,aM (x:=z%4) ab ab,aM ab ab,hn]
 have hz2:IntKind.u8.wrap (z.tmod 4)=z.tmod 4:=by
  rw[Int.tmod_eq_emod_of_nonneg hz.1];exact abM ab ab
 have hkw:IntKind.i64.wrap kp=kp:=aM ab ab
 refine ai.aC (n:=152) (rs:=[.tmp 8]) Tryz.func4 rfl Tryz.ntmps4 rfl ?_
 repeat'(first
 |refine aa.ah fun K hK=>?_
 |(
  refine aa.here 5 28 5 rfl ?_
  refine aa.region ?_;simp only[go_sem,hz1,hz2])
 |(
  refine aa.here 14 48 6 rfl ?_
  obtain⟨a0,ha0⟩:∃a,l[i]?=some a:=⟨_,List.getElem?_eq_getElem ab⟩
  refine aa.region ?_;simp only[go_sem,List.getElem?_map,ha0,Option.map_some])
 |(
  refine aa.here 16 55 14 rfl ?_
  obtain⟨k2,w,f,hdo,hcs⟩:=L2 h3 a0
  have hc2:=z6 b6 n 20 k a0 (Bk.fa h3.2) (fa h3.1.right) (fun hm=>by have:=(Kp.th hm).2;omega) (fun _=>zY k.g a0 (Bk.fa h3.2))
  rw[hdo] at hc2
  dsimp only at hc2
  refine aa.bB [0,1,2,3,4,10,5,6,7,8,9,11,12,13] [15] ae ae rfl ?_;simp only[go_sem,List.getElem?_map,ha0,Option.map_some])
 |(
  refine aa.here 18 66 6 rfl ?_
  refine aa.region ?_;simp only[go_sem,qG])
 |(
  refine aa.here 27 106 11 rfl ?_
  obtain⟨j1,hro⟩:=Wm h3 hnw
  have hc6:=Ad n 20 k.jn.d h3.1.right
  rw[hro] at hc6
  have hc7:=ri k.g k.g (Bk.fa h3.2).fit
  rw[decide_eq_true rfl] at hc7
  have hcj:=zS k.jn kp kp (fa h3.1.right)
  obtain⟨j2,i0,w0,w2,hrc⟩:=Wj h3 hnw kp kp
  have hc8:=Ad n 20 (Kp.fp k.jn kp kp) (Kp.uP h3.1 kp kp).1
  rw[hrc] at hc8
  have hgl:=qG ms (cA n 20).1
  have hrr:bS (Kp.runK b6 (cA n 20).1 (ms.take i0))=true:=Cf _ _ hgr
  refine aa.region ?_;simp only[go_sem])
 |(
  refine aa.here 30 124 15 rfl ?_
  refine aa.region ?_;simp only[go_sem,hkw])
 |(
  refine aa.here 36 145 7 rfl ?_
  have hgj:=zo ms (cA n 20).1 j ab
  have hc9:=ri (Kp.runK b6 (cA n 20).1 (ms.take i0)) (Kp.runK b6 (cA n 20).1 (ms.take j)) (Bk.fa hrr).fit
  refine aa.bB [0,1,2,3,4,5,6] [] ae ae rfl ?_;simp only[go_sem,List.getElem?_map,hgj,Option.map_some])
 |(
  refine aa.here 17 64 2 rfl ?_
  rcases hcs with⟨q1,rfl,rfl⟩|⟨rfl,q2⟩
  have hc3:=Wb n 20 n 20 k2 k2 (Bk.fa h3.2)
  simp only[decide_true,Bool.and_self] at hc3
  obtain⟨k3,hsy,hsg,q3⟩:=CO h3
  have hc4:=vD n 20 k2 (Bk.fa h3.2) (fa h3.1.right)
  rw[hsy] at hc4
  dsimp only at hc4
  have hc5:=ri k3.g k2.g (Bk.fa q3.2).fit
  rw[decide_eq_true hsg] at hc5
  rotate_left
  have hgs:(jV (cA n 20).1 ms).map bK++[bK k2.g]=(jV (cA n 20).1 (ms++[a0])).map bK:=by rw[zp,List.map_append,←q2.1.g];rfl
  obtain⟨k3,hsy,hsg,q3⟩:=CO q2
  have hc4:=vD n 20 k2 (Bk.fa q2.2) (fa q2.1.right)
  rw[hsy] at hc4
  dsimp only at hc4
  have hc5:=ri k3.g k2.g (Bk.fa q3.2).fit
  rw[decide_eq_true hsg] at hc5
  rotate_right
  all_goals(refine aa.region ?_;simp only[go_sem]))
 |(refine aa.region ?_;simp only[go_sem])
 |(refine hK _ ?_;clear hK K)
 |refine aa.block ?_
 |refine aa.cond rfl (fun c=>?_) (fun c=>?_)<;>first|exact Bool.noConfusion c|(try simp only[dD] at c)
 |refine aa.skip ?_
 |(refine aa.exit ?_;simp only[go_sem])
 |(refine ak.one (E3) ae rfl ?_;simp only[go_sem])
 |(refine ak.one (hc1) ae rfl ?_;simp only[go_sem])
 |(refine ak.of (Wc a0) ae rfl ?_;rintro r t ⟨⟨sb,rfl⟩,rfl⟩;simp only[go_sem])
 |(refine ak.one (hc2) ae rfl ?_;simp only[go_sem])
 |(refine ak.one (hc3) ae rfl ?_;simp only[go_sem])
 |(refine ak.one (hc4) ae rfl ?_;simp only[go_sem])
 |(refine ak.one (hc5) ae rfl ?_;simp only[go_sem])
 |(refine ak.one (hc7) ae rfl ?_;simp only[go_sem])
 |(refine ak.one (hc9) ae rfl ?_;simp only[go_sem])
 |(refine ak.one (hc6) ae rfl ?_;simp only[go_sem])
 |(refine ak.one (hc8) ae rfl ?_;simp only[go_sem])
 |(refine ak.one (hcj) ae rfl ?_;simp only[go_sem])
 |(refine aP.split (fun h=>?_) (fun h=>?_)<;>simp only[h,go_sem]<;>(try simp only[dD] at h))
 |((first|refine aQ.nth ?_ (fun b hb=>?_)|with_reducible refine And.intro ?_ ?_);(focus(first|omega|(simp;done)));(try simp only[hb,go_sem]))
 |(
  refine aa.here 12 42 4 rfl ?_
  refine aa.dT (ι:=Nat×Kp.Ks Gt×List Ak×Nat) [8,15,16,17,18,19,42,43,44,45,46,47,48,49,50,51,52,53,54,55,56,57,58,59,60,61,62,63,64,65,66,67,68,69,70,71,72,73,74,75,76,77,78,79,80,81,82,83,84,85,86,87,88,89,90,91,92,93,94,95,96,97,98,99,100,101,102,103,104] (fun⟨i,k,ms,s⟩=>[(14,i64 i),(13,i64 s),(12,.sl (some 0) 5 ((jV (cA n 20).1 ms).map bK))]) (fun⟨i,k,ms,s⟩=>[some [fH n 20 k]]) (fun⟨i,k,ms,s⟩=>[ms.length+1]) (fun⟨i,k,ms,s⟩=>i≤l.length∧ms.length≤i∧mh n k ms s) (fun⟨i,k,ms,s⟩=>l.length-i) ((0,⟨(Kp.bP Kp.eF).1,(cA n 20).1⟩,[],0)) ?_ ?_ ?_
  ·(try simp only[go_sem]);(try simp only[go_sem]);(repeat'(first|refine And.intro ?_ ?_|exact kF|exact .inr rfl))
  ·exact⟨by omega,by simp,hiv⟩
  rintro⟨i,k,ms,s⟩ ⟨h1,h2,h3⟩
  simp only[go_sem])
 |(
  refine aa.here 34 139 4 rfl ?_
  refine aa.dU (ι:=Nat) [8,139,140,141,142,143,144,145,146,147,148,149,150,151] (fun(j:Nat)=>[(22,i64 j)]) (fun(j:Nat)=>j≤i0) (fun(j:Nat)=>i0-j) (s) ?_ ?_ ?_
  ·(try simp only[go_sem]);(try simp only[go_sem]);(repeat'(first|refine And.intro ?_ ?_|exact kF|(simp;done)))
  ·omega
  rintro j w1
  simp only[go_sem])
 |(
  refine⟨(i+1,k2,ms++[a0],s),?_,?_,?_⟩
  ·(try simp only[go_sem]);(try rw[aM ab ab]);(try simp only[go_sem]);(repeat'(first|refine And.intro ?_ ?_|exact kF|exact .inr rfl|exact .inr (congrArg (AV.sl (some 0) 5) hgs.symm)|trivial|(rw[aM ab ab];exact .inr rfl)))
  ·exact⟨by show i+1≤_;omega,by(try simp only[List.length_append,List.length_cons,List.length_nil]);omega,by assumption⟩
  ·(try simp only[]);omega)
 |(
  refine⟨(i+1,k2,ms,s),?_,?_,?_⟩
  ·(try simp only[go_sem]);(try rw[aM ab ab]);(try simp only[go_sem]);(repeat'(first|refine And.intro ?_ ?_|exact kF|exact .inr rfl|trivial|(rw[aM ab ab];exact .inr rfl)))
  ·exact⟨by show i+1≤_;omega,by(try simp only[List.length_append,List.length_cons,List.length_nil]);omega,by assumption⟩
  ·(try simp only[]);omega)
 |(
  refine⟨(i+1,k3,ms++[a0],(ms++[a0]).length),?_,?_,?_⟩
  ·(try simp only[go_sem]);(try rw[aM ab ab]);(try simp only[go_sem]);(repeat'(first|refine And.intro ?_ ?_|exact kF|exact .inr (congrArg (AV.sl (some 0) 5) hgs.symm)|(simp only[qG];rw[zu ab];exact .inr rfl)|(rw[aM ab ab];exact .inr rfl)))
  ·exact⟨by show i+1≤_;omega,by(try simp only[List.length_append,List.length_cons,List.length_nil]);omega,by assumption⟩
  ·(try simp only[]);omega)
 |(
  refine⟨(i+1,k3,ms,ms.length),?_,?_,?_⟩
  ·(try simp only[go_sem]);(try rw[aM ab ab]);(try simp only[go_sem]);(repeat'(first|refine And.intro ?_ ?_|exact kF|(simp only[qG];rw[zu ab];exact .inr rfl)|(rw[aM ab ab];exact .inr rfl)))
  ·exact⟨by show i+1≤_;omega,by(try simp only[List.length_append,List.length_cons,List.length_nil]);omega,by assumption⟩
  ·(try simp only[]);omega)
 |(
  have hne:j≠i0:=by intro e;subst e;exact absurd rfl c
  refine⟨j+1,?_,by omega,by omega⟩
  (try simp only[go_sem]);(repeat'(first|refine And.intro ?_ ?_|exact kF|(rw[aM ab ab];exact .inr rfl)|(simp;done))))
 |(
  refine aa.ret ?_
  refine aN.is ?_;simp only[go_sem,aI,aH,aG,aK,aJ,aL]<;>(first|fail))
 |(exfalso;omega)
 |refine aa.fin af ?_)
end Go.Proofs.YthoonfpkfdjhiaaGreatDoor
end
section
namespace Go.Proofs.YthoonfpkfdjhiaaGreatDoor
open Go.ChangeShapes Go.WideShapes Go.ChangeAt Go.RowKit Go.Joins Go.az Go.Fld Go.Msg Go.Txt
set_option maxRecDepth 100000 in
theorem keepRecovers_lifted(os:Os)(started:os.Started)(H:Type)(enc:TypeId×Value→H):
 ReturnsInHanded {} Tryz.checked os 4 .any (fun w args=>(Rows.keepRecoversSpec.pre enc Tryz.prog Tryz.f4 [] false w args∧laidMetH Tryz.prog nW w)∧sizedMet enc Tryz.prog Tryz.f4 (OpenSpec.ofChange Rows.keepRecoversSpec) false w args) (Rows.keepRecoversSpec.post enc Tryz.prog Tryz.f4 false true false false):=by
 refine W5 (C:=Tryz.checked) (X:=fun w _=>laidMetH Tryz.prog nW w) (fun _ _ _ hh h=>h.of_heap hh) own started ae Tryz.func4
  (ChangeSpec.witness_shaped (enc:=enc) (C:=Tryz.checked) (os:=os) (X:=fun w _=>laidMetH Tryz.prog nW w) false (World.laidAll Tryz.prog os nW) #[.int .u8 0,.slice none 0 0,.slice none 0 0,.int .u16 0] 8 (World.laidAll_os _ _ _) (World.shaped_of_ZipB ae ae) ae ae ae (L8 os _)) ?_
 intro W base args ds gs before hval0 hW hsh hL
 have hval:∀(j:Nat) t v,Tryz.f4.params[j]?=some t→args[j]?=some v→Value.okWide Tryz.prog W .any base t v:=hval0
 have hW':=hW
 obtain⟨p,q,hA0,hV,rfl,hfz,hnd⟩:=hW
 have hA:DataW.TrodAll enc Tryz.prog W 0 (fun _=>true) true Tryz.f4.params.toList args.toList ds p:=hA0
 rw[Tryz.params4] at hA hval
 obtain⟨rfl,rfl⟩:=trodVars_none hV
 obtain⟨v0,vs0,d0,ds0,p0,q0,e0,rfl,rfl,h0,hA⟩:=trodAll_cons hA
 obtain⟨v1,vs1,d1,ds1,p1,q1,rfl,rfl,rfl,h1,hA⟩:=trodAll_cons hA
 obtain⟨v2,vs2,d2,ds2,p2,q2,rfl,rfl,rfl,h2,hA⟩:=trodAll_cons hA
 obtain⟨v3,vs3,d3,ds3,p3,q3,rfl,rfl,rfl,h3,hA⟩:=trodAll_cons hA
 obtain⟨rfl,rfl,rfl⟩:=trodAll_nil hA
 have hargs:args= #[v0,v1,v2,v3]:=by apply Array.ext';simpa using e0
 subst hargs
 obtain⟨z,hz,x0⟩:=Eu (hval 0 5 v0 rfl rfl) h0
 obtain⟨l,hl,x1⟩:=Ep (hval 1 42 v1 rfl rfl) h1
 obtain⟨sy,hsy,x2⟩:=Er (hval 2 43 v2 rfl rfl) h2
 obtain⟨kp,hkp,x3⟩:=Et (hval 3 44 v3 rfl rfl) h3
 exact(F6 (E:=E) (U9 hL hsh) (fun _ _ e=>by cases e) (Ru z l sy kp hz hl hsy hkp) (ti x0 (ti x1 (ti x2 (ti x3 V5))))).mono fun e W' ⟨he,hB⟩=>⟨_,he,R6 laidOut ae rfl rfl Tryz.underlying4 hW' hB rfl⟩
end Go.Proofs.YthoonfpkfdjhiaaGreatDoor
end
