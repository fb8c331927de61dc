/- (Q16, K4) -/
import Derived.Test.YtajeeghgiilhiaaGreatKxQ
import Derived.Test.YtajeeghgiilhiaaGreatKxO
import Derived.Test.YtajeeghgiilhiaaGreatKxP
import Derived.Test.YtajeeghgiilhiaaGreatKxJ
import Derived.Test.YtajeeghgiilhiaaGreatKxA
set_option linter.unusedVariables false
set_option linter.unusedSimpArgs false
set_option maxHeartbeats 16000000
set_option maxRecDepth 8000
section
namespace Go.Proofs.YtajeeghgiilhiaaGreat
open Go Go.Abs Go.RowKit Go.Bk
theorem Mm{l:List Bs}{x:Bs}:l.map str++[AV.v (Value.string ⟨x.toArray⟩)]=(l++[x]).map str:=by simp
theorem XN{b:Bk}(h:aW b=true):True∧(b.ak.length≤64∧b.al.length≤256∧b.ids.length≤256)∧∀f∈b.al,0≤f.time∧f.time≤4611686018427387904:=by
 have h1:=fj.1 h
 refine⟨trivial,⟨l8 h1.1.1,h1.1.2.1,h1.1.2.2.1⟩,fun f hf=>?_⟩
 have h2:=h1.2.2.1 f hf
 simp only[ct,Bool.and_eq_true,decide_eq_true_eq] at h2
 omega
theorem D7{bk:Bk}{x:Ex}(h:aW bk=true)(hx:du x=true):bd bk.ak=true∧bS x.aA=true∧bk.al.length≤100000∧(∀f∈bk.al,0≤f.time∧f.time≤4611686018427387904)∧1≤x.kind∧x.kind≤8:=by
 have h1:=fj.1 h
 have h2:=XN h
 exact⟨h1.1.1,(Co hx).2.1,by omega,h2.2.2,DU hx⟩
theorem P4{b:Bk}{f:Dn}(h0:¬eR b.ids f.id<0)(h1:bS f.aq=true)(h2:bS f.aA=true)(h3:¬f.time<0)(h4:¬b.clock<f.time):ct b f=true:=by
 rw[Bf,Classical.not_not] at h0
 simp[ct,h0,h1,h2];omega
theorem Ds{b:Bk}{f:Dn}(h0:eR b.ids f.id<0):ct b f=false:=by
 rw[Bf] at h0;simp[ct,h0]
theorem Oo{b:Bk}{f:Dn}(h:bS f.aq=false):ct b f=false:=by simp[ct,h]
theorem UP{b:Bk}{f:Dn}(h:bS f.aA=false):ct b f=false:=by simp[ct,h]
theorem TX{b:Bk}{f:Dn}(h:f.time<0):ct b f=false:=by
 unfold ct;rw[show decide (0≤f.time)=false from decide_eq_false ab];simp
theorem NW{b:Bk}{f:Dn}(h:b.clock<f.time):ct b f=false:=by
 unfold ct;rw[show decide (f.time≤b.clock)=false from decide_eq_false ab];simp
theorem qq(bk:Bk)(ho:bk.ak.length≤9223372036854775807)(hf:bk.al.length≤9223372036854775807)(hi:bk.ids.length≤9223372036854775807):ai E 20 [dx bk] (fun r t=>r=bl (aW bk)∧t=[]):=by
 refine ai.aw (n:=110) (rs:=[.tmp 2]) Tryz.func20 rfl Tryz.ntmps20 rfl ?_
 repeat'(first
 |refine aa.aj fun K hK=>?_
 |(refine aa.region ?_;simp only[go_sem])
 |(refine aa.here 6 49 10 rfl ?_;refine aa.bf [0,1,2,3,4,5,6,8,7,9] [] af af rfl ?_;simp only[go_sem])
 |(refine hK _ ?_;clear hK K)
 |refine aa.block ?_
 |refine aa.cond rfl (fun c=>?_) (fun c=>?_)<;>first|exact Bool.noConfusion c|(try simp only[dD] at c)
 |refine aa.skip ?_
 |(refine aa.exit ?_;simp only[go_sem])
 |(refine ah.one (oN bk.ak ab) af rfl ?_;simp only[go_sem])
 |(refine ah.one (zZ bk.ids _ ab) af rfl ?_;simp only[go_sem])
 |(refine ah.one (w6 bk.al _ ab) af rfl ?_;simp only[go_sem])
 |(refine ah.one (On _) af rfl ?_;simp only[go_sem])
 |(refine aL.cc (fun h=>?_) (fun h=>?_)<;>simp only[h,go_sem]<;>(try simp only[dD] at h))
 |(refine aL.split (fun h=>?_) (fun h=>?_)<;>simp only[h,go_sem]<;>(try simp only[dD] at h))
 |((first|refine aM.nth ?_ (fun b hb=>?_)|with_reducible refine And.intro ?_ ?_);(focus(first|omega|(simp;done)));(try simp only[hb,go_sem]))
 |(
  refine aa.here 4 42 5 rfl ?_
  refine aa.ck (ι:=Nat) [2,42,43,44,45,46,47,48,49,50,51,52,53,54,55,56,57,58] (fun(i:Nat)=>[(3,i64 i)]) (fun(i:Nat)=>[some [.agg [aV bk.ak,cg bk.al,.sl none 1 (bk.ids.map str),i64 bk.clock,i64 bk.bad]]]) (fun(i:Nat)=>[]) (fun(i:Nat)=>i≤bk.ids.length∧(bk.ids.take i).Nodup) (fun(i:Nat)=>bk.ids.length-i) (0) ?_ ?_ ?_
  ·(try simp only[go_sem]);(repeat'(exact .inr (aR rfl)));done
  ·exact⟨Nat.zero_le _,by simp⟩
  rintro i ⟨h1,h2⟩
  simp only[go_sem])
 |(
  refine aa.here 9 59 5 rfl ?_
  refine aa.ck (ι:=Nat) [2,5,59,60,61,62,63,64,65,66,67,68,69,70,71,72,73,74,75,76,77,78,79,80,81,82,83,84,85,86,87,88,89,90,91,92,93,94,95,96,97,98,99,100,101,102,103,104,105,106,107,108,109] (fun(i:Nat)=>[(4,i64 i)]) (fun(i:Nat)=>[some [.agg [aV bk.ak,cg bk.al,.sl none 1 (bk.ids.map str),i64 bk.clock,i64 bk.bad]]]) (fun(i:Nat)=>[]) (fun(i:Nat)=>i≤bk.al.length∧(bk.al.take i).all (ct bk)=true∧((bk.al.take i).map (·.id)).Nodup) (fun(i:Nat)=>bk.al.length-i) (0) ?_ ?_ ?_
  ·(try simp only[go_sem]);(repeat'(exact .inr (aR rfl)));done
  ·exact⟨Nat.zero_le _,by simp,by simp⟩
  rintro i ⟨g1,g2,g3⟩
  simp only[go_sem])
 |(
  refine⟨i+1,?_,?_,?_⟩
  ·(try simp only[go_sem]);(try rw[av ab ab]);(repeat'(first|refine And.intro ?_ ?_|exact .inr rfl|exact .inr (aR rfl)));done
  ·exact⟨by omega,Ml hb h2 ae⟩
  ·(try simp only[]);omega)
 |(
  refine⟨i+1,?_,?_,?_⟩
  ·(try simp only[go_sem]);(try rw[av ab ab]);(repeat'(first|refine And.intro ?_ ?_|exact .inr rfl|exact .inr (aR rfl)));done
  ·exact⟨by omega,og hb g2 (P4 ae ae ae ae ae),Hf hb g3 ae⟩
  ·(try simp only[]);omega)
 |(
  refine aa.ret ?_
  refine aB.is ?_;simp only[go_sem,aE,aI,aH,aG,aJ,aF]<;>(first
  |(rw[JN (by first|(simp[fO, *];done)|(simp[fO];intros;omega))];done)
  |(rw[GI (PN hb ae)];done)
  |(rw[Ww (UD hb ae)];done)
  |(rw[pd hb (Ds ae)];done)
  |(rw[pd hb (Oo ae)];done)
  |(rw[pd hb (UP ae)];done)
  |(rw[pd hb (TX ae)];done)
  |(rw[pd hb (NW ae)];done)
  |(rw[List.take_of_length_le ab] at h2;rw[List.take_of_length_le ab] at g2 g3;rw[TH (by simp[fO, *]<;>omega) h2 g2 g3];done)))
 |refine aa.fin ae ?_)
theorem x8(p q:List Od)(hl:p.length≤9223372036854775807):ai E 60 [aV p,aV q] (fun r t=>r=bl (decide (p=q))∧t=[]):=by
 refine ai.aw (n:=26) (rs:=[.tmp 4]) Tryz.func60 rfl Tryz.ntmps60 rfl ?_
 repeat'(first
 |refine aa.aj fun K hK=>?_
 |(refine aa.region ?_;simp only[go_sem])
 |(refine aa.here 6 17 9 rfl ?_;refine aa.bf [0,1,2,3,4,5,6,7,8] [] af af rfl ?_;simp only[go_sem])
 |(refine hK _ ?_;clear hK K)
 |refine aa.block ?_
 |refine aa.cond rfl (fun c=>?_) (fun c=>?_)<;>(try simp only[dD] at c)
 |refine aa.skip ?_
 |(refine aa.exit ?_;simp only[go_sem])
 |((first|refine aM.nth ?_ (fun b hb=>?_)|with_reducible refine And.intro ?_ ?_);(focus(first|omega|(simp;done)));(try simp only[hb,go_sem]))
 |(
  refine aa.here 4 11 4 rfl ?_
  refine aa.cC (ι:=Nat) [4,11,12,13,14,15,16,17,18,19,20,21,22,23,24,25] (fun(i:Nat)=>[(5,i64 i)]) (fun(i:Nat)=>i≤p.length∧p.length=q.length∧p.take i=q.take i) (fun(i:Nat)=>p.length-i) (0) ?_ ?_ ?_
  ·(try simp only[go_sem]);(repeat'(first|fail));done
  ·exact⟨by omega,by omega,by simp⟩
  rintro i ⟨h1,h2,h3⟩
  simp only[go_sem])
 |(
  refine⟨i+1,?_,?_,?_⟩
  ·(try simp only[go_sem]);(try rw[av ab ab]);(repeat'(exact .inr rfl));done
  ·exact⟨by omega,by omega,vJ (a:=p) (b:=q) ae ae (by exact DG ae) h3⟩
  ·(try simp only[]);omega)
 |(
  refine aa.ret ?_
  refine aB.is ?_;simp only[go_sem,aE,aI,aH,aG,aJ,aF]<;>(first
  |(rw[tH ab];done)
  |(rw[vq (a:=p) (b:=q) ae ae (by exact UL ae)];done)
  |(rw[td h2 ab h3];done)))
 |refine aa.fin ae ?_)
theorem MG(p q:Bk)(ho:p.ak.length≤9223372036854775807)(hf:p.al.length≤9223372036854775807)(hi:p.ids.length≤9223372036854775807):ai E 15 [dx p,dx q] (fun r t=>r=bl (decide (p=q))∧t=[]):=by
 refine ai.aw (n:=81) (rs:=[.tmp 4]) Tryz.func15 rfl Tryz.ntmps15 rfl ?_
 repeat'(first
 |refine aa.aj fun K hK=>?_
 |(refine aa.region ?_;simp only[go_sem])
 |(refine aa.here 6 52 11 rfl ?_;refine aa.bf [0,1,2,3,4,5,6,7,8,9,10] [] af af rfl ?_;simp only[go_sem])
 |(refine aa.here 11 70 11 rfl ?_;refine aa.bf [0,1,2,3,4,5,6,7,8,9,10] [] af af rfl ?_;simp only[go_sem])
 |(refine hK _ ?_;clear hK K)
 |refine aa.block ?_
 |refine aa.cond rfl (fun c=>?_) (fun c=>?_)<;>first|exact Bool.noConfusion c|(try simp only[dD] at c)
 |refine aa.skip ?_
 |(refine aa.exit ?_;simp only[go_sem])
 |(refine ah.one (x8 p.ak q.ak ho) af rfl ?_;simp only[go_sem])
 |(refine aL.split (fun h=>?_) (fun h=>?_)<;>simp only[h,go_sem]<;>(try simp only[dD] at h))
 |((first|refine aM.nth ?_ (fun b hb=>?_)|with_reducible refine And.intro ?_ ?_);(focus(first|omega|(simp;done)));(try simp only[hb,go_sem]))
 |(
  refine aa.here 4 45 5 rfl ?_
  refine aa.ck (ι:=Nat) [4,45,46,47,48,49,50,51,52,53,54,55,56,57,58,59,60,61,62] (fun(i:Nat)=>[(5,i64 i)]) (fun(i:Nat)=>[some [.agg [aV p.ak,cg p.al,.sl none 1 (p.ids.map str),i64 p.clock,i64 p.bad]],some [.agg [aV q.ak,cg q.al,.sl none 1 (q.ids.map str),i64 q.clock,i64 q.bad]]]) (fun(i:Nat)=>[]) (fun(i:Nat)=>i≤p.al.length∧p.al.length=q.al.length∧p.al.take i=q.al.take i) (fun(i:Nat)=>p.al.length-i) (0) ?_ ?_ ?_
  ·(try simp only[go_sem]);(repeat'(first|refine And.intro ?_ ?_|exact .inr (aR rfl)));done
  ·exact⟨by omega,by omega,by simp⟩
  rintro i ⟨h1,h2,h3⟩
  simp only[go_sem])
 |(
  refine aa.here 9 63 5 rfl ?_
  refine aa.ck (ι:=Nat) [4,63,64,65,66,67,68,69,70,71,72,73,74,75,76,77,78,79,80] (fun(i:Nat)=>[(6,i64 i)]) (fun(i:Nat)=>[some [.agg [aV p.ak,cg p.al,.sl none 1 (p.ids.map str),i64 p.clock,i64 p.bad]],some [.agg [aV q.ak,cg q.al,.sl none 1 (q.ids.map str),i64 q.clock,i64 q.bad]]]) (fun(i:Nat)=>[]) (fun(i:Nat)=>i≤p.ids.length∧p.ids.length=q.ids.length∧p.ids.take i=q.ids.take i) (fun(i:Nat)=>p.ids.length-i) (0) ?_ ?_ ?_
  ·(try simp only[go_sem]);(repeat'(first|refine And.intro ?_ ?_|exact .inr (aR rfl)));done
  ·exact⟨by omega,by omega,by simp⟩
  rintro i ⟨g1,g2,g3⟩
  simp only[go_sem])
 |(
  refine⟨i+1,?_,?_,?_⟩
  ·(try simp only[go_sem]);(try rw[av ab ab]);(repeat'(first|refine And.intro ?_ ?_|exact .inr rfl|exact .inr (aR rfl)));done
  ·exact⟨by omega,by omega,vJ (a:=p.al) (b:=q.al) ae ae (by exact IL ae) h3⟩
  ·(try simp only[]);omega)
 |(
  refine⟨i+1,?_,?_,?_⟩
  ·(try simp only[go_sem]);(try rw[av ab ab]);(repeat'(first|refine And.intro ?_ ?_|exact .inr rfl|exact .inr (aR rfl)));done
  ·exact⟨by omega,by omega,vJ (a:=p.ids) (b:=q.ids) ae ae ae g3⟩
  ·(try simp only[]);omega)
 |(
  refine aa.ret ?_
  refine aB.is ?_;simp only[go_sem,aE,aI,aH,aG,aJ,aF]<;>(first
  |(rw[nP];simp[*];done)
  |(rw[nP,tH (a:=p.al) ab];simp;done)
  |(rw[nP,tH (a:=p.ids) ab];simp;done)
  |(rw[nP,vq (a:=p.al) (b:=q.al) ae ae (by exact Et ae)];simp;done)
  |(rw[nP,vq (a:=p.ids) (b:=q.ids) ae ae ae];simp;done)
  |(rw[nP,td h2 ab h3,td g2 ab g3];simp[*];done)))
 |refine aa.fin ae ?_)
theorem MA{l os:List Po}{p x:Po}{i:Nat}{d:Bool}(hx:l[i]?=some x)(h2:(os,d)=gy p (l.take i))(hd:d=false)(h:aP p x=true):(os++[p]++[x],true)=gy p (l.take (i+1)):=by
 rw[xQ hx,←h2];unfold iK;rw[if_pos ⟨hd,h⟩]
theorem BI{l os:List Po}{p x:Po}{i:Nat}{d:Bool}(hx:l[i]?=some x)(h2:(os,d)=gy p (l.take i))(h:d=true∨aP p x=false):(os++[x],d)=gy p (l.take (i+1)):=by
 rw[xQ hx,←h2];unfold iK;rw[if_neg (by rcases h with h|h<;>simp[h])]
theorem Y2{l os:List Po}{p x:Po}{i:Nat}{d:Bool}(hx:l[i]?=some x)(h2:(os,d)=gy p (l.take i))(h:d=true):(os++[x],true)=gy p (l.take (i+1)):=by
 rw[←BI hx h2 (.inl h),h]
theorem RC{l os:List Po}{p x:Po}{i:Nat}{d:Bool}(hx:l[i]?=some x)(h2:(os,d)=gy p (l.take i))(h:d=false)(h3:aP p x=false):(os++[x],false)=gy p (l.take (i+1)):=by
 rw[←BI hx h2 (.inr h3),h]
theorem DQ{x y:Po}(h1:¬x.acc<y.acc)(h2:x.acc=y.acc):decide (x.sym<y.sym)=aP x y:=by
 rw[yv,decide_eq_false h1,decide_eq_true h2];rfl
theorem K0{l:List Po}{p x:Po}{i:Nat}(hx:l[i]?=some x)(h:x.acc=p.acc∧x.sym=p.sym):fe l p=l:=
 sf (List.any_eq_true.2 ⟨x,List.mem_of_getElem? hx,by simp[aN,h.1,h.2]⟩)
theorem Bn{l os:List Po}{p:Po}{i:Nat}{d:Bool}(hi:l.length≤i)(h2:(os,d)=gy p (l.take i))(h3:∀k y,k<i→l[k]?=some y→¬(y.acc=p.acc∧y.sym=p.sym)):fe l p=if d=true then os else os++[p]:=by
 rw[List.take_of_length_le hi] at h2
 have hn:kx (aN p) l=false:=by
  unfold kx
  rw[List.any_eq_false]
  intro e he
  obtain⟨k,hk,e2⟩:=List.mem_iff_getElem.1 he
  have:=h3 k e ab (by rw[List.getElem?_eq_getElem hk,e2])
  simp only[decide_eq_true_eq]
  intro e3
  exact this ⟨congrArg Prod.fst e3,congrArg Prod.snd e3⟩
 unfold fe
 rw[if_neg (by simp[hn]),←h2]
theorem Gm(a b:Int):-4611686018427387904≤(cf a b).1∧(cf a b).1≤4611686018427387904:=by
 unfold cf;split
 ·rename_i h;simp only[Bool.and_eq_true] at h;exact eO.1 h.2
 ·simp
theorem Ak{f:Dn}(h:f.az=true):(eG f).1=(cf f.aq f.aA).1:=by unfold eG;rw[nS h]
theorem vz{f:Dn}(h:f.az=false):(eG f).1= -(cf f.aq f.aA).1:=by unfold eG;rw[oF h,xd]
theorem yN{f:Dn}:(eG f).2=(cf f.aq f.aA).2:=by
 cases h:f.az with
 |true=>unfold eG;rw[nS h]
 |false=>unfold eG;rw[oF h,xd]
structure GR(bk:Bk)(acc sym:Bs)(i:Nat)(qs vs:List Int)(ov:Bool):Prop where
 le:i≤bk.al.length
 q:qs=(fm bk acc sym i).map gq
 v:vs=(fm bk acc sym i).map fun f=>(eG f).1
 o:ov=(fm bk acc sym i).any fun f=>!(eG f).2
section
variable{bk:Bk}{acc sym:Bs}{i:Nat}{qs vs:List Int}{ov:Bool}{f:Dn}
theorem GR.zero:GR bk acc sym 0 [] [] false:=⟨by omega,rfl,rfl,rfl⟩
theorem GR.lens(h:GR bk acc sym i qs vs ov)(hr:aW bk=true):qs.length≤256∧vs.length≤256:=by
 have h1:(fm bk acc sym i).length≤bk.al.length:=by
  unfold fm fi
  refine Nat.le_trans (List.length_filter_le _ _) ?_
  rw[List.length_take];omega
 have h2:=s6 hr
 rw[h.q,h.v,List.length_map,List.length_map];omega
theorem GR.no(h:GR bk acc sym i qs vs ov)(hb:bk.al[i]?=some f)(hm:¬(f.live=true∧f.acc=acc∧f.sym=sym)):GR bk acc sym (i+1) qs vs ov:=by
 have e:=x6 hb hm
 have:=(List.getElem?_eq_some_iff.1 hb).1
 exact⟨by omega,by rw[e];exact h.q,by rw[e];exact h.v,by rw[e];exact h.o⟩
theorem GR.yes(h:GR bk acc sym i qs vs ov)(hb:bk.al[i]?=some f)(hm:f.live=true∧f.acc=acc∧f.sym=sym){q v:Int}{o:Bool}(hq:gq f=q)(hv:(eG f).1=v)(ho:o=(ov||!(eG f).2)):GR bk acc sym (i+1) (qs++[q]) (vs++[v]) o:=by
 have e:=xm hb hm
 have:=(List.getElem?_eq_some_iff.1 hb).1
 refine⟨by omega,?_,?_,?_⟩
 ·rw[e,List.map_append,←h.q,←hq];rfl
 ·rw[e,List.map_append,←h.v,←hv];rfl
 ·rw[e,List.any_append,←h.o,ho];simp
theorem yC(hi:bk.al.length≤i):fm bk acc sym i=fi acc sym bk.al:=by unfold fm;rw[List.take_of_length_le hi]
theorem vU(h:GR bk acc sym i qs vs ov)(hr:aW bk=true)(hi:bk.al.length≤i)(c:ov=true∨(bF qs).2=false∨(bF vs).2=false):cM bk acc sym=⟨acc,sym,0,0,true⟩:=by
 have h1:=h.q;have h2:=h.v;have h3:=h.o
 rw[yC hi] at h1 h2 h3
 unfold cM mh
 rw[if_pos hr,←h1,←h2,if_neg]
 rintro h4
 simp only[Bool.and_eq_true,List.all_eq_true] at h4
 rcases c with c|c|c
 ·rw[c] at h3
  obtain⟨f,hf,h5⟩:=List.any_eq_true.1 h3.symm
  have:=h4.1 f hf
  rw[this] at h5;exact absurd h5 aD
 ·rw[c] at h4;exact absurd h4.2.1 aD
 ·rw[c] at h4;exact absurd h4.2.2 aD
theorem Tv(h:GR bk acc sym i qs vs ov)(hr:aW bk=true)(hi:bk.al.length≤i)(c:ov=false)(c1:(bF qs).2=true)(c2:(bF vs).2=true):cM bk acc sym=⟨acc,sym,(bF qs).1,(bF vs).1,false⟩:=by
 have h1:=h.q;have h2:=h.v;have h3:=h.o
 rw[yC hi] at h1 h2 h3
 unfold cM mh
 rw[if_pos hr,←h1,←h2,if_pos]
 simp only[Bool.and_eq_true,List.all_eq_true]
 refine⟨fun f hf=>?_,c1,c2⟩
 rw[c] at h3
 have:=List.any_eq_false.1 h3.symm f hf
 simpa using this
end
theorem JY{bk:Bk}(h:aW bk=false):cD bk=[]:=by unfold cD;rw[if_neg (by simp[h])]
theorem HI{x y:Po}(h:aP x y=true):eA (aN x) (aN y)<0:=by unfold aP db at h;simpa using h
theorem Yk{x y:Po}(h:aP x y=false):0≤eA (aN x) (aN y):=by unfold aP db at h;simpa using h
theorem Ad(x y:Po):ai E 63 [bL x,bL y] (fun r t=>r=bl (aP x y)∧t=[]):=by
 refine ai.aw (n:=24) (rs:=[.tmp 4]) Tryz.func63 rfl Tryz.ntmps63 rfl ?_
 repeat'(first
 |refine aa.aj fun K hK=>?_
 |(refine aa.region ?_;simp only[go_sem,Go.Proofs.bytesLess_eq])
 |(refine hK _ ?_;clear hK K)
 |(refine aL.cc (fun h=>?_) (fun h=>?_)<;>simp only[h,go_sem,Go.Proofs.bytesLess_eq]<;>(try simp only[dD] at h))
 |(refine aL.split (fun h=>?_) (fun h=>?_)<;>simp only[h,go_sem,Go.Proofs.bytesLess_eq]<;>(try simp only[dD] at h))
 |(
  refine aa.ret ?_
  refine aB.is ?_;simp only[go_sem,aE,aI,aH,aG,aJ,aF]<;>(first|exact DQ ae ae |(rw[yv];simp[*];done))))
theorem B4(l:List Po)(p:Po)(hl:l.length≤1000000):ai E 136 [ez l,bL p] (fun r t=>r=ez (fe l p)∧t=[]):=by
 refine ai.aw (n:=61) (rs:=[.tmp 4]) Tryz.func136 rfl Tryz.ntmps136 rfl ?_
 repeat'(first
 |refine aa.aj fun K hK=>?_
 |(
  refine aa.here 6 14 18 rfl ?_
  obtain⟨x,hx⟩:∃x,l[i]?=some x:=⟨_,List.getElem?_eq_getElem ab⟩
  refine aa.bf [0,1,2,3,4,5,6,7,8,9,10,11,12,13,14,15,16,17] [] af af rfl ?_;simp only[go_sem])
 |(refine aa.region ?_;simp only[go_sem])
 |(refine aa.here 8 33 10 rfl ?_;refine aa.bf [0,1,2,3,4,5,6,7,8,9] [] af af rfl ?_;simp only[go_sem])
 |(refine hK _ ?_;clear hK K)
 |refine aa.block ?_
 |refine aa.cond rfl (fun c=>?_) (fun c=>?_)<;>first|exact Bool.noConfusion c|(try simp only[dD] at c)
 |refine aa.skip ?_
 |(refine aa.exit ?_;simp only[go_sem])
 |(refine ah.one (Ad p x) af rfl ?_;simp only[go_sem])
 |(refine aL.cc (fun h=>?_) (fun h=>?_)<;>simp only[h,go_sem]<;>(try simp only[dD] at h))
 |(refine aL.split (fun h=>?_) (fun h=>?_)<;>simp only[h,go_sem]<;>(try simp only[dD] at h))
 |(refine aM.bG ae ?_;(try simp only[go_sem]))
 |((with_reducible refine And.intro ?_ ?_);(focus(first|omega|(simp;done)));(try simp only[hb,go_sem]))
 |(
  refine aa.here 4 8 4 rfl ?_
  refine aa.fu 5 5 rfl ?_
  simp only[go_sem]
  refine aa.ck (ι:=Nat×List Po×Bool) [4,8,9,10,11,12,13,14,15,16,17,18,19,20,21,22,23,24,25,26,27,28,29,30,31,32,33,34,35,36,37,38,39,40,41,42,43,44,45,46,47,48,49,50,51,52,53] (fun⟨i,os,d⟩=>[(7,i64 i),(5,.sl (some 0) 5 (os.map bL)),(6,bl d)]) (fun⟨i,os,d⟩=>[some [.agg [str p.acc,str p.sym,i64 p.aq,i64 p.value,bl p.over]]]) (fun⟨i,os,d⟩=>[os.length]) (fun⟨i,os,d⟩=>i≤l.length∧(os,d)=gy p (l.take i)∧(∀k y,k<i→l[k]?=some y→¬(y.acc=p.acc∧y.sym=p.sym))∧os.length≤2*i) (fun⟨i,os,d⟩=>l.length-i) ((0,[],false)) ?_ ?_ ?_
  ·(try simp only[go_sem]);(repeat'(exact .inr (aR rfl)));done
  ·exact⟨by omega,rfl,fun k y hk=>by omega,by simp⟩
  rintro⟨i,os,d⟩ ⟨h1,h2,h3,h4⟩
  simp only[go_sem])
 |(
  first
  |(refine⟨(i+1,os++[p]++[x],true),?_,⟨by show i+1≤l.length;omega,MA hx h2 ae ae,tO h3 hx (by(try clear hK);simp_all),by show(os++[p]++[x]).length≤2*(i+1);simp only[List.length_append,List.length_cons,List.length_nil];omega⟩,by show l.length-(i+1)<l.length-i;omega⟩
    (try simp only[go_sem]);(try rw[av ab ab]);(repeat'(first|refine And.intro ?_ ?_|exact .inr rfl|exact .inr (aR rfl)|(simp;done)));done)
  |(refine⟨(i+1,os++[x],true),?_,⟨by show i+1≤l.length;omega,Y2 hx h2 ae,tO h3 hx (by(try clear hK);simp_all),by show(os++[x]).length≤2*(i+1);simp only[List.length_append,List.length_cons,List.length_nil];omega⟩,by show l.length-(i+1)<l.length-i;omega⟩
    (try simp only[go_sem]);(try rw[av ab ab]);(repeat'(first|refine And.intro ?_ ?_|exact .inr rfl|exact .inr (aR rfl)|(simp;done)));done)
  |(refine⟨(i+1,os++[x],false),?_,⟨by show i+1≤l.length;omega,RC hx h2 ae ae,tO h3 hx (by(try clear hK);simp_all),by show(os++[x]).length≤2*(i+1);simp only[List.length_append,List.length_cons,List.length_nil];omega⟩,by show l.length-(i+1)<l.length-i;omega⟩
    (try simp only[go_sem]);(try rw[av ab ab]);(repeat'(first|refine And.intro ?_ ?_|exact .inr rfl|exact .inr (aR rfl)|(simp;done)));done))
 |(
  refine aa.ret ?_
  refine aB.is ?_;simp only[go_sem,aE,aI,aH,aG,aJ,aF]<;>(first|(rw[K0 hx (by(try clear hK);simp_all)];done)|(rw[Bn ab h2 h3,if_pos ae];done)|(rw[Bn ab h2 h3,if_neg (by simp[*])];(simp;done))))
 |refine aa.fin ae ?_)
theorem GZ(bk:Bk)(acc sym:Bs)(hr:aW bk=true):ai E 74 [dx bk,str acc,str sym] (fun r t=>r=bL (cM bk acc sym)∧t=[]):=by
 refine ai.aw (n:=107) (rs:=[.cell 6 49]) Tryz.func74 rfl Tryz.ntmps74 rfl ?_
 repeat'(first
 |refine aa.aj fun K hK=>?_
 |(
  refine aa.here 6 25 7 rfl ?_
  obtain⟨f,hb⟩:∃f,bk.al[i]?=some f:=⟨_,List.getElem?_eq_getElem ab⟩
  have hfa:=ll hr f (List.mem_of_getElem? hb)
  have hw:IntKind.i64.wrap (0-f.aq)= -f.aq:=by rw[av ab ab];omega
  have hm:=Gm f.aq f.aA
  have hw2:IntKind.i64.wrap (0-(cf f.aq f.aA).1)= -(cf f.aq f.aA).1:=by rw[av ab ab];omega
  refine aa.region ?_;simp only[go_sem])
 |(refine aa.region ?_;simp only[go_sem])
 |(refine hK _ ?_;clear hK K)
 |refine aa.block ?_
 |refine aa.cond rfl (fun c=>?_) (fun c=>?_)<;>first|exact Bool.noConfusion c|(try simp only[dD] at c)
 |refine aa.skip ?_
 |(refine aa.exit ?_;simp only[go_sem])
 |(refine ah.one (Ah f.aq f.aA) af rfl ?_;simp only[go_sem])
 |(refine ah.one (qW qs ab) af rfl ?_;simp only[go_sem])
 |(refine ah.one (qW vs ab) af rfl ?_;simp only[go_sem])
 |(refine aL.cc (fun h=>?_) (fun h=>?_)<;>simp only[h,go_sem]<;>(try simp only[dD] at h))
 |(refine aL.split (fun h=>?_) (fun h=>?_)<;>simp only[h,go_sem]<;>(try simp only[dD] at h))
 |(refine aM.bG ae ?_;(try simp only[go_sem]))
 |((with_reducible refine And.intro ?_ ?_);(focus(first|omega|(simp;done)));(try simp only[hb,go_sem]))
 |(
  refine aa.here 4 18 5 rfl ?_
  refine aa.fu 7 1 rfl ?_
  refine aa.fu 8 1 rfl ?_
  simp only[go_sem]
  refine aa.ck (ι:=Nat×List Int×List Int×Bool) [11,12,13,18,19,20,21,22,23,24,25,26,27,28,29,30,31,32,33,34,35,36,37,38,39,40,41,42,43,44,45,46,47,48,49,50,51,52,53,54,55,56,57,58,59,60,61,62,63,64,65,66,67,68,69,70,71,72,73,74,75,76,77,78,79] (fun⟨i,qs,vs,ov⟩=>[(10,i64 i),(7,.sl (some 0) 1 (qs.map i64)),(8,.sl (some 1) 1 (vs.map i64)),(9,bl ov)]) (fun⟨i,qs,vs,ov⟩=>[some [.agg [aV bk.ak,cg bk.al,.sl none 1 (bk.ids.map str),i64 bk.clock,i64 bk.bad]],some [.agg [str [],str [],i64 0,i64 0,bl false]]]) (fun⟨i,qs,vs,ov⟩=>[qs.length,vs.length]) (fun⟨i,qs,vs,ov⟩=>GR bk acc sym i qs vs ov) (fun⟨i,qs,vs,ov⟩=>bk.al.length-i) ((0,[],[],false)) ?_ ?_ ?_
  ·(try simp only[go_sem]);(repeat'(first|refine And.intro ?_ ?_|trivial|exact .inr (aR rfl)));done
  ·exact GR.zero
  rintro⟨i,qs,vs,ov⟩ hg
  simp only[go_sem]
  have h256:=s6 hr
  have hgl:=hg.lens hr)
 |(
  first
  |(refine⟨(i+1,qs,vs,ov),?_,hg.no hb (by first|exact r6 ae |exact qR ae |exact sH ae),by show bk.al.length-(i+1)<bk.al.length-i;omega⟩
    (try simp only[go_sem,hw,hw2, *]);(try rw[av ab ab]);(repeat'(first|refine And.intro ?_ ?_|exact .inr rfl|trivial|exact .inr (aR rfl)));done)
  |(refine⟨(i+1,qs++[f.aq],vs++[(cf f.aq f.aA).1],true),?_,hg.yes hb ⟨by assumption,by assumption,by assumption⟩ (nS ae) (Ak ae) (by rw[‹ov=true›];rfl),by show bk.al.length-(i+1)<bk.al.length-i;omega⟩
    (try simp only[go_sem,hw,hw2, *]);(try rw[av ab ab]);(repeat'(first|refine And.intro ?_ ?_|exact .inr rfl|trivial|exact .inr (aR rfl)|(simp;done)));done)
  |(refine⟨(i+1,qs++[f.aq],vs++[(cf f.aq f.aA).1],!(cf f.aq f.aA).2),?_,hg.yes hb ⟨by assumption,by assumption,by assumption⟩ (nS ae) (Ak ae) (by rw[‹ov=false›];simp[yN]),by show bk.al.length-(i+1)<bk.al.length-i;omega⟩
    (try simp only[go_sem,hw,hw2, *]);(try rw[av ab ab]);(repeat'(first|refine And.intro ?_ ?_|exact .inr rfl|trivial|exact .inr (aR rfl)|(simp;done)));done)
  |(refine⟨(i+1,qs++[-f.aq],vs++[-(cf f.aq f.aA).1],true),?_,hg.yes hb ⟨by assumption,by assumption,by assumption⟩ (oF ae) (vz ae) (by rw[‹ov=true›];rfl),by show bk.al.length-(i+1)<bk.al.length-i;omega⟩
    (try simp only[go_sem,hw,hw2, *]);(try rw[av ab ab]);(repeat'(first|refine And.intro ?_ ?_|exact .inr rfl|trivial|exact .inr (aR rfl)|(simp;done)));done)
  |(refine⟨(i+1,qs++[-f.aq],vs++[-(cf f.aq f.aA).1],!(cf f.aq f.aA).2),?_,hg.yes hb ⟨by assumption,by assumption,by assumption⟩ (oF ae) (vz ae) (by rw[‹ov=false›];simp[yN]),by show bk.al.length-(i+1)<bk.al.length-i;omega⟩
    (try simp only[go_sem,hw,hw2, *]);(try rw[av ab ab]);(repeat'(first|refine And.intro ?_ ?_|exact .inr rfl|trivial|exact .inr (aR rfl)|(simp;done)));done))
 |(
  refine aa.ret ?_
  refine aB.is ?_;simp only[go_sem,aE,aI,aH,aG,aJ,aF]<;>(first|(rw[vU hg hr ab (.inl ae)];simp;done)|(rw[vU hg hr ab (.inr (.inl ae))];simp;done)|(rw[vU hg hr ab (.inr (.inr ae))];simp;done)|(rw[Tv hg hr ab ae ae ae];simp;done)))
 |refine aa.fin ae ?_)
theorem Rs(bk:Bk)(ho:bk.ak.length≤1000000)(hf:bk.al.length≤1000000)(hi:bk.ids.length≤1000000):ai E 59 [dx bk] (fun r t=>r=ez (cD bk)∧t=[]):=by
 refine ai.aw (n:=32) (rs:=[.tmp 2]) Tryz.func59 rfl Tryz.ntmps59 rfl ?_
 repeat'(first
 |refine aa.aj fun K hK=>?_
 |(
  refine aa.here 7 15 17 rfl ?_
  obtain⟨f,hb⟩:∃f,bk.al[i]?=some f:=⟨_,List.getElem?_eq_getElem ab⟩
  have hn:(eb bk)[i]?=some (f.acc,f.sym):=by unfold eb;rw[List.getElem?_map,hb];rfl
  refine aa.bf [0,1,2,3,4,5,6,7,8,9,10,11,12,13,14,15,16] [] af af rfl ?_;simp only[go_sem])
 |(refine aa.region ?_;simp only[go_sem])
 |(refine hK _ ?_;clear hK K)
 |refine aa.block ?_
 |refine aa.cond rfl (fun c=>?_) (fun c=>?_)<;>(try simp only[dD] at c)
 |refine aa.skip ?_
 |(refine aa.exit ?_;simp only[go_sem])
 |(refine ah.one (qq bk ab ab ab) af rfl ?_;simp only[go_sem])
 |(refine ah.one (GZ bk f.acc f.sym hr) af rfl ?_;simp only[go_sem])
 |(refine ah.one (B4 (fJ (fun n=>cM bk n.1 n.2) ((eb bk).take i)) (cM bk f.acc f.sym) ab) af rfl ?_;simp only[go_sem])
 |(refine aM.bG ae ?_;(try simp only[go_sem]))
 |((with_reducible refine And.intro ?_ ?_);(focus((simp;done)));(try simp only[hb,go_sem]))
 |(
  refine aa.here 5 8 5 rfl ?_
  refine aa.Ce 3 5 rfl ?_
  simp only[go_sem]
  refine aa.ck (ι:=Nat) [8,9,10,11,12,13,14,15,16,17,18,19,20,21,22,23,24,25,26,27,28,29,30] (fun(i:Nat)=>[(4,i64 i),(3,ez (fJ (fun n=>cM bk n.1 n.2) ((eb bk).take i)))]) (fun(i:Nat)=>[some [.agg [aV bk.ak,cg bk.al,.sl none 1 (bk.ids.map str),i64 bk.clock,i64 bk.bad]]]) (fun(i:Nat)=>[]) (fun(i:Nat)=>i≤bk.al.length) (fun(i:Nat)=>bk.al.length-i) (0) ?_ ?_ ?_
  ·(try simp only[go_sem]);(repeat'(first|refine And.intro ?_ ?_|exact .inr rfl|exact .inr (aR rfl)));done
  ·exact Nat.zero_le _
  rintro i h1
  simp only[go_sem]
  have hr:aW bk=true:=by assumption
  have hpl:=BN (fun n=>cM bk n.1 n.2) ((eb bk).take i)
  have hnl:((eb bk).take i).length≤i:=by rw[List.length_take];omega)
 |(
  refine⟨i+1,?_,?_,?_⟩
  ·(try simp only[go_sem]);(try rw[av ab ab]);(try rw[Ek hn]);(repeat'(first|refine And.intro ?_ ?_|exact .inr rfl|exact .inr (aR rfl)));done
  ·omega
  ·(try simp only[]);omega)
 |(
  refine aa.ret ?_
  refine aB.is ?_;simp only[go_sem,aE,aI,aH,aG,aJ,aF]<;>(first|(rw[JY ae];exact trivial)|(rw[List.take_of_length_le (by simp only[eb,List.length_map];omega),OV hr];done)))
 |refine aa.fin ae ?_)
theorem Xj(l:List Po)(hl:l.length≤1000000):ai E 19 [ez l] (fun r t=>r=bl (cE l)∧t=[]):=by
 refine ai.aw (n:=67) (rs:=[.tmp 2]) Tryz.func19 rfl Tryz.ntmps19 rfl ?_
 repeat'(first
 |refine aa.aj fun K hK=>?_
 |(
  refine aa.here 4 10 57 rfl ?_
  obtain⟨x,hx⟩:∃x,l[i]?=some x:=⟨_,List.getElem?_eq_getElem ab⟩
  refine aa.Wx [0,1,2,3,4,5,6,7,8,9,10,11,12,13,14,15,16,17,18,19,20,21,22,23,24,25,26,27,28,29,30,31,32,33,34,35,36,37,38,39,40,41,42,43,44,45,46,47,48,49,50,51,52,53,54,55,56] ([[],[0],[0,1],[0,1,2],[0,1,2],[0,1,2,4],List.range 6,List.range 7,[0,1,2],[0,1,2],[0,1,2,8,9],[0,1,2,8,9,10],List.range 12,List.range 13,List.range 14,List.range 15,List.range 16,List.range 16,List.range 18,List.range 19,List.range 20,List.range 21,List.range 22,List.range 23,List.range 24,List.range 25,List.range 25,List.range 27,List.range 28,List.range 29,List.range 30,List.range 31,List.range 32,List.range 33,List.range 34,List.range 34,List.range 36,List.range 37,List.range 38,List.range 39,List.range 40,List.range 40,List.range 42,List.range 43,List.range 44,List.range 45,List.range 46,List.range 47,List.range 47,List.range 49,List.range 50,List.range 51,List.range 52,List.range 53,List.range 54,List.range 55,List.range 56]) [] af af ay rfl ?_;simp only[go_sem])
 |(refine aa.region ?_;simp only[go_sem])
 |(refine hK _ ?_;clear hK K)
 |refine aa.block ?_
 |refine aa.cond rfl (fun c=>?_) (fun c=>?_)<;>first|exact Bool.noConfusion c|(try simp only[dD] at c)
 |refine aa.skip ?_
 |(refine aa.exit ?_;simp only[go_sem])
 |(refine ah.one (Ad b x) af rfl ?_;simp only[go_sem])
 |(refine ah.one (my x.aq) af rfl ?_;simp only[go_sem])
 |(refine ah.one (my x.value) af rfl ?_;simp only[go_sem])
 |(refine aL.split (fun h=>?_) (fun h=>?_)<;>simp only[h,go_sem]<;>(try simp only[dD] at h))
 |(refine aM.bG ae ?_;(try simp only[go_sem]))
 |((first|refine aM.nth ?_ (fun b hb=>?_)|with_reducible refine And.intro ?_ ?_);(focus(first|(rw[av ab ab];omega)|(simp;done)));(try simp only[hb,go_sem]))
 |(
  refine aa.here 2 4 4 rfl ?_
  refine aa.cC (ι:=Nat) [2,4,5,6,7,8,9,10,11,12,13,14,15,16,17,18,19,20,21,22,23,24,25,26,27,28,29,30,31,32,33,34,35,36,37,38,39,40,41,42,43,44,45,46,47,48,49,50,51,52,53,54,55,56,57,58,59,60,61,62,63,64,65,66] (fun(i:Nat)=>[(3,i64 i)]) (fun(i:Nat)=>i≤l.length∧∀k,k<i→jP l k=true) (fun(i:Nat)=>l.length-i) (0) ?_ ?_ ?_
  ·(try simp only[go_sem]);(repeat'(first|fail));done
  ·exact⟨by omega,fun k hk=>by omega⟩
  rintro i ⟨h1,h3⟩
  simp only[go_sem])
 |(
  refine⟨i+1,?_,?_,?_⟩
  ·(try simp only[go_sem]);(try rw[av ab ab]);(repeat'(exact .inr rfl));done
  ·exact⟨by omega,rH h3 (by first|exact CG hx ab (by first|exact rF ae ae ae |exact rP ae ae ae ae)|(rw[mo ab ab] at hb;exact w4 hx hb (by first|exact rF ae ae ae |exact rP ae ae ae ae) (HI ae)))⟩
  ·(try simp only[]);omega)
 |(
  refine aa.ret ?_
  refine aB.is ?_;simp only[go_sem,aE,aI,aH,aG,aJ,aF]<;>(first|(rw[rG hx (xO hx (by first|exact zz ae |exact zG ae |exact rV ae (.inl ae)|exact rV ae (.inr ae)))];done)|(rw[mo ab ab] at hb;rw[rG hx (xf hx ab hb (Yk ae))];done)|(rw[Cy ab h3];done)))
 |refine aa.fin ae ?_)
end Go.Proofs.YtajeeghgiilhiaaGreat
end
