/- (Q16, K4) -/
import Derived.Test.YtajeeghgiilhiaaGreatKwP
import Derived.Test.YtajeeghgiilhiaaGreatKwO
import Derived.Test.YtajeeghgiilhiaaGreatKwJ
set_option linter.unusedVariables false
set_option linter.unusedSimpArgs false
set_option maxHeartbeats 16000000
set_option maxRecDepth 8000
section
namespace Go.Proofs.YtajeeghgiilhiaaGreat
open Go Go.Abs Go.RowKit Go.Bk
theorem Te{l:List Bs}{x:Bs}:l.map str++[AV.v (Value.string ⟨x.toArray⟩)]=(l++[x]).map str:=by simp
theorem L6{b:Bk}(h:aQ b=true):True∧(b.af.length≤64∧b.ai.length≤256∧b.ids.length≤256)∧∀f∈b.ai,0≤f.time∧f.time≤4611686018427387904:=by
 have h1:=eO.1 h
 refine⟨trivial,⟨ly h1.1.1,h1.1.2.1,h1.1.2.2.1⟩,fun f hf=>?_⟩
 have h2:=h1.2.2.1 f hf
 simp only[cd,Bool.and_eq_true,decide_eq_true_eq] at h2
 omega
theorem JU{bk:Bk}{x:Ex}(h:aQ bk=true)(hx:dh x=true):aU bk.af=true∧bJ x.aw=true∧bk.ai.length≤100000∧(∀f∈bk.ai,0≤f.time∧f.time≤4611686018427387904)∧1≤x.kind∧x.kind≤8:=by
 have h1:=eO.1 h
 have h2:=L6 h
 exact⟨h1.1.1,(BX hx).2.1,by omega,h2.2.2,Qu hx⟩
theorem FO{b:Bk}{f:Dn}(h0:¬eM b.ids f.id<0)(h1:bJ f.al=true)(h2:bJ f.aw=true)(h3:¬f.time<0)(h4:¬b.clock<f.time):cd b f=true:=by
 rw[v7,Classical.not_not] at h0
 simp[cd,h0,h1,h2];omega
theorem To{b:Bk}{f:Dn}(h0:eM b.ids f.id<0):cd b f=false:=by
 rw[v7] at h0;simp[cd,h0]
theorem LA{b:Bk}{f:Dn}(h:bJ f.al=false):cd b f=false:=by simp[cd,h]
theorem Xq{b:Bk}{f:Dn}(h:bJ f.aw=false):cd b f=false:=by simp[cd,h]
theorem Fk{b:Bk}{f:Dn}(h:f.time<0):cd b f=false:=by
 unfold cd;rw[show decide (0≤f.time)=false from decide_eq_false (by omega)];simp
theorem CN{b:Bk}{f:Dn}(h:b.clock<f.time):cd b f=false:=by
 unfold cd;rw[show decide (f.time≤b.clock)=false from decide_eq_false (by omega)];simp
theorem qJ(bk:Bk)(ho:bk.af.length≤9223372036854775807)(hf:bk.ai.length≤9223372036854775807)(hi:bk.ids.length≤9223372036854775807):ae E 20 [dn bk] (fun r t=>r=bl (aQ bk)∧t=[]):=by
 refine ae.av (n:=110) (rs:=[.tmp 2]) Tryz.func20 rfl Tryz.ntmps20 rfl ?_
 repeat'(first
 |refine aa.ab fun K hK=>?_
 |(refine aa.region ?_;simp only[go_sem])
 |(refine aa.here 6 49 10 rfl ?_;refine aa.bc [0,1,2,3,4,5,6,8,7,9] [] (by kernel_rfl) (by kernel_rfl) rfl ?_;simp only[go_sem])
 |(refine hK _ ?_;clear hK K)
 |refine aa.block ?_
 |refine aa.cond rfl (fun c=>?_) (fun c=>?_)<;>first|exact Bool.noConfusion c|(try simp only[dD] at c)
 |refine aa.skip ?_
 |(refine aa.exit ?_;simp only[go_sem])
 |(refine ah.one (nW bk.af (by omega)) (by kernel_rfl) rfl ?_;simp only[go_sem])
 |(refine ah.one (xw bk.ids _ (by omega)) (by kernel_rfl) rfl ?_;simp only[go_sem])
 |(refine ah.one (yE bk.ai _ (by omega)) (by kernel_rfl) rfl ?_;simp only[go_sem])
 |(refine ah.one (U0 _) (by kernel_rfl) rfl ?_;simp only[go_sem])
 |(refine aH.bY (fun h=>?_) (fun h=>?_)<;>simp only[h,go_sem]<;>(try simp only[dD] at h))
 |(refine aH.split (fun h=>?_) (fun h=>?_)<;>simp only[h,go_sem]<;>(try simp only[dD] at h))
 |((first|refine aG.nth ?_ (fun b hb=>?_)|with_reducible refine And.intro ?_ ?_);(focus(first|omega|(simp;done)));(try simp only[hb,go_sem]))
 |(
  refine aa.here 4 42 5 rfl ?_
  refine aa.b6 (ι:=Nat) [2,42,43,44,45,46,47,48,49,50,51,52,53,54,55,56,57,58] (fun(i:Nat)=>[(3,i64 i)]) (fun(i:Nat)=>[some [.agg [aR bk.af,bZ bk.ai,.sl none 1 (bk.ids.map str),i64 bk.clock,i64 bk.bad]]]) (fun(i:Nat)=>[]) (fun(i:Nat)=>i≤bk.ids.length∧(bk.ids.take i).Nodup) (fun(i:Nat)=>bk.ids.length-i) (0) ?_ ?_ ?_
  ·(try simp only[go_sem]);(repeat'(exact .inr (aM rfl)));done
  ·exact⟨Nat.zero_le _,by simp⟩
  rintro i ⟨h1,h2⟩
  simp only[go_sem])
 |(
  refine aa.here 9 59 5 rfl ?_
  refine aa.b6 (ι:=Nat) [2,5,59,60,61,62,63,64,65,66,67,68,69,70,71,72,73,74,75,76,77,78,79,80,81,82,83,84,85,86,87,88,89,90,91,92,93,94,95,96,97,98,99,100,101,102,103,104,105,106,107,108,109] (fun(i:Nat)=>[(4,i64 i)]) (fun(i:Nat)=>[some [.agg [aR bk.af,bZ bk.ai,.sl none 1 (bk.ids.map str),i64 bk.clock,i64 bk.bad]]]) (fun(i:Nat)=>[]) (fun(i:Nat)=>i≤bk.ai.length∧(bk.ai.take i).all (cd bk)=true∧((bk.ai.take i).map (·.id)).Nodup) (fun(i:Nat)=>bk.ai.length-i) (0) ?_ ?_ ?_
  ·(try simp only[go_sem]);(repeat'(exact .inr (aM rfl)));done
  ·exact⟨Nat.zero_le _,by simp,by simp⟩
  rintro i ⟨g1,g2,g3⟩
  simp only[go_sem])
 |(
  refine⟨i+1,?_,?_,?_⟩
  ·(try simp only[go_sem]);(try rw[aq (by omega) (by omega)]);(repeat'(first|refine And.intro ?_ ?_|exact .inr rfl|exact .inr (aM rfl)));done
  ·exact⟨by omega,Dz hb h2 (by assumption)⟩
  ·(try simp only[]);omega)
 |(
  refine⟨i+1,?_,?_,?_⟩
  ·(try simp only[go_sem]);(try rw[aq (by omega) (by omega)]);(repeat'(first|refine And.intro ?_ ?_|exact .inr rfl|exact .inr (aM rfl)));done
  ·exact⟨by omega,nM hb g2 (FO (by assumption) (by assumption) (by assumption) (by assumption) (by assumption)),XJ hb g3 (by assumption)⟩
  ·(try simp only[]);omega)
 |(
  refine aa.ret ?_
  refine az.is ?_;simp only[go_sem,aB,aE,aF,aA,aC,aD]<;>(first
  |(rw[XN (by first|(simp[fC, *];done)|(simp[fC];intros;omega))];done)
  |(rw[No (Gl hb (by assumption))];done)
  |(rw[RN (GN hb (by assumption))];done)
  |(rw[pe hb (To (by assumption))];done)
  |(rw[pe hb (LA (by assumption))];done)
  |(rw[pe hb (Xq (by assumption))];done)
  |(rw[pe hb (Fk (by assumption))];done)
  |(rw[pe hb (CN (by assumption))];done)
  |(rw[List.take_of_length_le (by omega)] at h2;rw[List.take_of_length_le (by omega)] at g2 g3;rw[L9 (by simp[fC, *]<;>omega) h2 g2 g3];done)))
 |refine aa.fin (by assumption) ?_)
theorem yZ(p q:List Od)(hl:p.length≤9223372036854775807):ae E 60 [aR p,aR q] (fun r t=>r=bl (decide (p=q))∧t=[]):=by
 refine ae.av (n:=26) (rs:=[.tmp 4]) Tryz.func60 rfl Tryz.ntmps60 rfl ?_
 repeat'(first
 |refine aa.ab fun K hK=>?_
 |(refine aa.region ?_;simp only[go_sem])
 |(refine aa.here 6 17 9 rfl ?_;refine aa.bc [0,1,2,3,4,5,6,7,8] [] (by kernel_rfl) (by kernel_rfl) rfl ?_;simp only[go_sem])
 |(refine hK _ ?_;clear hK K)
 |refine aa.block ?_
 |refine aa.cond rfl (fun c=>?_) (fun c=>?_)<;>(try simp only[dD] at c)
 |refine aa.skip ?_
 |(refine aa.exit ?_;simp only[go_sem])
 |((first|refine aG.nth ?_ (fun b hb=>?_)|with_reducible refine And.intro ?_ ?_);(focus(first|omega|(simp;done)));(try simp only[hb,go_sem]))
 |(
  refine aa.here 4 11 4 rfl ?_
  refine aa.cr (ι:=Nat) [4,11,12,13,14,15,16,17,18,19,20,21,22,23,24,25] (fun(i:Nat)=>[(5,i64 i)]) (fun(i:Nat)=>i≤p.length∧p.length=q.length∧p.take i=q.take i) (fun(i:Nat)=>p.length-i) (0) ?_ ?_ ?_
  ·(try simp only[go_sem]);(repeat'(first|fail));done
  ·exact⟨by omega,by omega,by simp⟩
  rintro i ⟨h1,h2,h3⟩
  simp only[go_sem])
 |(
  refine⟨i+1,?_,?_,?_⟩
  ·(try simp only[go_sem]);(try rw[aq (by omega) (by omega)]);(repeat'(exact .inr rfl));done
  ·exact⟨by omega,by omega,sA (a:=p) (b:=q) (by assumption) (by assumption) (by exact C9 (by assumption)) h3⟩
  ·(try simp only[]);omega)
 |(
  refine aa.ret ?_
  refine az.is ?_;simp only[go_sem,aB,aE,aF,aA,aC,aD]<;>(first
  |(rw[vf (by omega)];done)
  |(rw[vx (a:=p) (b:=q) (by assumption) (by assumption) (by exact KN (by assumption))];done)
  |(rw[um h2 (by omega) h3];done)))
 |refine aa.fin (by assumption) ?_)
theorem O3(p q:Bk)(ho:p.af.length≤9223372036854775807)(hf:p.ai.length≤9223372036854775807)(hi:p.ids.length≤9223372036854775807):ae E 15 [dn p,dn q] (fun r t=>r=bl (decide (p=q))∧t=[]):=by
 refine ae.av (n:=81) (rs:=[.tmp 4]) Tryz.func15 rfl Tryz.ntmps15 rfl ?_
 repeat'(first
 |refine aa.ab fun K hK=>?_
 |(refine aa.region ?_;simp only[go_sem])
 |(refine aa.here 6 52 11 rfl ?_;refine aa.bc [0,1,2,3,4,5,6,7,8,9,10] [] (by kernel_rfl) (by kernel_rfl) rfl ?_;simp only[go_sem])
 |(refine aa.here 11 70 11 rfl ?_;refine aa.bc [0,1,2,3,4,5,6,7,8,9,10] [] (by kernel_rfl) (by kernel_rfl) rfl ?_;simp only[go_sem])
 |(refine hK _ ?_;clear hK K)
 |refine aa.block ?_
 |refine aa.cond rfl (fun c=>?_) (fun c=>?_)<;>first|exact Bool.noConfusion c|(try simp only[dD] at c)
 |refine aa.skip ?_
 |(refine aa.exit ?_;simp only[go_sem])
 |(refine ah.one (yZ p.af q.af ho) (by kernel_rfl) rfl ?_;simp only[go_sem])
 |(refine aH.split (fun h=>?_) (fun h=>?_)<;>simp only[h,go_sem]<;>(try simp only[dD] at h))
 |((first|refine aG.nth ?_ (fun b hb=>?_)|with_reducible refine And.intro ?_ ?_);(focus(first|omega|(simp;done)));(try simp only[hb,go_sem]))
 |(
  refine aa.here 4 45 5 rfl ?_
  refine aa.b6 (ι:=Nat) [4,45,46,47,48,49,50,51,52,53,54,55,56,57,58,59,60,61,62] (fun(i:Nat)=>[(5,i64 i)]) (fun(i:Nat)=>[some [.agg [aR p.af,bZ p.ai,.sl none 1 (p.ids.map str),i64 p.clock,i64 p.bad]],some [.agg [aR q.af,bZ q.ai,.sl none 1 (q.ids.map str),i64 q.clock,i64 q.bad]]]) (fun(i:Nat)=>[]) (fun(i:Nat)=>i≤p.ai.length∧p.ai.length=q.ai.length∧p.ai.take i=q.ai.take i) (fun(i:Nat)=>p.ai.length-i) (0) ?_ ?_ ?_
  ·(try simp only[go_sem]);(repeat'(first|refine And.intro ?_ ?_|exact .inr (aM rfl)));done
  ·exact⟨by omega,by omega,by simp⟩
  rintro i ⟨h1,h2,h3⟩
  simp only[go_sem])
 |(
  refine aa.here 9 63 5 rfl ?_
  refine aa.b6 (ι:=Nat) [4,63,64,65,66,67,68,69,70,71,72,73,74,75,76,77,78,79,80] (fun(i:Nat)=>[(6,i64 i)]) (fun(i:Nat)=>[some [.agg [aR p.af,bZ p.ai,.sl none 1 (p.ids.map str),i64 p.clock,i64 p.bad]],some [.agg [aR q.af,bZ q.ai,.sl none 1 (q.ids.map str),i64 q.clock,i64 q.bad]]]) (fun(i:Nat)=>[]) (fun(i:Nat)=>i≤p.ids.length∧p.ids.length=q.ids.length∧p.ids.take i=q.ids.take i) (fun(i:Nat)=>p.ids.length-i) (0) ?_ ?_ ?_
  ·(try simp only[go_sem]);(repeat'(first|refine And.intro ?_ ?_|exact .inr (aM rfl)));done
  ·exact⟨by omega,by omega,by simp⟩
  rintro i ⟨g1,g2,g3⟩
  simp only[go_sem])
 |(
  refine⟨i+1,?_,?_,?_⟩
  ·(try simp only[go_sem]);(try rw[aq (by omega) (by omega)]);(repeat'(first|refine And.intro ?_ ?_|exact .inr rfl|exact .inr (aM rfl)));done
  ·exact⟨by omega,by omega,sA (a:=p.ai) (b:=q.ai) (by assumption) (by assumption) (by exact IL (by assumption)) h3⟩
  ·(try simp only[]);omega)
 |(
  refine⟨i+1,?_,?_,?_⟩
  ·(try simp only[go_sem]);(try rw[aq (by omega) (by omega)]);(repeat'(first|refine And.intro ?_ ?_|exact .inr rfl|exact .inr (aM rfl)));done
  ·exact⟨by omega,by omega,sA (a:=p.ids) (b:=q.ids) (by assumption) (by assumption) (by assumption) g3⟩
  ·(try simp only[]);omega)
 |(
  refine aa.ret ?_
  refine az.is ?_;simp only[go_sem,aB,aE,aF,aA,aC,aD]<;>(first
  |(rw[nZ];simp[*];done)
  |(rw[nZ,vf (a:=p.ai) (by omega)];simp;done)
  |(rw[nZ,vf (a:=p.ids) (by omega)];simp;done)
  |(rw[nZ,vx (a:=p.ai) (b:=q.ai) (by assumption) (by assumption) (by exact HW (by assumption))];simp;done)
  |(rw[nZ,vx (a:=p.ids) (b:=q.ids) (by assumption) (by assumption) (by assumption)];simp;done)
  |(rw[nZ,um h2 (by omega) h3,um g2 (by omega) g3];simp[*];done)))
 |refine aa.fin (by assumption) ?_)
theorem C7{l os:List Po}{p x:Po}{i:Nat}{d:Bool}(hx:l[i]?=some x)(h2:(os,d)=fN p (l.take i))(hd:d=false)(h:aJ p x=true):(os++[p]++[x],true)=fN p (l.take (i+1)):=by
 rw[yV hx,←h2];unfold ir;rw[if_pos ⟨hd,h⟩]
theorem zq{l os:List Po}{p x:Po}{i:Nat}{d:Bool}(hx:l[i]?=some x)(h2:(os,d)=fN p (l.take i))(h:d=true∨aJ p x=false):(os++[x],d)=fN p (l.take (i+1)):=by
 rw[yV hx,←h2];unfold ir;rw[if_neg (by rcases h with h|h<;>simp[h])]
theorem Hl{l os:List Po}{p x:Po}{i:Nat}{d:Bool}(hx:l[i]?=some x)(h2:(os,d)=fN p (l.take i))(h:d=true):(os++[x],true)=fN p (l.take (i+1)):=by
 rw[←zq hx h2 (.inl h),h]
theorem MG{l os:List Po}{p x:Po}{i:Nat}{d:Bool}(hx:l[i]?=some x)(h2:(os,d)=fN p (l.take i))(h:d=false)(h3:aJ p x=false):(os++[x],false)=fN p (l.take (i+1)):=by
 rw[←zq hx h2 (.inr h3),h]
theorem GC{x y:Po}(h1:¬x.acc<y.acc)(h2:x.acc=y.acc):decide (x.sym<y.sym)=aJ x y:=by
 rw[vO,decide_eq_false h1,decide_eq_true h2];rfl
theorem Ov{l:List Po}{p x:Po}{i:Nat}(hx:l[i]?=some x)(h:x.acc=p.acc∧x.sym=p.sym):eS l p=l:=
 rD (List.any_eq_true.2 ⟨x,List.mem_of_getElem? hx,by simp[aI,h.1,h.2]⟩)
theorem Bo{l os:List Po}{p:Po}{i:Nat}{d:Bool}(hi:l.length≤i)(h2:(os,d)=fN p (l.take i))(h3:∀k y,k<i→l[k]?=some y→¬(y.acc=p.acc∧y.sym=p.sym)):eS l p=if d=true then os else os++[p]:=by
 rw[List.take_of_length_le hi] at h2
 have hn:jP (aI p) l=false:=by
  unfold jP
  rw[List.any_eq_false]
  intro e he
  obtain⟨k,hk,e2⟩:=List.mem_iff_getElem.1 he
  have:=h3 k e (by omega) (by rw[List.getElem?_eq_getElem hk,e2])
  simp only[decide_eq_true_eq]
  intro e3
  exact this ⟨congrArg Prod.fst e3,congrArg Prod.snd e3⟩
 unfold eS
 rw[if_neg (by simp[hn]),←h2]
theorem JT(a b:Int):-4611686018427387904≤(bW a b).1∧(bW a b).1≤4611686018427387904:=by
 unfold bW;split
 ·rename_i h;simp only[Bool.and_eq_true] at h;exact ew.1 h.2
 ·simp
theorem y7{f:Dn}(h:f.au=true):(eo f).1=(bW f.al f.aw).1:=by unfold eo;rw[oc h]
theorem vd{f:Dn}(h:f.au=false):(eo f).1= -(bW f.al f.aw).1:=by unfold eo;rw[mT h,vG]
theorem Bf{f:Dn}:(eo f).2=(bW f.al f.aw).2:=by
 cases h:f.au with
 |true=>unfold eo;rw[oc h]
 |false=>unfold eo;rw[mT h,vG]
structure GR(bk:Bk)(acc sym:Bs)(i:Nat)(qs vs:List Int)(ov:Bool):Prop where
 le:i≤bk.ai.length
 q:qs=(eZ bk acc sym i).map fR
 v:vs=(eZ bk acc sym i).map fun f=>(eo f).1
 o:ov=(eZ bk acc sym i).any fun f=>!(eo f).2
section
variable{bk:Bk}{acc sym:Bs}{i:Nat}{qs vs:List Int}{ov:Bool}{f:Dn}
theorem GR.zero:GR bk acc sym 0 [] [] false:=⟨by omega,rfl,rfl,rfl⟩
theorem GR.lens(h:GR bk acc sym i qs vs ov)(hr:aQ bk=true):qs.length≤256∧vs.length≤256:=by
 have h1:(eZ bk acc sym i).length≤bk.ai.length:=by
  unfold eZ eU
  refine Nat.le_trans (List.length_filter_le _ _) ?_
  rw[List.length_take];omega
 have h2:=se hr
 rw[h.q,h.v,List.length_map,List.length_map];omega
theorem GR.no(h:GR bk acc sym i qs vs ov)(hb:bk.ai[i]?=some f)(hm:¬(f.live=true∧f.acc=acc∧f.sym=sym)):GR bk acc sym (i+1) qs vs ov:=by
 have e:=wh hb hm
 have:=(List.getElem?_eq_some_iff.1 hb).1
 exact⟨by omega,by rw[e];exact h.q,by rw[e];exact h.v,by rw[e];exact h.o⟩
theorem GR.yes(h:GR bk acc sym i qs vs ov)(hb:bk.ai[i]?=some f)(hm:f.live=true∧f.acc=acc∧f.sym=sym){q v:Int}{o:Bool}(hq:fR f=q)(hv:(eo f).1=v)(ho:o=(ov||!(eo f).2)):GR bk acc sym (i+1) (qs++[q]) (vs++[v]) o:=by
 have e:=zL hb hm
 have:=(List.getElem?_eq_some_iff.1 hb).1
 refine⟨by omega,?_,?_,?_⟩
 ·rw[e,List.map_append,←h.q,←hq];rfl
 ·rw[e,List.map_append,←h.v,←hv];rfl
 ·rw[e,List.any_append,←h.o,ho];simp
theorem zG(hi:bk.ai.length≤i):eZ bk acc sym i=eU acc sym bk.ai:=by unfold eZ;rw[List.take_of_length_le hi]
theorem tK(h:GR bk acc sym i qs vs ov)(hr:aQ bk=true)(hi:bk.ai.length≤i)(c:ov=true∨(bu qs).2=false∨(bu vs).2=false):cz bk acc sym=⟨acc,sym,0,0,true⟩:=by
 have h1:=h.q;have h2:=h.v;have h3:=h.o
 rw[zG hi] at h1 h2 h3
 unfold cz la
 rw[if_pos hr,←h1,←h2,if_neg]
 rintro h4
 simp only[Bool.and_eq_true,List.all_eq_true] at h4
 rcases c with c|c|c
 ·rw[c] at h3
  obtain⟨f,hf,h5⟩:=List.any_eq_true.1 h3.symm
  have:=h4.1 f hf
  rw[this] at h5;exact absurd h5 (by simp)
 ·rw[c] at h4;exact absurd h4.2.1 (by simp)
 ·rw[c] at h4;exact absurd h4.2.2 (by simp)
theorem Gn(h:GR bk acc sym i qs vs ov)(hr:aQ bk=true)(hi:bk.ai.length≤i)(c:ov=false)(c1:(bu qs).2=true)(c2:(bu vs).2=true):cz bk acc sym=⟨acc,sym,(bu qs).1,(bu vs).1,false⟩:=by
 have h1:=h.q;have h2:=h.v;have h3:=h.o
 rw[zG hi] at h1 h2 h3
 unfold cz la
 rw[if_pos hr,←h1,←h2,if_pos]
 simp only[Bool.and_eq_true,List.all_eq_true]
 refine⟨fun f hf=>?_,c1,c2⟩
 rw[c] at h3
 have:=List.any_eq_false.1 h3.symm f hf
 simpa using this
end
theorem OQ{bk:Bk}(h:aQ bk=false):cm bk=[]:=by unfold cm;rw[if_neg (by simp[h])]
theorem LV{x y:Po}(h:aJ x y=true):ee (aI x) (aI y)<0:=by unfold aJ cR at h;simpa using h
theorem TJ{x y:Po}(h:aJ x y=false):0≤ee (aI x) (aI y):=by unfold aJ cR at h;simpa using h
theorem zP(x y:Po):ae E 63 [bD x,bD y] (fun r t=>r=bl (aJ x y)∧t=[]):=by
 refine ae.av (n:=24) (rs:=[.tmp 4]) Tryz.func63 rfl Tryz.ntmps63 rfl ?_
 repeat'(first
 |refine aa.ab fun K hK=>?_
 |(refine aa.region ?_;simp only[go_sem,Go.Proofs.bytesLess_eq])
 |(refine hK _ ?_;clear hK K)
 |(refine aH.bY (fun h=>?_) (fun h=>?_)<;>simp only[h,go_sem,Go.Proofs.bytesLess_eq]<;>(try simp only[dD] at h))
 |(refine aH.split (fun h=>?_) (fun h=>?_)<;>simp only[h,go_sem,Go.Proofs.bytesLess_eq]<;>(try simp only[dD] at h))
 |(
  refine aa.ret ?_
  refine az.is ?_;simp only[go_sem,aB,aE,aF,aA,aC,aD]<;>(first|exact GC (by assumption) (by assumption)|(rw[vO];simp[*];done))))
theorem Bh(l:List Po)(p:Po)(hl:l.length≤1000000):ae E 136 [eb l,bD p] (fun r t=>r=eb (eS l p)∧t=[]):=by
 refine ae.av (n:=61) (rs:=[.tmp 4]) Tryz.func136 rfl Tryz.ntmps136 rfl ?_
 repeat'(first
 |refine aa.ab fun K hK=>?_
 |(
  refine aa.here 6 14 18 rfl ?_
  obtain⟨x,hx⟩:∃x,l[i]?=some x:=⟨_,List.getElem?_eq_getElem (by omega)⟩
  refine aa.bc [0,1,2,3,4,5,6,7,8,9,10,11,12,13,14,15,16,17] [] (by kernel_rfl) (by kernel_rfl) rfl ?_;simp only[go_sem])
 |(refine aa.region ?_;simp only[go_sem])
 |(refine aa.here 8 33 10 rfl ?_;refine aa.bc [0,1,2,3,4,5,6,7,8,9] [] (by kernel_rfl) (by kernel_rfl) rfl ?_;simp only[go_sem])
 |(refine hK _ ?_;clear hK K)
 |refine aa.block ?_
 |refine aa.cond rfl (fun c=>?_) (fun c=>?_)<;>first|exact Bool.noConfusion c|(try simp only[dD] at c)
 |refine aa.skip ?_
 |(refine aa.exit ?_;simp only[go_sem])
 |(refine ah.one (zP p x) (by kernel_rfl) rfl ?_;simp only[go_sem])
 |(refine aH.bY (fun h=>?_) (fun h=>?_)<;>simp only[h,go_sem]<;>(try simp only[dD] at h))
 |(refine aH.split (fun h=>?_) (fun h=>?_)<;>simp only[h,go_sem]<;>(try simp only[dD] at h))
 |(refine aG.bA (by assumption) ?_;(try simp only[go_sem]))
 |((with_reducible refine And.intro ?_ ?_);(focus(first|omega|(simp;done)));(try simp only[hb,go_sem]))
 |(
  refine aa.here 4 8 4 rfl ?_
  refine aa.fb 5 5 rfl ?_
  simp only[go_sem]
  refine aa.b6 (ι:=Nat×List Po×Bool) [4,8,9,10,11,12,13,14,15,16,17,18,19,20,21,22,23,24,25,26,27,28,29,30,31,32,33,34,35,36,37,38,39,40,41,42,43,44,45,46,47,48,49,50,51,52,53] (fun⟨i,os,d⟩=>[(7,i64 i),(5,.sl (some 0) 5 (os.map bD)),(6,bl d)]) (fun⟨i,os,d⟩=>[some [.agg [str p.acc,str p.sym,i64 p.al,i64 p.value,bl p.over]]]) (fun⟨i,os,d⟩=>[os.length]) (fun⟨i,os,d⟩=>i≤l.length∧(os,d)=fN p (l.take i)∧(∀k y,k<i→l[k]?=some y→¬(y.acc=p.acc∧y.sym=p.sym))∧os.length≤2*i) (fun⟨i,os,d⟩=>l.length-i) ((0,[],false)) ?_ ?_ ?_
  ·(try simp only[go_sem]);(repeat'(exact .inr (aM rfl)));done
  ·exact⟨by omega,rfl,fun k y hk=>by omega,by simp⟩
  rintro⟨i,os,d⟩ ⟨h1,h2,h3,h4⟩
  simp only[go_sem])
 |(
  first
  |(refine⟨(i+1,os++[p]++[x],true),?_,⟨by show i+1≤l.length;omega,C7 hx h2 (by assumption) (by assumption),uk h3 hx (by(try clear hK);simp_all),by show(os++[p]++[x]).length≤2*(i+1);simp only[List.length_append,List.length_cons,List.length_nil];omega⟩,by show l.length-(i+1)<l.length-i;omega⟩
    (try simp only[go_sem]);(try rw[aq (by omega) (by omega)]);(repeat'(first|refine And.intro ?_ ?_|exact .inr rfl|exact .inr (aM rfl)|(simp;done)));done)
  |(refine⟨(i+1,os++[x],true),?_,⟨by show i+1≤l.length;omega,Hl hx h2 (by assumption),uk h3 hx (by(try clear hK);simp_all),by show(os++[x]).length≤2*(i+1);simp only[List.length_append,List.length_cons,List.length_nil];omega⟩,by show l.length-(i+1)<l.length-i;omega⟩
    (try simp only[go_sem]);(try rw[aq (by omega) (by omega)]);(repeat'(first|refine And.intro ?_ ?_|exact .inr rfl|exact .inr (aM rfl)|(simp;done)));done)
  |(refine⟨(i+1,os++[x],false),?_,⟨by show i+1≤l.length;omega,MG hx h2 (by assumption) (by assumption),uk h3 hx (by(try clear hK);simp_all),by show(os++[x]).length≤2*(i+1);simp only[List.length_append,List.length_cons,List.length_nil];omega⟩,by show l.length-(i+1)<l.length-i;omega⟩
    (try simp only[go_sem]);(try rw[aq (by omega) (by omega)]);(repeat'(first|refine And.intro ?_ ?_|exact .inr rfl|exact .inr (aM rfl)|(simp;done)));done))
 |(
  refine aa.ret ?_
  refine az.is ?_;simp only[go_sem,aB,aE,aF,aA,aC,aD]<;>(first|(rw[Ov hx (by(try clear hK);simp_all)];done)|(rw[Bo (by omega) h2 h3,if_pos (by assumption)];done)|(rw[Bo (by omega) h2 h3,if_neg (by simp[*])];(simp;done))))
 |refine aa.fin (by assumption) ?_)
theorem QE(bk:Bk)(acc sym:Bs)(hr:aQ bk=true):ae E 74 [dn bk,str acc,str sym] (fun r t=>r=bD (cz bk acc sym)∧t=[]):=by
 refine ae.av (n:=107) (rs:=[.cell 6 49]) Tryz.func74 rfl Tryz.ntmps74 rfl ?_
 repeat'(first
 |refine aa.ab fun K hK=>?_
 |(
  refine aa.here 6 25 7 rfl ?_
  obtain⟨f,hb⟩:∃f,bk.ai[i]?=some f:=⟨_,List.getElem?_eq_getElem (by omega)⟩
  have hfa:=j8 hr f (List.mem_of_getElem? hb)
  have hw:IntKind.i64.wrap (0-f.al)= -f.al:=by rw[aq (by omega) (by omega)];omega
  have hm:=JT f.al f.aw
  have hw2:IntKind.i64.wrap (0-(bW f.al f.aw).1)= -(bW f.al f.aw).1:=by rw[aq (by omega) (by omega)];omega
  refine aa.region ?_;simp only[go_sem])
 |(refine aa.region ?_;simp only[go_sem])
 |(refine hK _ ?_;clear hK K)
 |refine aa.block ?_
 |refine aa.cond rfl (fun c=>?_) (fun c=>?_)<;>first|exact Bool.noConfusion c|(try simp only[dD] at c)
 |refine aa.skip ?_
 |(refine aa.exit ?_;simp only[go_sem])
 |(refine ah.one (ym f.al f.aw) (by kernel_rfl) rfl ?_;simp only[go_sem])
 |(refine ah.one (pY qs (by omega)) (by kernel_rfl) rfl ?_;simp only[go_sem])
 |(refine ah.one (pY vs (by omega)) (by kernel_rfl) rfl ?_;simp only[go_sem])
 |(refine aH.bY (fun h=>?_) (fun h=>?_)<;>simp only[h,go_sem]<;>(try simp only[dD] at h))
 |(refine aH.split (fun h=>?_) (fun h=>?_)<;>simp only[h,go_sem]<;>(try simp only[dD] at h))
 |(refine aG.bA (by assumption) ?_;(try simp only[go_sem]))
 |((with_reducible refine And.intro ?_ ?_);(focus(first|omega|(simp;done)));(try simp only[hb,go_sem]))
 |(
  refine aa.here 4 18 5 rfl ?_
  refine aa.fb 7 1 rfl ?_
  refine aa.fb 8 1 rfl ?_
  simp only[go_sem]
  refine aa.b6 (ι:=Nat×List Int×List Int×Bool) [11,12,13,18,19,20,21,22,23,24,25,26,27,28,29,30,31,32,33,34,35,36,37,38,39,40,41,42,43,44,45,46,47,48,49,50,51,52,53,54,55,56,57,58,59,60,61,62,63,64,65,66,67,68,69,70,71,72,73,74,75,76,77,78,79] (fun⟨i,qs,vs,ov⟩=>[(10,i64 i),(7,.sl (some 0) 1 (qs.map i64)),(8,.sl (some 1) 1 (vs.map i64)),(9,bl ov)]) (fun⟨i,qs,vs,ov⟩=>[some [.agg [aR bk.af,bZ bk.ai,.sl none 1 (bk.ids.map str),i64 bk.clock,i64 bk.bad]],some [.agg [str [],str [],i64 0,i64 0,bl false]]]) (fun⟨i,qs,vs,ov⟩=>[qs.length,vs.length]) (fun⟨i,qs,vs,ov⟩=>GR bk acc sym i qs vs ov) (fun⟨i,qs,vs,ov⟩=>bk.ai.length-i) ((0,[],[],false)) ?_ ?_ ?_
  ·(try simp only[go_sem]);(repeat'(first|refine And.intro ?_ ?_|trivial|exact .inr (aM rfl)));done
  ·exact GR.zero
  rintro⟨i,qs,vs,ov⟩ hg
  simp only[go_sem]
  have h256:=se hr
  have hgl:=hg.lens hr)
 |(
  first
  |(refine⟨(i+1,qs,vs,ov),?_,hg.no hb (by first|exact p5 (by assumption)|exact qK (by assumption)|exact rB (by assumption)),by show bk.ai.length-(i+1)<bk.ai.length-i;omega⟩
    (try simp only[go_sem,hw,hw2, *]);(try rw[aq (by omega) (by omega)]);(repeat'(first|refine And.intro ?_ ?_|exact .inr rfl|trivial|exact .inr (aM rfl)));done)
  |(refine⟨(i+1,qs++[f.al],vs++[(bW f.al f.aw).1],true),?_,hg.yes hb ⟨by assumption,by assumption,by assumption⟩ (oc (by assumption)) (y7 (by assumption)) (by rw[‹ov=true›];rfl),by show bk.ai.length-(i+1)<bk.ai.length-i;omega⟩
    (try simp only[go_sem,hw,hw2, *]);(try rw[aq (by omega) (by omega)]);(repeat'(first|refine And.intro ?_ ?_|exact .inr rfl|trivial|exact .inr (aM rfl)|(simp;done)));done)
  |(refine⟨(i+1,qs++[f.al],vs++[(bW f.al f.aw).1],!(bW f.al f.aw).2),?_,hg.yes hb ⟨by assumption,by assumption,by assumption⟩ (oc (by assumption)) (y7 (by assumption)) (by rw[‹ov=false›];simp[Bf]),by show bk.ai.length-(i+1)<bk.ai.length-i;omega⟩
    (try simp only[go_sem,hw,hw2, *]);(try rw[aq (by omega) (by omega)]);(repeat'(first|refine And.intro ?_ ?_|exact .inr rfl|trivial|exact .inr (aM rfl)|(simp;done)));done)
  |(refine⟨(i+1,qs++[-f.al],vs++[-(bW f.al f.aw).1],true),?_,hg.yes hb ⟨by assumption,by assumption,by assumption⟩ (mT (by assumption)) (vd (by assumption)) (by rw[‹ov=true›];rfl),by show bk.ai.length-(i+1)<bk.ai.length-i;omega⟩
    (try simp only[go_sem,hw,hw2, *]);(try rw[aq (by omega) (by omega)]);(repeat'(first|refine And.intro ?_ ?_|exact .inr rfl|trivial|exact .inr (aM rfl)|(simp;done)));done)
  |(refine⟨(i+1,qs++[-f.al],vs++[-(bW f.al f.aw).1],!(bW f.al f.aw).2),?_,hg.yes hb ⟨by assumption,by assumption,by assumption⟩ (mT (by assumption)) (vd (by assumption)) (by rw[‹ov=false›];simp[Bf]),by show bk.ai.length-(i+1)<bk.ai.length-i;omega⟩
    (try simp only[go_sem,hw,hw2, *]);(try rw[aq (by omega) (by omega)]);(repeat'(first|refine And.intro ?_ ?_|exact .inr rfl|trivial|exact .inr (aM rfl)|(simp;done)));done))
 |(
  refine aa.ret ?_
  refine az.is ?_;simp only[go_sem,aB,aE,aF,aA,aC,aD]<;>(first|(rw[tK hg hr (by omega) (.inl (by assumption))];simp;done)|(rw[tK hg hr (by omega) (.inr (.inl (by assumption)))];simp;done)|(rw[tK hg hr (by omega) (.inr (.inr (by assumption)))];simp;done)|(rw[Gn hg hr (by omega) (by assumption) (by assumption) (by assumption)];simp;done)))
 |refine aa.fin (by assumption) ?_)
theorem DE(bk:Bk)(ho:bk.af.length≤1000000)(hf:bk.ai.length≤1000000)(hi:bk.ids.length≤1000000):ae E 59 [dn bk] (fun r t=>r=eb (cm bk)∧t=[]):=by
 refine ae.av (n:=32) (rs:=[.tmp 2]) Tryz.func59 rfl Tryz.ntmps59 rfl ?_
 repeat'(first
 |refine aa.ab fun K hK=>?_
 |(
  refine aa.here 7 15 17 rfl ?_
  obtain⟨f,hb⟩:∃f,bk.ai[i]?=some f:=⟨_,List.getElem?_eq_getElem (by omega)⟩
  have hn:(dS bk)[i]?=some (f.acc,f.sym):=by unfold dS;rw[List.getElem?_map,hb];rfl
  refine aa.bc [0,1,2,3,4,5,6,7,8,9,10,11,12,13,14,15,16] [] (by kernel_rfl) (by kernel_rfl) rfl ?_;simp only[go_sem])
 |(refine aa.region ?_;simp only[go_sem])
 |(refine hK _ ?_;clear hK K)
 |refine aa.block ?_
 |refine aa.cond rfl (fun c=>?_) (fun c=>?_)<;>(try simp only[dD] at c)
 |refine aa.skip ?_
 |(refine aa.exit ?_;simp only[go_sem])
 |(refine ah.one (qJ bk (by omega) (by omega) (by omega)) (by kernel_rfl) rfl ?_;simp only[go_sem])
 |(refine ah.one (QE bk f.acc f.sym hr) (by kernel_rfl) rfl ?_;simp only[go_sem])
 |(refine ah.one (Bh (fI (fun n=>cz bk n.1 n.2) ((dS bk).take i)) (cz bk f.acc f.sym) (by omega)) (by kernel_rfl) rfl ?_;simp only[go_sem])
 |(refine aG.bA (by assumption) ?_;(try simp only[go_sem]))
 |((with_reducible refine And.intro ?_ ?_);(focus((simp;done)));(try simp only[hb,go_sem]))
 |(
  refine aa.here 5 8 5 rfl ?_
  refine aa.AU 3 5 rfl ?_
  simp only[go_sem]
  refine aa.b6 (ι:=Nat) [8,9,10,11,12,13,14,15,16,17,18,19,20,21,22,23,24,25,26,27,28,29,30] (fun(i:Nat)=>[(4,i64 i),(3,eb (fI (fun n=>cz bk n.1 n.2) ((dS bk).take i)))]) (fun(i:Nat)=>[some [.agg [aR bk.af,bZ bk.ai,.sl none 1 (bk.ids.map str),i64 bk.clock,i64 bk.bad]]]) (fun(i:Nat)=>[]) (fun(i:Nat)=>i≤bk.ai.length) (fun(i:Nat)=>bk.ai.length-i) (0) ?_ ?_ ?_
  ·(try simp only[go_sem]);(repeat'(first|refine And.intro ?_ ?_|exact .inr rfl|exact .inr (aM rfl)));done
  ·exact Nat.zero_le _
  rintro i h1
  simp only[go_sem]
  have hr:aQ bk=true:=by assumption
  have hpl:=A2 (fun n=>cz bk n.1 n.2) ((dS bk).take i)
  have hnl:((dS bk).take i).length≤i:=by rw[List.length_take];omega)
 |(
  refine⟨i+1,?_,?_,?_⟩
  ·(try simp only[go_sem]);(try rw[aq (by omega) (by omega)]);(try rw[Qk hn]);(repeat'(first|refine And.intro ?_ ?_|exact .inr rfl|exact .inr (aM rfl)));done
  ·omega
  ·(try simp only[]);omega)
 |(
  refine aa.ret ?_
  refine az.is ?_;simp only[go_sem,aB,aE,aF,aA,aC,aD]<;>(first|(rw[OQ (by assumption)];exact trivial)|(rw[List.take_of_length_le (by simp only[dS,List.length_map];omega),HA hr];done)))
 |refine aa.fin (by assumption) ?_)
theorem CA(l:List Po)(hl:l.length≤1000000):ae E 19 [eb l] (fun r t=>r=bl (ck l)∧t=[]):=by
 refine ae.av (n:=67) (rs:=[.tmp 2]) Tryz.func19 rfl Tryz.ntmps19 rfl ?_
 repeat'(first
 |refine aa.ab fun K hK=>?_
 |(
  refine aa.here 4 10 57 rfl ?_
  obtain⟨x,hx⟩:∃x,l[i]?=some x:=⟨_,List.getElem?_eq_getElem (by omega)⟩
  refine aa.I5 [0,1,2,3,4,5,6,7,8,9,10,11,12,13,14,15,16,17,18,19,20,21,22,23,24,25,26,27,28,29,30,31,32,33,34,35,36,37,38,39,40,41,42,43,44,45,46,47,48,49,50,51,52,53,54,55,56] ([[],[0],[0,1],[0,1,2],[0,1,2],[0,1,2,4],List.range 6,List.range 7,[0,1,2],[0,1,2],[0,1,2,8,9],[0,1,2,8,9,10],List.range 12,List.range 13,List.range 14,List.range 15,List.range 16,List.range 16,List.range 18,List.range 19,List.range 20,List.range 21,List.range 22,List.range 23,List.range 24,List.range 25,List.range 25,List.range 27,List.range 28,List.range 29,List.range 30,List.range 31,List.range 32,List.range 33,List.range 34,List.range 34,List.range 36,List.range 37,List.range 38,List.range 39,List.range 40,List.range 40,List.range 42,List.range 43,List.range 44,List.range 45,List.range 46,List.range 47,List.range 47,List.range 49,List.range 50,List.range 51,List.range 52,List.range 53,List.range 54,List.range 55,List.range 56]) [] (by kernel_rfl) (by kernel_rfl) (by decide) rfl ?_;simp only[go_sem])
 |(refine aa.region ?_;simp only[go_sem])
 |(refine hK _ ?_;clear hK K)
 |refine aa.block ?_
 |refine aa.cond rfl (fun c=>?_) (fun c=>?_)<;>first|exact Bool.noConfusion c|(try simp only[dD] at c)
 |refine aa.skip ?_
 |(refine aa.exit ?_;simp only[go_sem])
 |(refine ah.one (zP b x) (by kernel_rfl) rfl ?_;simp only[go_sem])
 |(refine ah.one (mc x.al) (by kernel_rfl) rfl ?_;simp only[go_sem])
 |(refine ah.one (mc x.value) (by kernel_rfl) rfl ?_;simp only[go_sem])
 |(refine aH.split (fun h=>?_) (fun h=>?_)<;>simp only[h,go_sem]<;>(try simp only[dD] at h))
 |(refine aG.bA (by assumption) ?_;(try simp only[go_sem]))
 |((first|refine aG.nth ?_ (fun b hb=>?_)|with_reducible refine And.intro ?_ ?_);(focus(first|(rw[aq (by omega) (by omega)];omega)|(simp;done)));(try simp only[hb,go_sem]))
 |(
  refine aa.here 2 4 4 rfl ?_
  refine aa.cr (ι:=Nat) [2,4,5,6,7,8,9,10,11,12,13,14,15,16,17,18,19,20,21,22,23,24,25,26,27,28,29,30,31,32,33,34,35,36,37,38,39,40,41,42,43,44,45,46,47,48,49,50,51,52,53,54,55,56,57,58,59,60,61,62,63,64,65,66] (fun(i:Nat)=>[(3,i64 i)]) (fun(i:Nat)=>i≤l.length∧∀k,k<i→jk l k=true) (fun(i:Nat)=>l.length-i) (0) ?_ ?_ ?_
  ·(try simp only[go_sem]);(repeat'(first|fail));done
  ·exact⟨by omega,fun k hk=>by omega⟩
  rintro i ⟨h1,h3⟩
  simp only[go_sem])
 |(
  refine⟨i+1,?_,?_,?_⟩
  ·(try simp only[go_sem]);(try rw[aq (by omega) (by omega)]);(repeat'(exact .inr rfl));done
  ·exact⟨by omega,re h3 (by first|exact yJ hx (by omega) (by first|exact ra (by assumption) (by assumption) (by assumption)|exact rU (by assumption) (by assumption) (by assumption) (by assumption))|(rw[lh (by omega) (by omega)] at hb;exact zu hx hb (by first|exact ra (by assumption) (by assumption) (by assumption)|exact rU (by assumption) (by assumption) (by assumption) (by assumption)) (LV (by assumption))))⟩
  ·(try simp only[]);omega)
 |(
  refine aa.ret ?_
  refine az.is ?_;simp only[go_sem,aB,aE,aF,aA,aC,aD]<;>(first|(rw[pU hx (Af hx (by first|exact xy (by assumption)|exact wi (by assumption)|exact pQ (by assumption) (.inl (by assumption))|exact pQ (by assumption) (.inr (by assumption))))];done)|(rw[lh (by omega) (by omega)] at hb;rw[pU hx (Cg hx (by omega) hb (TJ (by assumption)))];done)|(rw[xL (by omega) h3];done)))
 |refine aa.fin (by assumption) ?_)
end Go.Proofs.YtajeeghgiilhiaaGreat
end
