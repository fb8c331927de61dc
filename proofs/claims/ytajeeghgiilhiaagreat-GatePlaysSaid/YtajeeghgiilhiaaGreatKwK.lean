/- Texts of one chain, put together (G4, Ln, G5, G6, G7, G8, GtB, Lo, G9, Lu, G10, G11). -/
import Derived.Test.YtajeeghgiilhiaaGreatKwJ
import Derived.Test.YtajeeghgiilhiaaGreatKwI
import Derived.Test.YtajeeghgiilhiaaGreatKwF
import Derived.Laws.MakeOwn
set_option linter.unusedVariables false
set_option linter.unusedSimpArgs false
set_option maxHeartbeats 16000000
set_option maxRecDepth 8000
section
namespace Go.Proofs.YtajeeghgiilhiaaGreat
open Go Go.Abs Go.RowKit Go.Bk
theorem mC(g:Gt)(hg:iH g):ae E 45 [aL g] (fun r t=>r=bl (bf g)∧t=[]):=by
 have hg1:=hg.1
 have hg2:=hg.2.1
 refine ae.av (n:=44) (rs:=[.tmp 2]) Tryz.func45 rfl Tryz.ntmps45 rfl ?_
 repeat'(first
 |refine aa.ab fun K hK=>?_
 |(
  refine aa.here 7 36 4 rfl ?_
  obtain⟨v,hx⟩:∃v,g.ak[i]?=some v:=⟨_,List.getElem?_eq_getElem (by omega)⟩
  refine aa.region ?_;simp only[go_sem])
 |(refine aa.region ?_;simp only[go_sem])
 |(refine hK _ ?_;clear hK K)
 |refine aa.block ?_
 |refine aa.cond rfl (fun c=>?_) (fun c=>?_)<;>first|exact Bool.noConfusion c|(try simp only[dD] at c)
 |refine aa.skip ?_
 |(refine aa.exit ?_;simp only[go_sem])
 |(refine ah.one (qm g.aP hg2) (by kernel_rfl) rfl ?_;simp only[go_sem])
 |(refine ah.one (uH g.now) (by kernel_rfl) rfl ?_;simp only[go_sem])
 |(refine ah.one (uH g.pat) (by kernel_rfl) rfl ?_;simp only[go_sem])
 |(refine ah.one (Dg v g.now (hg.2.2 v (List.mem_of_getElem? hx))) (by kernel_rfl) rfl ?_;simp only[go_sem])
 |(refine aH.bY (fun h=>?_) (fun h=>?_)<;>simp only[h,go_sem]<;>(try simp only[dD] at h))
 |(refine aH.split (fun h=>?_) (fun h=>?_)<;>simp only[h,go_sem]<;>(try simp only[dD] at h))
 |(refine aG.bA (by assumption) ?_;(try simp only[go_sem]))
 |((with_reducible refine And.intro ?_ ?_);(focus((simp;done)));(try simp only[hb,go_sem]))
 |(
  refine aa.here 6 35 1 rfl ?_
  refine aa.cr (ι:=Nat) [2,4,35,36,37,38,39,40,41,42,43] (fun(i:Nat)=>[(34,i64 i)]) (fun(i:Nat)=>i≤g.ak.length∧∀k v,k<i→g.ak[k]?=some v→dg v g.now=true) (fun(i:Nat)=>g.ak.length-i) (0) ?_ ?_ ?_
  ·(try simp only[go_sem]);(repeat'(exact .inr (aM rfl)));done
  ·exact⟨by omega,fun k v hk=>by omega⟩
  rintro i ⟨h1,h3⟩
  simp only[go_sem])
 |(
  refine⟨i+1,?_,?_,?_⟩
  ·(try simp only[go_sem]);(try rw[aq (by omega) (by omega)]);(repeat'(first|refine And.intro ?_ ?_|exact .inr rfl|exact .inr (aM rfl)));done
  ·exact⟨by omega,pT h3 hx (by assumption)⟩
  ·(try simp only[]);omega)
 |(
  refine aa.ret ?_
  refine az.is ?_;simp only[go_sem,aB,aE,aF,aA,aC,aD]<;>(first|(rw[oE (by omega)];done)|(rw[Ag (by assumption)];done)|(rw[yX (by assumption)];done)|(rw[xS (by assumption)];done)|(rw[nf hx (by assumption)];done)|(rw[nR (by omega) (by omega) (by assumption) (by assumption) (by assumption) (i:=i) (by omega) h3];done)))
 |refine aa.fin (by assumption) ?_)
theorem iW(g:Gt)(n:Int)(hg:iH g):ae E 78 [aL g,i64 n] (fun r t=>r=bl (ba g n)∧t=[]):=by
 have hg1:=hg.1
 have hg2:=hg.2.1
 refine ae.av (n:=18) (rs:=[.tmp 4]) Tryz.func78 rfl Tryz.ntmps78 rfl ?_
 repeat'(first
 |refine aa.ab fun K hK=>?_
 |(refine aa.region ?_;simp only[go_sem])
 |(refine hK _ ?_;clear hK K)
 |(refine ah.one (mC g hg) (by kernel_rfl) rfl ?_;simp only[go_sem])
 |(refine aH.split (fun h=>?_) (fun h=>?_)<;>simp only[h,go_sem]<;>(try simp only[dD] at h))
 |((with_reducible refine And.intro ?_ ?_);(focus((simp;done)));(try simp only[hb,go_sem]))
 |(
  refine aa.ret ?_
  refine az.is ?_;simp only[go_sem,aB,aE,aF,aA,aC,aD]<;>(first|(rw[Rm (by omega) (by omega)];done)|(rw[Aq (by omega)];done)|(rw[Ur (by omega)];done))))
theorem wB(v:Vn)(id:Bs)(hv:pR v):ae E 80 [aN v,str id] (fun r t=>r=bl (hasB v.book.af id||hasB v.ar id)∧t=[]):=by
 obtain⟨ho,hf,hi,hs⟩:=hv
 refine ae.av (n:=16) (rs:=[.tmp 4]) Tryz.func80 rfl Tryz.ntmps80 rfl ?_
 repeat'(first
 |refine aa.ab fun K hK=>?_
 |(refine aa.region ?_;simp only[go_sem])
 |(refine hK _ ?_;clear hK K)
 |(refine ah.one (vp v.book.af id ho) (by kernel_rfl) rfl ?_;simp only[go_sem])
 |(refine ah.one (vp v.ar id hs) (by kernel_rfl) rfl ?_;simp only[go_sem])
 |(refine aH.bY (fun h=>?_) (fun h=>?_)<;>simp only[h,go_sem]<;>(try simp only[dD] at h))
 |(
  refine aa.ret ?_
  refine az.is ?_;simp only[go_sem,aB,aE,aF,aA,aC,aD]<;>((simp[*];done))))
theorem zc(g:Gt)(a s:Bs)(hg:iH g):ae E 84 [aL g,str a,str s] (fun r t=>r=wV (jo g a s)∧t=[]):=by
 have hg1:=hg.1
 have hg2:=hg.2.1
 refine ae.av (n:=33) (rs:=[.cell 6 45]) Tryz.func84 rfl Tryz.ntmps84 rfl ?_
 repeat'(first
 |refine aa.ab fun K hK=>?_
 |(
  refine aa.here 4 15 4 rfl ?_
  obtain⟨v,hx⟩:∃v,g.ak[i]?=some v:=⟨_,List.getElem?_eq_getElem (by omega)⟩
  have hv:=hg.2.2 v (List.mem_of_getElem? hx)
  refine aa.region ?_;simp only[go_sem])
 |(refine aa.region ?_;simp only[go_sem])
 |(refine aa.here 5 17 8 rfl ?_;refine aa.bc [0,1,2,3,4,5,6,7] [] (by kernel_rfl) (by kernel_rfl) rfl ?_;simp only[go_sem])
 |(refine aa.here 6 24 8 rfl ?_;refine aa.bc [0,1,2,3,4,5,6,7] [] (by kernel_rfl) (by kernel_rfl) rfl ?_;simp only[go_sem])
 |(refine hK _ ?_;clear hK K)
 |refine aa.block ?_
 |refine aa.cond rfl (fun c=>?_) (fun c=>?_)<;>(try simp only[dD] at c)
 |refine aa.skip ?_
 |(refine aa.exit ?_;simp only[go_sem])
 |(refine ah.one (Cl v.book a s hv.1 hv.2.1 hv.2.2.1) (by kernel_rfl) rfl ?_;simp only[go_sem])
 |(refine ah.one (mW (gE g.ak a s i) (fF v.book a s)) (by kernel_rfl) rfl ?_;simp only[go_sem])
 |(refine ah.one (mW (ec (gE g.ak a s i) (fF v.book a s)) (ke v.ar a s)) (by kernel_rfl) rfl ?_;simp only[go_sem])
 |(refine ah.one (Hq v.ar a s hv.2.2.2) (by kernel_rfl) rfl ?_;simp only[go_sem])
 |(refine aG.bA (by assumption) ?_;(try simp only[go_sem]))
 |((with_reducible refine And.intro ?_ ?_);(focus((simp;done)));(try simp only[hb,go_sem]))
 |(
  refine aa.here 3 14 1 rfl ?_
  refine aa.b6 (ι:=Nat) [9,14,15,16,17,18,19,20,21,22,23,24,25,26,27,28,29,30,31] (fun(i:Nat)=>[(13,i64 i)]) (fun(i:Nat)=>[some [.agg [eD g.ak,bL g.aP,bl g.kill,i64 g.now,i64 g.pat]],some [.agg [i64 0,i64 0]],some [.agg [i64 (gE g.ak a s i).1,i64 (gE g.ak a s i).2]]]) (fun(i:Nat)=>[]) (fun(i:Nat)=>i≤g.ak.length) (fun(i:Nat)=>g.ak.length-i) (0) ?_ ?_ ?_
  ·(try simp only[go_sem]);(repeat'(first|refine And.intro ?_ ?_|trivial|exact .inr (aM rfl)|exact .inr ⟨rfl,aM rfl⟩));done
  ·omega
  rintro i h1
  simp only[go_sem])
 |(
  refine⟨i+1,?_,by omega,by omega⟩
  rw[wC hx]
  (try simp only[go_sem]);(try rw[aq (by omega) (by omega)]);(repeat'(first|refine And.intro ?_ ?_|exact .inr rfl|trivial|exact .inr (aM rfl)));done)
 |(
  refine aa.ret ?_
  refine az.is ?_;simp only[go_sem,aB,aE,aF,aA,aC,aD]<;>((rw[show jo g a s=gE g.ak a s i from(xC (by omega)).symm];simp;done)))
 |refine aa.fin (by assumption) ?_)
theorem OB(g:Gt)(a s:Bs)(hg:iH g):ae E 31 [aL g,str a,str s] (fun r t=>r=wV (if bf g then jo g a s else(0,0))∧t=[]):=by
 have hg1:=hg.1
 have hg2:=hg.2.1
 refine ae.av (n:=15) (rs:=[.cell 6 45]) Tryz.func31 rfl Tryz.ntmps31 rfl ?_
 repeat'(first
 |refine aa.ab fun K hK=>?_
 |(refine aa.region ?_;simp only[go_sem])
 |(refine hK _ ?_;clear hK K)
 |refine aa.cond rfl (fun c=>?_) (fun c=>?_)<;>(try simp only[dD] at c)
 |refine aa.skip ?_
 |(refine ah.one (mC g hg) (by kernel_rfl) rfl ?_;simp only[go_sem])
 |(refine ah.one (zc g a s hg) (by kernel_rfl) rfl ?_;simp only[go_sem])
 |(
  refine aa.ret ?_
  refine az.is ?_;simp only[go_sem,aB,aE,aF,aA,aC,aD]<;>(first|(rw[if_pos (by assumption)];simp;done)|(rw[if_neg (by simp[*])];simp;done))))
theorem yQ(g:Gt)(n:Nat)(v:Vn)(o:Od)(hg:iH g)(hx:g.ak[n]?=some v)(hsm:v.book.af.length+v.ar.length≤64):ae E 81 [aL g,i64 n,aW o] (fun r t=>r=i64 (df g v o)∧t=[]):=by
 have hg1:=hg.1
 have hg2:=hg.2.1
 have hn:=bI hx
 refine ae.av (n:=35) (rs:=[.tmp 6]) Tryz.func81 rfl Tryz.ntmps81 rfl ?_
 repeat'(first
 |refine aa.ab fun K hK=>?_
 |(
  refine aa.here 4 20 3 rfl ?_
  have hst:=sV v g.now g.pat
  refine aa.region ?_;simp only[go_sem])
 |(refine aa.region ?_;simp only[go_sem])
 |(refine aa.here 3 10 11 rfl ?_;refine aa.bc [0,1,2,3,4,5,6,7,8,9,10] [] (by kernel_rfl) (by kernel_rfl) rfl ?_;simp only[go_sem])
 |(refine aa.here 6 25 11 rfl ?_;refine aa.bc [0,1,2,3,4,5,6,7,8,9,10] [] (by kernel_rfl) (by kernel_rfl) rfl ?_;simp only[go_sem])
 |(refine hK _ ?_;clear hK K)
 |refine aa.cond rfl (fun c=>?_) (fun c=>?_)<;>(try simp only[dD] at c)
 |refine aa.skip ?_
 |(refine ah.one (Eo v g.now g.pat hsm) (by kernel_rfl) rfl ?_;simp only[go_sem])
 |(refine ah.one (Kt _ _) (by kernel_rfl) rfl ?_;simp only[go_sem])
 |(refine ah.one (zc g o.acc o.sym hg) (by kernel_rfl) rfl ?_;simp only[go_sem])
 |(refine ah.one (K0 g.aP o (jo g o.acc o.sym) hg2) (by kernel_rfl) rfl ?_;simp only[go_sem])
 |(refine aG.bA (by assumption) ?_;(try simp only[go_sem]))
 |(
  refine aa.ret ?_
  refine az.is ?_;simp only[go_sem,aB,aE,aF,aA,aC,aD]<;>(first|(unfold df;simp[*];done)|(unfold df;rw[aq (by omega) (by omega)];simp[*];done))))
end Go.Proofs.YtajeeghgiilhiaaGreat
end
section
namespace Go.Abs
open Go Go.RowKit
theorem fU{id:Nat}{Q:Exit→St→Prop}{s:St}:qa id Q .ret s=Q .ret s:=rfl
theorem fJ{n:St→Prop}{Q:Exit→St→Prop}{s:St}:jb n Q .ret s=Q .ret s:=rfl
theorem ae.vr{E:Env}{f:FuncId}{args:List AV}{k n t0:Nat}{es:List AV}(h:ae E f args fun r t=>r= .sl (some t0) k es∧t=[n]):ae E f args fun r t=>r= .sl none k es∧t=[]:=
 fun w im vs h0 hg h1 h2=>(h w im vs h0 hg h1 h2).mono fun _ _ ⟨v,r,tks,im',a,b,d,e,f,g,i,j⟩=>by
  obtain⟨rfl,_⟩:=j
  exact⟨v,_,[],im',a,b,d,e,f,⟨fun i T b h=>by simp at h,fun i j T U b d h=>by simp at h⟩,.base i.fu,rfl,rfl⟩
end Go.Abs
end
section
namespace Go.Proofs.YtajeeghgiilhiaaGreat
open Go Go.Abs Go.RowKit Go.Bk
theorem dC{no nt m:Nat}{l:List Vn}:∀es,some (l.map aN++spare 8 m)=some es→∀e∈es,∀z∈e.leaves,z.bF no nt=true:=lO fun x z hz=>by
 simp only[AV.leaves,List.mem_cons,List.not_mem_nil,or_false] at hz
 rcases hz with rfl|rfl|rfl|rfl|rfl|rfl|rfl|rfl<;>rfl
theorem kI(σ:Nat→Option Nat)(l:List Vn)(m:Nat):(l.map aN++spare 8 m).map (AV.b7 σ)=l.map aN++spare 8 m:=qx fun _=>rfl
theorem eY{l:List Vn}{m:Nat}:(l.map aN++spare 8 m).take l.length=l.map aN:=List.take_left' (by simp)
theorem fa(l:List Vn):∀e∈l.map aN,∀x∈e.leaves,x.dL=some x:=by
 intro e he x hx
 obtain⟨o,_,rfl⟩:=List.mem_map.1 he
 simp only[AV.leaves,List.mem_cons,List.not_mem_nil,or_false] at hx
 rcases hx with rfl|rfl|rfl|rfl|rfl|rfl|rfl|rfl<;>rfl
theorem cN{l:List Vn}{i m:Nat}{v:Vn}(h:l[i]?=some v):(l.map aN++spare 8 m).set i (.agg [aR v.book.af,bZ v.book.ai,.sl none 1 (v.book.ids.map str),i64 v.book.clock,i64 v.book.bad,aR v.ar,i64 v.last,bl v.br])=l.map aN++spare 8 m:=by
 obtain⟨hi,rfl⟩:=List.getElem?_eq_some_iff.1 h
 rw[List.set_append_left _ _ (by simpa using hi)]
 congr 1
 apply List.ext_getElem (by simp)
 intro k h1 h2
 rw[List.getElem_set]
 split
 ·rename_i e;subst e;simp
 ·rfl
theorem kS{k:Nat}:spare k 0=[]:=rfl
theorem jK(l:List Dn)(hl:l.length≤1000000):ae E 127 [.sl none 9 (l.map bQ)] (fun r t=>r= .sl none 9 (l.map bQ)∧t=[]):=(wq l hl).vr
theorem jU(l:List Bs)(hl:l.length≤1000000):ae E 128 [.sl none 1 (l.map str)] (fun r t=>r= .sl none 1 (l.map str)∧t=[]):=(ux l hl).vr
theorem rW(l:List Lm)(hl:l.length≤1000000):ae E 145 [.sl none 6 (l.map bd)] (fun r t=>r= .sl (some 0) 6 (l.map bd)∧t=[l.length]):=by
 refine ae.av (n:=8) (rs:=[.tmp 2]) Tryz.func145 rfl Tryz.ntmps145 rfl ?_
 repeat'(first
 |refine aa.ab fun K hK=>?_
 |(refine aa.region ?_;simp only[go_sem])
 |(refine hK _ ?_;clear hK K)
 |refine aa.cond rfl (fun c=>?_) (fun c=>?_)<;>(try simp only[dD] at c)
 |refine aa.skip ?_
 |((with_reducible refine And.intro ?_ ?_);(focus(first|omega|(simp;done)));(try simp only[hb,go_sem]))
 |(
  refine aa.ret ?_
  simp only[go_sem]
  first
  |(have he:l=[]:=by
     apply Classical.byContradiction;intro hne
     have:=hbb (by simpa using hne)
     rw[this] at c;exact absurd c (by simp)
    exact⟨[(false,6)],.sl (some 0) 6 [],rfl,rfl,by rw[he];rfl,by rw[he];rfl⟩)
  |exact⟨[(true,0)],.sl (some 0) 6 _,rfl,⟨rfl,rfl,rfl⟩,by simp,by simp[gr]⟩)
 |(refine fun(bb:Bool) (hbb:_→bb=false)=>?_))
theorem kQ(l:List Lm)(hl:l.length≤1000000):ae E 145 [.sl none 6 (l.map bd)] (fun r t=>r= .sl none 6 (l.map bd)∧t=[]):=(rW l hl).vr
theorem lU(g:Gt)(hg:bO g):ae E 76 [aL g] (fun r t=>r=aL g∧t=[]):=by
 have hg1:=hg.1
 have hg2:=hg.2.1
 refine ae.av (n:=63) (rs:=[.cell 2 58]) Tryz.func76 rfl Tryz.ntmps76 rfl ?_
 repeat'(first
 |(
  refine aa.jJ hc1 ?_
  first
  |(refine aa.ik [0,1,3] (by decide) rfl rfl ?_;simp only[go_sem,kI,List.length_map];refine aa.weaken ?_ (hc1 m);(try simp only[go_sem]);(repeat'(first|refine And.intro ?_ ?_|trivial|exact .inr (aM rfl)|exact .inr dC));done)
  |(have he:g.ak=[]:=Classical.byContradiction fun hne=>by
     have:=hbb (by simpa using hne)
     simp_all
    refine aa.kg 0 0 8 _ rfl rfl ?_
    simp only[go_sem]
    refine aa.weaken ?_ (hc1 0);(try simp only[go_sem,he,List.length_nil,List.map_nil,kS]);(repeat'(first|refine And.intro ?_ ?_|trivial|exact .inr (aM rfl)));done))
 |refine aa.ab fun K hK=>?_
 |(
  refine aa.here 1 5 5 rfl ?_
  first
  |(have h0:=hc1;clear h0;refine aa.bq ?_;refine aj.at 5 2 rfl ?_;simp only[go_sem])
  |(refine aa.cutAt (ι:=Nat) [5,6,7,8] (fun(m:Nat)=>[]) (fun(m:Nat)=>[some [.agg [.mu 2 8 0 g.ak.length (g.ak.length+m),bL g.aP,bl g.kill,i64 g.now,i64 g.pat]],some [.agg [.aK,.aK,bl false,i64 0,i64 0]],some (g.ak.map aN++spare 8 m)]) (fun(m:Nat)=>[]) hK (fun m=>?_) (fun hc1=>?_)))
 |(refine Cut.mk ?_;simp only[go_sem])
 |(
  refine aa.here 5 15 5 rfl ?_
  obtain⟨v,hx⟩:∃v,g.ak[i]?=some v:=⟨_,List.getElem?_eq_getElem (by omega)⟩
  have hv:=hg.2.2 v (List.mem_of_getElem? hx)
  have hx2:(g.ak.map aN++spare 8 m)[i]?=some (aN v):=by rw[List.getElem?_append_left (by simpa using bI hx),List.getElem?_map,hx];rfl
  refine aa.region ?_;simp only[go_sem])
 |(
  refine aa.here 7 29 11 rfl ?_
  (try rw[cN hx])
  refine aa.region ?_;simp only[go_sem])
 |(
  refine aa.here 8 39 11 rfl ?_
  (try rw[cN hx])
  refine aa.region ?_;simp only[go_sem])
 |(
  refine aa.here 9 49 9 rfl ?_
  (try rw[cN hx])
  refine aa.region ?_;simp only[go_sem])
 |(
  refine aa.here 10 57 2 rfl ?_
  (try rw[cN hx])
  refine aa.region ?_;simp only[go_sem])
 |(
  refine aa.here 12 62 2 rfl ?_
  refine aa.eL 0 0 (jd:=2) (k:=8) (n:=g.ak.length) (cap:=g.ak.length+m) _ (g.ak.map aN++spare 8 m) (by decide) rfl rfl rfl (by simp[cA]) (by rw[eY];exact fa _) ?_
  rw[eY]
  simp only[go_sem]
  refine aa.region ?_;simp only[go_sem])
 |(
  refine aa.here 3 5 4 rfl ?_
  refine aa.bq ?_
  refine aj.jf eA ?_
  simp only[go_sem]
  refine aj.at 3 1 rfl ?_
  simp only[go_sem]
  refine aj.jO jl eA rfl rfl rfl (by simp;omega) (by simp;omega) ?_
  intro m
  simp only[go_sem]
  refine aj.of ?_
  simp only[go_sem])
 |(refine aa.region ?_;simp only[go_sem])
 |(refine hK _ ?_;clear hK K)
 |refine aa.block ?_
 |refine aa.cond rfl (fun c=>?_) (fun c=>?_)<;>(try simp only[dD] at c)
 |refine aa.skip ?_
 |(refine aa.exit ?_;simp only[go_sem])
 |(refine ah.one (eV v.book.af hv.1) (by kernel_rfl) rfl ?_;simp only[go_sem])
 |(refine ah.one (eV v.ar hv.2.2.2) (by kernel_rfl) rfl ?_;simp only[go_sem])
 |(refine ah.one (jK v.book.ai hv.2.1) (by kernel_rfl) rfl ?_;simp only[go_sem])
 |(refine ah.one (jU v.book.ids hv.2.2.1) (by kernel_rfl) rfl ?_;simp only[go_sem])
 |(refine ah.one (kQ g.aP hg2) (by kernel_rfl) rfl ?_;simp only[go_sem])
 |(refine aj.call (rs:=[.tmp 2]) Tryz.func144 rfl Tryz.ntmps144 rfl (by kernel_rfl) rfl rfl ?_;simp only[go_sem])
 |(refine aG.bA (by assumption) ?_;(try simp only[go_sem]))
 |(refine aG.fT (by assumption) ?_;(try simp only[go_sem]))
 |((with_reducible refine And.intro ?_ ?_);(focus(first|omega|(simp;done)));(try simp only[hb,go_sem]))
 |(
  refine aa.here 3 13 1 rfl ?_
  refine aa.cr (ι:=Nat) [3,4,13,14,15,16,17,18,19,20,21,22,23,24,25,26,27,28,29,30,31,32,33,34,35,36,37,38,39,40,41,42,43,44,45,46,47,48,49,50,51,52,53,54,55,56,57] (fun(i:Nat)=>[(12,i64 i)]) (fun(i:Nat)=>i≤g.ak.length) (fun(i:Nat)=>g.ak.length-i) (0) ?_ ?_ ?_
  ·(try simp only[go_sem]);(repeat'(first|refine And.intro ?_ ?_|trivial|exact .inr (aM rfl)|exact .inr dC));done
  ·omega
  rintro i h1
  simp only[go_sem])
 |(
  refine⟨i+1,?_,?_,?_⟩
  ·(try simp only[go_sem]);(try rw[aq (by omega) (by omega)]);(repeat'(first|refine And.intro ?_ ?_|exact .inr rfl|trivial|exact .inr (aM rfl)|exact .inr dC));done
  ·omega
  ·(try simp only[]);omega)
 |(
  refine aa.ret ?_
  refine az.is ?_;simp only[go_sem,aB,aE,aF,aA,aC,aD]<;>(first|fail))
 |(refine aa.ret ?_;refine bG.ret rfl ?_;simp only[go_sem])
 |(refine aa.ret ?_;simp only[fU,fJ];refine bG.ret rfl ?_;simp only[go_sem])
 |(refine aj.of ?_;simp only[go_sem])
 |((fail_if_success(have:=hbb));(with_reducible intro bb hbb))
 |refine aa.fin (by assumption) ?_)
theorem PG(g:Gt)(on:Bool)(hg:bO g):ae E 88 [aL g,bl on] (fun r t=>r= .ax [aL (kP g on).1,i64 (kP g on).2]∧t=[]):=by
 have hgi:=hg.fit
 refine ae.av (n:=16) (rs:=[.cell 4 58,.tmp 5]) Tryz.func88 rfl Tryz.ntmps88 rfl ?_
 repeat'(first
 |refine aa.ab fun K hK=>?_
 |(refine aa.region ?_;simp only[go_sem])
 |(refine hK _ ?_;clear hK K)
 |refine aa.cond rfl (fun c=>?_) (fun c=>?_)<;>(try simp only[dD] at c)
 |refine aa.skip ?_
 |(refine ah.one (lU g hg) (by kernel_rfl) rfl ?_;simp only[go_sem])
 |(refine ah.one (mC g hgi) (by kernel_rfl) rfl ?_;simp only[go_sem])
 |(
  refine aa.ret ?_
  refine az.is ?_;simp only[go_sem,aB,aE,aF,aA,aC,aD]<;>(first|(rw[uJ (by assumption)];simp;done)|(rw[B0 (by assumption)];simp;done))))
theorem Xj(g:Gt)(now:Int)(hg:bO g):ae E 86 [aL g,i64 now] (fun r t=>r= .ax [aL (eI g now).1,i64 (eI g now).2]∧t=[]):=by
 have hgi:=hg.fit
 refine ae.av (n:=26) (rs:=[.cell 4 58,.tmp 5]) Tryz.func86 rfl Tryz.ntmps86 rfl ?_
 repeat'(first
 |refine aa.ab fun K hK=>?_
 |(refine aa.region ?_;simp only[go_sem])
 |(refine hK _ ?_;clear hK K)
 |refine aa.cond rfl (fun c=>?_) (fun c=>?_)<;>first|exact Bool.noConfusion c|(try simp only[dD] at c)
 |refine aa.skip ?_
 |(refine ah.one (lU g hg) (by kernel_rfl) rfl ?_;simp only[go_sem])
 |(refine ah.one (mC g hgi) (by kernel_rfl) rfl ?_;simp only[go_sem])
 |(refine aH.bY (fun h=>?_) (fun h=>?_)<;>simp only[h,go_sem]<;>(try simp only[dD] at h))
 |(refine aH.split (fun h=>?_) (fun h=>?_)<;>simp only[h,go_sem]<;>(try simp only[dD] at h))
 |(
  refine aa.ret ?_
  refine az.is ?_;simp only[go_sem,aB,aE,aF,aA,aC,aD]<;>(first|(rw[E6 (by assumption) (by omega) (by omega)];simp;done)|(rw[OH (by assumption)];simp;done)|(rw[Eb (by omega)];simp;done))))
theorem fw{l:List Vn}{k m:Nat}{v:Vn}:((l.set k v).map aN++spare 8 m).take l.length=(l.set k v).map aN:=List.take_left' (by simp)
theorem lE{l:List Vn}{k m:Nat}{v:Vn}(h:k<l.length):(l.map aN++spare 8 m).set k (aN v)=(l.set k v).map aN++spare 8 m:=by
 rw[List.set_append_left _ _ (by simpa using h),List.map_set]
theorem O7(g:Gt)(n:Int)(b:Bool)(hg:bO g):ae E 89 [aL g,i64 n,bl b] (fun r t=>r= .ax [aL (iw g n b).1,i64 (iw g n b).2]∧t=[]):=by
 have hgi:=hg.fit
 have hg1:=hg.1
 have hg2:=hg.2.1
 refine ae.av (n:=23) (rs:=[.cell 6 58,.tmp 7]) Tryz.func89 rfl Tryz.ntmps89 rfl ?_
 repeat'(first
 |(
  refine aa.jJ hc1 ?_
  first
  |(refine aa.ik [0,1,2,3,5] (by decide) rfl rfl ?_;simp only[go_sem,kI,List.length_map];refine aa.weaken ?_ (hc1 m);(try simp only[go_sem]);(repeat'(first|refine And.intro ?_ ?_|trivial|exact .inr (aM rfl)|exact .inr dC));done)
  |(have he:g.ak=[]:=Classical.byContradiction fun hne=>by
     have:=hbb (by simpa using hne)
     simp_all
    refine aa.kg 2 0 8 _ rfl rfl ?_
    simp only[go_sem]
    refine aa.weaken ?_ (hc1 0);(try simp only[go_sem,he,List.length_nil,List.map_nil,kS]);(repeat'(first|refine And.intro ?_ ?_|trivial|exact .inr (aM rfl)));done))
 |refine aa.ab fun K hK=>?_
 |(
  refine aa.here 1 5 5 rfl ?_
  first
  |(have h0:=hc1;clear h0;refine aa.bq ?_;refine aj.at 5 2 rfl ?_;simp only[go_sem])
  |(refine aa.cutAt (ι:=Nat) [5,6,7,8] (fun(m:Nat)=>[]) (fun(m:Nat)=>[some [.agg [eD g.ak,bL g.aP,bl g.kill,i64 g.now,i64 g.pat]],some [.agg [.aK,.aK,bl false,i64 0,i64 0]],some [.agg [.mu 4 8 0 g.ak.length (g.ak.length+m),bL g.aP,bl g.kill,i64 g.now,i64 g.pat]],some [.agg [.aK,.aK,bl false,i64 0,i64 0]],some (g.ak.map aN++spare 8 m)]) (fun(m:Nat)=>[]) hK (fun m=>?_) (fun hc1=>?_)))
 |(refine Cut.mk ?_;simp only[go_sem])
 |(
  refine aa.here 3 15 3 rfl ?_
  refine aa.eL 5 0 (jd:=4) (k:=8) (n:=g.ak.length) (cap:=g.ak.length+m) _ (g.ak.map aN++spare 8 m) (by decide) rfl rfl rfl (by simp[cA]) (by rw[eY];exact fa _) ?_
  rw[eY]
  simp only[go_sem]
  refine aa.region ?_;simp only[go_sem])
 |(
  refine aa.here 4 16 7 rfl ?_
  obtain⟨k,v,rfl,hx⟩:=gw (by assumption)
  have hn:=bI hx
  have hx2:(g.ak.map aN++spare 8 m)[k]?=some (aN v):=by rw[List.getElem?_append_left (by simpa using bI hx),List.getElem?_map,hx];rfl
  refine aa.region ?_;simp only[go_sem])
 |(
  refine aa.here 5 22 3 rfl ?_
  rw[show(g.ak.map aN++spare 8 m).set k (.agg [aR v.book.af,bZ v.book.ai,.sl none 1 (v.book.ids.map str),i64 v.book.clock,i64 v.book.bad,aR v.ar,i64 v.last,bl b])=(g.ak.set k ⟨v.book,v.ar,v.last,b⟩).map aN++spare 8 m from lE (v:=⟨v.book,v.ar,v.last,b⟩) hn]
  refine aa.eL 5 0 (jd:=4) (k:=8) (n:=g.ak.length) (cap:=g.ak.length+m) _ ((g.ak.set k ⟨v.book,v.ar,v.last,b⟩).map aN++spare 8 m) (by decide) rfl rfl rfl (by simp[cA]) (by rw[fw];exact fa _) ?_
  rw[fw]
  simp only[go_sem]
  refine aa.region ?_;simp only[go_sem])
 |(
  refine aa.here 5 15 5 rfl ?_
  obtain⟨v,hx⟩:∃v,g.ak[i]?=some v:=⟨_,List.getElem?_eq_getElem (by omega)⟩
  have hv:=hg.2.2 v (List.mem_of_getElem? hx)
  have hx2:(g.ak.map aN++spare 8 m)[i]?=some (aN v):=by rw[List.getElem?_append_left (by simpa using bI hx),List.getElem?_map,hx];rfl
  refine aa.region ?_;simp only[go_sem])
 |(
  refine aa.here 7 29 11 rfl ?_
  (try rw[cN hx])
  refine aa.region ?_;simp only[go_sem])
 |(
  refine aa.here 8 39 11 rfl ?_
  (try rw[cN hx])
  refine aa.region ?_;simp only[go_sem])
 |(
  refine aa.here 9 49 9 rfl ?_
  (try rw[cN hx])
  refine aa.region ?_;simp only[go_sem])
 |(
  refine aa.here 10 57 2 rfl ?_
  (try rw[cN hx])
  refine aa.region ?_;simp only[go_sem])
 |(
  refine aa.here 3 5 4 rfl ?_
  refine aa.bq ?_
  refine aj.jf eA ?_
  simp only[go_sem]
  refine aj.at 3 1 rfl ?_
  simp only[go_sem]
  refine aj.jO jl eA rfl rfl rfl (by simp;omega) (by simp;omega) ?_
  intro m
  simp only[go_sem]
  refine aj.of ?_
  simp only[go_sem])
 |(refine aa.here 1 9 4 rfl ?_;refine aa.bq ?_;refine aj.at 4 1 rfl ?_;simp only[go_sem])
 |(refine aa.region ?_;simp only[go_sem])
 |(refine hK _ ?_;clear hK K)
 |refine aa.block ?_
 |refine aa.cond rfl (fun c=>?_) (fun c=>?_)<;>(try simp only[dD] at c)
 |refine aa.skip ?_
 |(refine aa.exit ?_;simp only[go_sem])
 |(refine ah.one (iW g n hgi) (by kernel_rfl) rfl ?_;simp only[go_sem])
 |(refine ah.one (eV v.book.af hv.1) (by kernel_rfl) rfl ?_;simp only[go_sem])
 |(refine ah.one (eV v.ar hv.2.2.2) (by kernel_rfl) rfl ?_;simp only[go_sem])
 |(refine ah.one (jK v.book.ai hv.2.1) (by kernel_rfl) rfl ?_;simp only[go_sem])
 |(refine ah.one (jU v.book.ids hv.2.2.1) (by kernel_rfl) rfl ?_;simp only[go_sem])
 |(refine ah.one (kQ g.aP hg2) (by kernel_rfl) rfl ?_;simp only[go_sem])
 |(refine aj.call (rs:=[.cell 2 58]) Tryz.func76 rfl Tryz.ntmps76 rfl (by kernel_rfl) rfl rfl ?_;simp only[go_sem])
 |(refine aj.call (rs:=[.tmp 2]) Tryz.func144 rfl Tryz.ntmps144 rfl (by kernel_rfl) rfl rfl ?_;simp only[go_sem])
 |(refine aG.bA (by assumption) ?_;(try simp only[go_sem]))
 |(refine aG.fT (by assumption) ?_;(try simp only[go_sem]))
 |((with_reducible refine And.intro ?_ ?_);(focus(first|omega|(simp;done)));(try simp only[hb,go_sem]))
 |(
  refine aa.here 3 13 1 rfl ?_
  refine aa.cr (ι:=Nat) [3,4,13,14,15,16,17,18,19,20,21,22,23,24,25,26,27,28,29,30,31,32,33,34,35,36,37,38,39,40,41,42,43,44,45,46,47,48,49,50,51,52,53,54,55,56,57] (fun(i:Nat)=>[(12,i64 i)]) (fun(i:Nat)=>i≤g.ak.length) (fun(i:Nat)=>g.ak.length-i) (0) ?_ ?_ ?_
  ·(try simp only[go_sem]);(repeat'(first|refine And.intro ?_ ?_|trivial|exact .inr (aM rfl)|exact .inr dC));done
  ·omega
  rintro i h1
  simp only[go_sem])
 |(
  refine⟨i+1,?_,?_,?_⟩
  ·(try simp only[go_sem]);(try rw[aq (by omega) (by omega)]);(repeat'(first|refine And.intro ?_ ?_|exact .inr rfl|trivial|exact .inr (aM rfl)|exact .inr dC));done
  ·omega
  ·(try simp only[]);omega)
 |(
  refine aa.ret ?_
  refine az.is ?_;simp only[go_sem,aB,aE,aF,aA,aC,aD]<;>(first|(rw[tH (by assumption)];simp;done)|(rw[sG (by assumption) hx];simp[cf];done)))
 |(refine aa.ret ?_;refine bG.ret rfl ?_;simp only[go_sem])
 |(refine aa.ret ?_;simp only[fU,fJ];refine bG.ret rfl ?_;simp only[go_sem])
 |(refine aj.of ?_;simp only[go_sem])
 |((fail_if_success(have:=hbb));(with_reducible intro bb hbb))
 |refine aa.fin (by assumption) ?_)
theorem Ew(g:Gt)(n:Int)(hg:bO g):ae E 90 [aL g,i64 n] (fun r t=>r= .ax [aL (gH g n).1,i64 (gH g n).2]∧t=[]):=by
 have hgi:=hg.fit
 have hg1:=hg.1
 have hg2:=hg.2.1
 refine ae.av (n:=30) (rs:=[.cell 4 58,.tmp 5]) Tryz.func90 rfl Tryz.ntmps90 rfl ?_
 repeat'(first
 |(
  refine aa.jJ hc1 ?_
  first
  |(refine aa.ik [0,1,2,3,5] (by decide) rfl rfl ?_;simp only[go_sem,kI,List.length_map];refine aa.weaken ?_ (hc1 m);(try simp only[go_sem]);(repeat'(first|refine And.intro ?_ ?_|trivial|exact .inr (aM rfl)|exact .inr dC));done)
  |(have he:g.ak=[]:=Classical.byContradiction fun hne=>by
     have:=hbb (by simpa using hne)
     simp_all
    refine aa.kg 2 0 8 _ rfl rfl ?_
    simp only[go_sem]
    refine aa.weaken ?_ (hc1 0);(try simp only[go_sem,he,List.length_nil,List.map_nil,kS]);(repeat'(first|refine And.intro ?_ ?_|trivial|exact .inr (aM rfl)));done))
 |refine aa.ab fun K hK=>?_
 |(
  refine aa.here 1 5 5 rfl ?_
  first
  |(have h0:=hc1;clear h0;refine aa.bq ?_;refine aj.at 5 2 rfl ?_;simp only[go_sem])
  |(refine aa.cutAt (ι:=Nat) [5,6,7,8] (fun(m:Nat)=>[]) (fun(m:Nat)=>[some [.agg [eD g.ak,bL g.aP,bl g.kill,i64 g.now,i64 g.pat]],some [.agg [.aK,.aK,bl false,i64 0,i64 0]],some [.agg [.mu 4 8 0 g.ak.length (g.ak.length+m),bL g.aP,bl g.kill,i64 g.now,i64 g.pat]],some [.agg [.aK,.aK,bl false,i64 0,i64 0]],some (g.ak.map aN++spare 8 m)]) (fun(m:Nat)=>[]) hK (fun m=>?_) (fun hc1=>?_)))
 |(refine Cut.mk ?_;simp only[go_sem])
 |(
  refine aa.here 3 13 3 rfl ?_
  refine aa.eL 5 0 (jd:=4) (k:=8) (n:=g.ak.length) (cap:=g.ak.length+m) _ (g.ak.map aN++spare 8 m) (by decide) rfl rfl rfl (by simp[cA]) (by rw[eY];exact fa _) ?_
  rw[eY]
  simp only[go_sem]
  refine aa.region ?_;simp only[go_sem])
 |(
  refine aa.here 4 14 8 rfl ?_
  obtain⟨k,v,rfl,hx⟩:=gw (by assumption)
  have hn:=bI hx
  have hx2:(g.ak.map aN++spare 8 m)[k]?=some (aN v):=by rw[List.getElem?_append_left (by simpa using bI hx),List.getElem?_map,hx];rfl
  refine aa.region ?_;simp only[go_sem])
 |(
  refine aa.here 5 22 3 rfl ?_
  refine aa.eL 5 0 (jd:=4) (k:=8) (n:=g.ak.length) (cap:=g.ak.length+m) _ (g.ak.map aN++spare 8 m) (by decide) rfl rfl rfl (by simp[cA]) (by rw[eY];exact fa _) ?_
  rw[eY]
  simp only[go_sem]
  refine aa.region ?_;simp only[go_sem])
 |(
  refine aa.here 7 29 3 rfl ?_
  rw[show(g.ak.map aN++spare 8 m).set k (.agg [aR v.book.af,bZ v.book.ai,.sl none 1 (v.book.ids.map str),i64 v.book.clock,i64 0,aR v.ar,i64 v.last,bl v.br])=(g.ak.set k ⟨⟨v.book.af,v.book.ai,v.book.ids,v.book.clock,0⟩,v.ar,v.last,v.br⟩).map aN++spare 8 m from lE (v:=⟨⟨v.book.af,v.book.ai,v.book.ids,v.book.clock,0⟩,v.ar,v.last,v.br⟩) hn]
  refine aa.eL 5 0 (jd:=4) (k:=8) (n:=g.ak.length) (cap:=g.ak.length+m) _ ((g.ak.set k ⟨⟨v.book.af,v.book.ai,v.book.ids,v.book.clock,0⟩,v.ar,v.last,v.br⟩).map aN++spare 8 m) (by decide) rfl rfl rfl (by simp[cA]) (by rw[fw];exact fa _) ?_
  rw[fw]
  simp only[go_sem]
  refine aa.region ?_;simp only[go_sem])
 |(
  refine aa.here 5 15 5 rfl ?_
  obtain⟨v,hx⟩:∃v,g.ak[i]?=some v:=⟨_,List.getElem?_eq_getElem (by omega)⟩
  have hv:=hg.2.2 v (List.mem_of_getElem? hx)
  have hx2:(g.ak.map aN++spare 8 m)[i]?=some (aN v):=by rw[List.getElem?_append_left (by simpa using bI hx),List.getElem?_map,hx];rfl
  refine aa.region ?_;simp only[go_sem])
 |(
  refine aa.here 7 29 11 rfl ?_
  (try rw[cN hx])
  refine aa.region ?_;simp only[go_sem])
 |(
  refine aa.here 8 39 11 rfl ?_
  (try rw[cN hx])
  refine aa.region ?_;simp only[go_sem])
 |(
  refine aa.here 9 49 9 rfl ?_
  (try rw[cN hx])
  refine aa.region ?_;simp only[go_sem])
 |(
  refine aa.here 10 57 2 rfl ?_
  (try rw[cN hx])
  refine aa.region ?_;simp only[go_sem])
 |(
  refine aa.here 3 5 4 rfl ?_
  refine aa.bq ?_
  refine aj.jf eA ?_
  simp only[go_sem]
  refine aj.at 3 1 rfl ?_
  simp only[go_sem]
  refine aj.jO jl eA rfl rfl rfl (by simp;omega) (by simp;omega) ?_
  intro m
  simp only[go_sem]
  refine aj.of ?_
  simp only[go_sem])
 |(refine aa.here 1 7 4 rfl ?_;refine aa.bq ?_;refine aj.at 4 1 rfl ?_;simp only[go_sem])
 |(refine aa.region ?_;simp only[go_sem])
 |(refine hK _ ?_;clear hK K)
 |refine aa.block ?_
 |refine aa.cond rfl (fun c=>?_) (fun c=>?_)<;>(try simp only[dD] at c)
 |refine aa.skip ?_
 |(refine aa.exit ?_;simp only[go_sem])
 |(refine ah.one (iW g n hgi) (by kernel_rfl) rfl ?_;simp only[go_sem])
 |(refine ah.one (eV v.book.af hv.1) (by kernel_rfl) rfl ?_;simp only[go_sem])
 |(refine ah.one (eV v.ar hv.2.2.2) (by kernel_rfl) rfl ?_;simp only[go_sem])
 |(refine ah.one (jK v.book.ai hv.2.1) (by kernel_rfl) rfl ?_;simp only[go_sem])
 |(refine ah.one (jU v.book.ids hv.2.2.1) (by kernel_rfl) rfl ?_;simp only[go_sem])
 |(refine ah.one (kQ g.aP hg2) (by kernel_rfl) rfl ?_;simp only[go_sem])
 |(refine aj.call (rs:=[.cell 2 58]) Tryz.func76 rfl Tryz.ntmps76 rfl (by kernel_rfl) rfl rfl ?_;simp only[go_sem])
 |(refine aj.call (rs:=[.tmp 2]) Tryz.func144 rfl Tryz.ntmps144 rfl (by kernel_rfl) rfl rfl ?_;simp only[go_sem])
 |(refine aG.bA (by assumption) ?_;(try simp only[go_sem]))
 |(refine aG.fT (by assumption) ?_;(try simp only[go_sem]))
 |((with_reducible refine And.intro ?_ ?_);(focus(first|omega|(simp;done)));(try simp only[hb,go_sem]))
 |(
  refine aa.here 3 13 1 rfl ?_
  refine aa.cr (ι:=Nat) [3,4,13,14,15,16,17,18,19,20,21,22,23,24,25,26,27,28,29,30,31,32,33,34,35,36,37,38,39,40,41,42,43,44,45,46,47,48,49,50,51,52,53,54,55,56,57] (fun(i:Nat)=>[(12,i64 i)]) (fun(i:Nat)=>i≤g.ak.length) (fun(i:Nat)=>g.ak.length-i) (0) ?_ ?_ ?_
  ·(try simp only[go_sem]);(repeat'(first|refine And.intro ?_ ?_|trivial|exact .inr (aM rfl)|exact .inr dC));done
  ·omega
  rintro i h1
  simp only[go_sem])
 |(
  refine⟨i+1,?_,?_,?_⟩
  ·(try simp only[go_sem]);(try rw[aq (by omega) (by omega)]);(repeat'(first|refine And.intro ?_ ?_|exact .inr rfl|trivial|exact .inr (aM rfl)|exact .inr dC));done
  ·omega
  ·(try simp only[]);omega)
 |(
  refine aa.ret ?_
  refine az.is ?_;simp only[go_sem,aB,aE,aF,aA,aC,aD]<;>(first|(rw[uu (by assumption)];simp;done)|(rw[sL (by assumption) hx (by assumption)];simp;done)|(rw[uv (by assumption) hx (by assumption)];simp[cf];done)))
 |(refine aa.ret ?_;refine bG.ret rfl ?_;simp only[go_sem])
 |(refine aa.ret ?_;simp only[fU,fJ];refine bG.ret rfl ?_;simp only[go_sem])
 |(refine aj.of ?_;simp only[go_sem])
 |((fail_if_success(have:=hbb));(with_reducible intro bb hbb))
 |refine aa.fin (by assumption) ?_)
end Go.Proofs.YtajeeghgiilhiaaGreat
end
section
namespace Go.Bk
open Go Go.Abs
def dB(o:Od):Od:=⟨o.id,o.acc,o.sym,o.au,o.al,o.aw,0,true⟩
def ez(v:Vn)(id:Bs):Bool:=hasB v.book.af id||hasB v.ar id
def eP(v:Vn)(o:Od):Vn:=⟨v.book,v.ar++[o],v.last,v.br⟩
def eC(g:Gt)(n:Int)(o:Od):Gt×Int×Int:=
 if ba g n=true∧bn (dB o)=true then(match g.ak[n.toNat]? with
  |some v=>if ez v o.id then(g,0,7) else if df g v (dB o)≠0 then(g,df g v (dB o),0) else(cf g n.toNat (eP v (dB o)),0,0)
  |none=>(g,0,1)) else(g,0,1)
theorem tA{g:Gt}{n:Int}{o:Od}(h:ba g n=false):eC g n o=(g,0,1):=if_neg (by simp[h])
theorem vg{g:Gt}{n:Int}{o:Od}(h:bn (dB o)=false):eC g n o=(g,0,1):=if_neg (by simp[h])
theorem pv{g:Gt}{k:Nat}{o:Od}{v:Vn}(h:ba g (k:Int)=true)(hm:bn (dB o)=true)(hx:g.ak[k]?=some v):
 eC g (k:Int) o=if ez v o.id then(g,0,7) else if df g v (dB o)≠0 then(g,df g v (dB o),0) else(cf g k (eP v (dB o)),0,0):=by
 unfold eC;rw[if_pos ⟨h,hm⟩,Int.toNat_natCast,hx]
theorem Qm{g:Gt}{k:Nat}{o:Od}{v:Vn}(h:ba g (k:Int)=true)(hm:bn (dB o)=true)(hx:g.ak[k]?=some v)(hk:ez v o.id=true):eC g (k:Int) o=(g,0,7):=by rw[pv h hm hx,if_pos hk]
theorem O9{g:Gt}{k:Nat}{o:Od}{v:Vn}(h:ba g (k:Int)=true)(hm:bn (dB o)=true)(hx:g.ak[k]?=some v)(hk:ez v o.id=false)(hw:¬df g v (dB o)=0):eC g (k:Int) o=(g,df g v (dB o),0):=by
 rw[pv h hm hx,if_neg (by simp[hk]),if_pos hw]
theorem Pc{g:Gt}{k:Nat}{o:Od}{v:Vn}(h:ba g (k:Int)=true)(hm:bn (dB o)=true)(hx:g.ak[k]?=some v)(hk:ez v o.id=false)(hw:df g v (dB o)=0):eC g (k:Int) o=(cf g k (eP v (dB o)),0,0):=by
 rw[pv h hm hx,if_neg (by simp[hk]),if_neg (by simp[hw])]
def eE(o:Od)(id:Bs)(al aw:Int):Od:=⟨id,o.acc,o.sym,o.au,al,aw,o.done,o.bg⟩
def kx(o:Od)(id:Bs)(al aw:Int):Od:=⟨id,o.acc,o.sym,o.au,al-o.done,aw,0,o.bg⟩
def eh(g:Gt)(n:Int)(old id:Bs)(al aw:Int):Gt×Int×Int:=
 if ba g n=true then(match g.ak[n.toNat]? with
  |some v=>if(findF v.book.af old).2=false∨(findF v.book.af old).1.bg=false then(g,0,6)
   else if bn (eE (findF v.book.af old).1 id al aw)=false then(g,0,1)
   else if ez v id then(g,0,7)
   else if df g v (kx (findF v.book.af old).1 id al aw)≠0 then(g,df g v (kx (findF v.book.af old).1 id al aw),0)
   else(cf g n.toNat (eP v (eE (findF v.book.af old).1 id al aw)),0,0)
  |none=>(g,0,1)) else(g,0,1)
theorem uj{g:Gt}{n:Int}{old id:Bs}{q p:Int}(h:ba g n=false):eh g n old id q p=(g,0,1):=if_neg (by simp[h])
theorem jZ{g:Gt}{k:Nat}{old id:Bs}{q p:Int}{v:Vn}(h:ba g (k:Int)=true)(hx:g.ak[k]?=some v):eh g (k:Int) old id q p =
 if(findF v.book.af old).2=false∨(findF v.book.af old).1.bg=false then(g,0,6)
  else if bn (eE (findF v.book.af old).1 id q p)=false then(g,0,1)
  else if ez v id then(g,0,7)
  else if df g v (kx (findF v.book.af old).1 id q p)≠0 then(g,df g v (kx (findF v.book.af old).1 id q p),0)
  else(cf g k (eP v (eE (findF v.book.af old).1 id q p)),0,0):=by
 unfold eh;rw[if_pos h,Int.toNat_natCast,hx]
def gL(x:Ex)(o:Od):Bool:=decide (o.id=x.ord)&&decide (o.acc=x.acc)&&decide (o.sym=x.sym)&&decide (o.au=x.au)&&decide (o.al=x.al)&&decide (o.aw=x.aw)&&(decide (o.done=0)||decide (x.kind=4))
def eB(l:List Od)(x:Ex):Option Nat:=l.findIdx? (gL x)
def jt(x:Ex):Bool:=decide (x.kind=1)||decide (x.kind=4)
def iM(v:Vn)(x:Ex):Vn:=⟨⟨v.book.af,v.book.ai,v.book.ids++[x.id],v.book.clock,2⟩,v.ar,v.last,v.br⟩
def kG(g:Gt)(v:Vn)(x:Ex)(b:Bk)(k:Int):Vn×Int:=
 if jt x then(match eB v.ar x with
  |none=>(iM v x,3)
  |some p=>if k=1 then(⟨b,v.ar.eraseIdx p,g.now,v.br⟩,1) else(⟨b,v.ar,v.last,v.br⟩,k))
 else if k=1 then(⟨b,v.ar,g.now,v.br⟩,1) else(⟨b,v.ar,v.last,v.br⟩,k)
def cj(g:Gt)(n:Int)(x:Ex):Gt×Int×Int:=
 if ba g n=true then(match g.ak[n.toNat]? with
  |some v=>
   if(aY v.book x).2=2∨(aY v.book x).2=4 then(g,(aY v.book x).2,0)
   else if(aY v.book x).2=1∨(aY v.book x).2=3 then(cf g n.toNat (kG g v x (aY v.book x).1 (aY v.book x).2).1,(kG g v x (aY v.book x).1 (aY v.book x).2).2,0)
   else(g,0,1)
  |none=>(g,0,1)) else(g,0,1)
theorem uX{g:Gt}{n:Int}{x:Ex}(h:ba g n=false):cj g n x=(g,0,1):=if_neg (by simp[h])
theorem mv{g:Gt}{k:Nat}{x:Ex}{v:Vn}(h:ba g (k:Int)=true)(hx:g.ak[k]?=some v):cj g (k:Int) x =
 if(aY v.book x).2=2∨(aY v.book x).2=4 then(g,(aY v.book x).2,0)
  else if(aY v.book x).2=1∨(aY v.book x).2=3 then(cf g k (kG g v x (aY v.book x).1 (aY v.book x).2).1,(kG g v x (aY v.book x).1 (aY v.book x).2).2,0)
  else(g,0,1):=by
 unfold cj;rw[if_pos h,Int.toNat_natCast,hx]
def zeroV:Vn:=⟨⟨[],[],[],0,0⟩,[],0,false⟩
def kC(n p:Int):Gt×Int:=if n<1∨4<n∨dw p=false then(⟨[],[],false,0,0⟩,1) else(⟨List.replicate n.toNat zeroV,[],false,0,p⟩,0)
theorem tg{n p:Int}(h:n<1∨4<n∨dw p=false):kC n p=(⟨[],[],false,0,0⟩,1):=if_pos h
theorem vv{n p:Int}(h1:1≤n)(h2:n≤4)(h:dw p=true):kC n p=(⟨List.replicate n.toNat zeroV,[],false,0,p⟩,0):=if_neg (by rw[h];simp;omega)
def aZ(l:List Lm)(x:Lm):Nat:=(l.takeWhile fun y=>decide (bw y x<0)).length
def cT(l:List Lm)(x:Lm):List Lm×Int:=
 if bX l=true∧dW x=true then
  (match l[aZ l x]? with
  |some y=>if bw y x=0 then(l.set (aZ l x) x,0) else if l.length=32 then(l,5) else(l.take (aZ l x)++x::l.drop (aZ l x),0)
  |none=>if l.length=32 then(l,5) else(l.take (aZ l x)++x::l.drop (aZ l x),0))
 else(l,1)
def eT(g:Gt)(x:Lm):Gt×Int:=if bf g=true then(if(cT g.aP x).2=0 then(⟨g.ak,(cT g.aP x).1,g.kill,g.now,g.pat⟩,0) else(g,(cT g.aP x).2)) else(g,1)
theorem qd{l:List Lm}{x:Lm}(h:¬(bX l=true∧dW x=true)):cT l x=(l,1):=if_neg h
theorem Jh{x:Lm}(h:dW x=true):cT [] x=([x],0):=by
 unfold cT;rw[if_pos ⟨by decide,h⟩];rfl
theorem yS{g:Gt}{x:Lm}(h:bf g=false):eT g x=(g,1):=if_neg (by simp[h])
end Go.Bk
end
section
namespace Go.Abs
open Go Go.RowKit
theorem aj.U7{E:Env}{Q:Exit→St→Prop}{st:St}{ops:Array Oper}{l:List Oper}{dst:Option Tmp}{t ty:TypeId}{pos:String}{after:Array Edge}{x y:Operand}{kl kc:IntKind}{e:TypeId}{k n m:Nat}{zs zs':List AV}
 (hai:cV E.P t=some (e,k,n)) (hzv:eu E.P e=some zs) (hx:st.ev x= .v (.int kl (m:Int))) (hy:st.ev y= .v (.int kc (m:Int))) (hl:zs'.length=zs.length) (hzz:∀(j:Nat) (z z':AV),zs[j]?=some z→zs'[j]?=some z'→z'=z∨(z= .aK∧∃q,z'= .sl none q [])) (hm:m≤1000) (hk:k≤1000) (hn:n≤100000)
 (h:aj E ops l Q (St.put { st with tk:=st.tk++[m] } dst (.sl (some st.tk.length) k (List.replicate m (.agg zs'))))):aj E ops (⟨dst,.makeSlice t x y,ty,pos,after,none⟩::l) Q st:=by
 intro w0 im0 cx a w h0 hG r
 refine wpList_step (fun K' hK'=>?_)
 have hw:Region.wanted ⟨dst,.makeSlice t x y,ty,pos,after,none⟩ (yielded ops a.tmps)=true:=rfl
 rw[if_pos hw]
 obtain⟨hu,hs,hk0,i,zv,hi,hz,hsize,hbytes,hzs⟩:=iX hai
 have hzl:zs=zv.cells.toList.map ja∧zs.all AV.eW=true:=by
  unfold eu at hzv
  simp only[hi,hz,Option.bind_some] at hzv
  split at hzv
  ·rename_i hall
   simp only[Option.some.injEq] at hzv
   exact⟨hzv.symm,by rw[←hzv];exact hall⟩
  ·simp at hzv
 have ex:a.eval x= .int kl (m:Int):=by have:=r.ev x;rw[hx] at this;exact this.bt
 have ey:a.eval y= .int kc (m:Int):=by have:=r.ev y;rw[hy] at this;exact this.bt
 have hsz:m*i.size≤16777216:=by rw[hsize];exact Nat.le_trans (Nat.mul_le_mul hm hk) (by decide)
 have hby:(i.bytes:Int)*(m:Int)≤281474976710656:=by
  rw[hbytes]
  have:n*m≤100000*1000:=Nat.mul_le_mul hn hm
  have h2:((n*m:Nat):Int)≤281474976710656:=by omega
  rwa[Int.natCast_mul] at h2
 have hrun:=run_makeSlice (P:=E.P) (w:=w) t e i zv hu hi hz kl kc (m:Int) (m:Int) (by omega) (Int.le_refl _) (by simpa using hsz) hby (by omega)
 simp only[Int.toNat_natCast] at hrun
 have hlen:zs.length=k:=by rw[hzl.1];simp[hzs]
 have hcells:Cells cx.im k (List.replicate m (.agg zs')) (madeCells zv.cells (m*i.size)).toList:=by
  refine⟨fun j z hj=>?_,fun j z q u hj hq=>?_⟩
  ·rw[List.getElem?_replicate] at hj
   split at hj
   ·simp only[Option.some.injEq] at hj;subst hj;exact hl.trans hlen
   ·simp at hj
  ·rw[List.getElem?_replicate] at hj
   split at hj
   ·rename_i hjm
    simp only[Option.some.injEq] at hj;subst hj
    have hq0:zs'[q]?=some u:=hq
    have hqk:q<k:=by rw[←hlen,←hl];exact bE hq0
    obtain⟨z,hq1⟩:∃z,zs[q]?=some z:=⟨_,List.getElem?_eq_getElem (by omega)⟩
    have hqz:q<zv.cells.size:=by omega
    have hu1:z=ja zv.cells[q]:=by
     rw[hzl.1,List.getElem?_map] at hq1
     simp[hqz] at hq1
     exact hq1.symm
    have hlt:j*k+q<m*i.size:=by rw[hsize];exact kW hjm hqk
    have hmod:(j*k+q)%zv.cells.size=q:=by rw[hzs,Nat.mul_comm,Nat.mul_add_mod,Nat.mod_eq_of_lt hqk]
    refine⟨zv.cells[q],?_,?_⟩
    ·simp only[madeCells,Array.toList_map,List.getElem?_map,Array.toList_range,List.getElem?_range hlt,Option.map_some,hmod]
     simp[hqz]
    ·have hv:a8 cx.im z zv.cells[q]:=by rw[hu1];exact oz _ _
     have hlf:z.eW=true:=List.all_eq_true.1 hzl.2 z (List.mem_of_getElem? hq1)
     refine⟨?_,VR.eW (c:=cx) (.base hv) hlf⟩
     rcases hzz q z u hq1 hq0 with rfl|⟨rfl,p,rfl⟩
     ·exact hv
     ·have:=(VR.base (c:=cx) hv).dU
      rw[this];exact .de p none 0
   ·simp at hj
 obtain⟨c',hle,r2,hv⟩:=r.rq (ox w (.cells (madeCells zv.cells (m*i.size)) e)) (g:=w.heap.size) (k:=k) (cap:=m) (es:=List.replicate m (.agg zs')) (Nat.le_refl _) (kK w _) (.inl rfl)
  (by rw[size_madeCells,hsize];exact Nat.le_refl _) (by simp) hcells
 rw[List.length_replicate] at r2 hv
 refine eG (w':=w.alloc (.cells (madeCells zv.cells (m*i.size)) e)) (v:= .slice (some ⟨w.heap.size,0,none⟩) m m) ?_ (hK' _ _ (h w0 im0 _ _ _ h0 hG (r2.put dst hv)))
 simp only[execOp,ex,ey,Sem.run_bind,hrun,Result.andThen_ok,Sem.run_pure]
end Go.Abs
end
section
namespace Go.Proofs.YtajeeghgiilhiaaGreat
open Go Go.Abs Go.RowKit Go.Bk
theorem An{g:Gt}{x:Lm}(h:bf g=true)(h2:¬(cT g.aP x).2=0):eT g x=(g,(cT g.aP x).2):=by unfold eT;rw[if_pos h,if_neg h2]
theorem wJ{g:Gt}{x:Lm}(h:bf g=true)(h2:(cT g.aP x).2=0):eT g x=(⟨g.ak,(cT g.aP x).1,g.kill,g.now,g.pat⟩,0):=by unfold eT;rw[if_pos h,if_pos h2]
theorem FV:bX []=true:=by decide
theorem I8{x:Lm}(h:dW x=false):cT [] x=([],1):=qd (fun e=>by rw[h] at e;exact absurd e.2 (by simp))
theorem V1:∀(j:Nat) (z z':AV),([.aK,.aK,.aK,.v (.int .i64 0),.v (.int .i64 0),.aK,.v (.int .i64 0),.v (.bool false)]:List AV)[j]?=some z→([.sl none 8 [],.sl none 9 [],.sl none 1 [],i64 0,i64 0,.sl none 8 [],i64 0,bl false]:List AV)[j]?=some z'→z'=z∨(z= .aK∧∃q,z'= .sl none q []):=by
 intro j z z' h1 h2
 match j with
 |0=>cases h1;cases h2;exact .inr ⟨rfl,_,rfl⟩
 |1=>cases h1;cases h2;exact .inr ⟨rfl,_,rfl⟩
 |2=>cases h1;cases h2;exact .inr ⟨rfl,_,rfl⟩
 |3=>cases h1;cases h2;exact .inl rfl
 |4=>cases h1;cases h2;exact .inl rfl
 |5=>cases h1;cases h2;exact .inr ⟨rfl,_,rfl⟩
 |6=>cases h1;cases h2;exact .inl rfl
 |7=>cases h1;cases h2;exact .inl rfl
 |j+8=>simp at h1
theorem Ak(n p:Int):ae E 27 [i64 n,i64 p] (fun r t=>r= .ax [aL (kC n p).1,i64 (kC n p).2]∧t=[]):=by
 refine ae.av (n:=22) (rs:=[.cell 4 58,.tmp 5]) Tryz.func27 rfl Tryz.ntmps27 rfl ?_
 repeat'(first
 |refine aa.ab fun K hK=>?_
 |(
  refine aa.here 3 18 6 rfl ?_
  have hnn:∃m:Nat,n=(m:Int)∧1≤m∧m≤4:=⟨n.toNat,by omega,by omega,by omega⟩
  obtain⟨m,rfl,hm1,hm4⟩:=hnn
  refine aa.bq ?_
  refine aj.at 6 1 rfl ?_
  simp only[go_sem]
  refine aj.U7 (m:=m) (zs':=[.sl none 8 [],.sl none 9 [],.sl none 1 [],i64 0,i64 0,.sl none 8 [],i64 0,bl false]) eA A8 rfl rfl rfl V1 (by omega) (by decide) (by decide) ?_
  simp only[go_sem]
  refine aj.of ?_
  simp only[go_sem])
 |(refine aa.region ?_;simp only[go_sem])
 |(refine hK _ ?_;clear hK K)
 |refine aa.cond rfl (fun c=>?_) (fun c=>?_)<;>first|exact Bool.noConfusion c|(try simp only[dD] at c)
 |refine aa.skip ?_
 |(refine ah.one (uH _) (by kernel_rfl) rfl ?_;simp only[go_sem])
 |(refine aH.bY (fun h=>?_) (fun h=>?_)<;>simp only[h,go_sem]<;>(try simp only[dD] at h))
 |(
  refine aa.ret ?_
  refine az.is ?_;simp only[go_sem,aB,aE,aF,aA,aC,aD,eD,bL]<;>(first|(rw[tg (.inl (by assumption))];simp;done)|(rw[tg (.inr (.inl (by assumption)))];simp;done)|(rw[tg (.inr (.inr (by assumption)))];simp;done)|(rw[vv (by omega) (by omega) (by assumption)];simp[zeroV];done))))
theorem WM(x:Lm):ae E 77 [.sl none 6 [],bd x] (fun r t=>r= .ax [bL (cT [] x).1,i64 (cT [] x).2]∧t=[]):=by
 refine ae.av (n:=41) (rs:=[.tmp 4,.tmp 5]) Tryz.func77 rfl Tryz.ntmps77 rfl ?_
 repeat'(first
 |refine aa.ab fun K hK=>?_
 |(refine ah.of (rW [] (by decide)) (by kernel_rfl) rfl ?_;rintro r t ⟨rfl,rfl⟩;simp only[go_sem])
 |(refine ah.one (qm [] (by decide)) (by kernel_rfl) rfl ?_;simp only[go_sem])
 |(refine ah.one (sB x) (by kernel_rfl) rfl ?_;simp only[go_sem])
 |(refine aj.call (rs:=[.tmp 6,.tmp 7]) Tryz.func147 rfl Tryz.ntmps147 rfl (by kernel_rfl) rfl rfl ?_;simp only[go_sem])
 |(refine aj.call (rs:=[.tmp 6]) Tryz.func149 rfl Tryz.ntmps149 rfl (by kernel_rfl) rfl rfl ?_;simp only[go_sem])
 |(refine aa.here 4 21 8 rfl ?_;refine aa.bq ?_;refine aj.at 8 2 rfl ?_;simp only[go_sem])
 |(refine aa.here 10 36 7 rfl ?_;refine aa.bq ?_;refine aj.at 7 4 rfl ?_;simp only[go_sem])
 |(refine aa.region ?_;simp only[go_sem])
 |(refine aa.here 8 35 16 rfl ?_;refine aa.bc [0,1,2,3,4,5,6,7,8,9,10,11,12,13,14,15] [] (by kernel_rfl) (by kernel_rfl) rfl ?_;simp only[go_sem])
 |(refine hK _ ?_;clear hK K)
 |refine aa.block ?_
 |refine aa.cond rfl (fun c=>?_) (fun c=>?_)<;>first|exact Bool.noConfusion c|(try simp only[dD] at c)
 |refine aa.skip ?_
 |(refine aa.exit ?_;simp only[go_sem])
 |(refine aH.split (fun h=>?_) (fun h=>?_)<;>simp only[h,go_sem]<;>(try simp only[dD] at h))
 |((with_reducible refine And.intro ?_ ?_);(focus((simp;done)));(try simp only[hb,go_sem]))
 |(
  refine aa.here 3 15 3 rfl ?_
  refine aa.cr (ι:=Nat) [11,15,16,17,18,19,20,21,22,23,24,25,26,27,28,29,30,31,32,33,34] (fun(i:Nat)=>[(9,i64 i),(10,i64 i)]) (fun(i:Nat)=>i=0) (fun(i:Nat)=>0) (0) ?_ ?_ ?_
  ·(try simp only[go_sem]);(repeat'(exact .inr (aM rfl)));done
  ·rfl
  rintro i rfl
  simp only[go_sem])
 |(
  refine aa.ret ?_
  refine az.is ?_;simp only[go_sem,aB,aE,aF,aA,aC,aD]<;>(first|(rw[I8 (by assumption)];exact⟨rfl,rfl⟩)|(rw[Jh (by assumption)];exact⟨rfl,rfl⟩)|(exfalso;have hr:bX []=true:=FV;simp_all;done)))
 |(refine aa.ret ?_;refine bG.ret rfl ?_;simp only[go_sem])
 |(refine aa.ret ?_;simp only[fU,fJ];refine bG.ret rfl ?_;simp only[go_sem])
 |(refine aj.of ?_;simp only[go_sem])
 |refine aa.fin (by assumption) ?_)
theorem zU(g:Gt)(x:Lm)(hg:bO g)(hs:ae E 77 [bL g.aP,bd x] (fun r t=>r= .ax [bL (cT g.aP x).1,i64 (cT g.aP x).2]∧t=[])):ae E 28 [aL g,bd x] (fun r t=>r= .ax [aL (eT g x).1,i64 (eT g x).2]∧t=[]):=by
 have hgi:=hg.fit
 refine ae.av (n:=29) (rs:=[.cell 4 58,.tmp 5]) Tryz.func28 rfl Tryz.ntmps28 rfl ?_
 repeat'(first
 |refine aa.ab fun K hK=>?_
 |(refine aa.region ?_;simp only[go_sem])
 |(refine hK _ ?_;clear hK K)
 |refine aa.cond rfl (fun c=>?_) (fun c=>?_)<;>(try simp only[dD] at c)
 |refine aa.skip ?_
 |(refine ah.one (lU g hg) (by kernel_rfl) rfl ?_;simp only[go_sem])
 |(refine ah.one (mC g hgi) (by kernel_rfl) rfl ?_;simp only[go_sem])
 |(refine ah.one (hs) (by kernel_rfl) rfl ?_;simp only[go_sem])
 |(
  refine aa.ret ?_
  refine az.is ?_;simp only[go_sem,aB,aE,aF,aA,aC,aD]<;>(first|(rw[yS (by assumption)];simp;done)|(rw[An (by assumption) (by assumption)];simp;done)|(rw[wJ (by assumption) (by assumption)];simp;done))))
theorem Ca(g:Gt)(n:Int)(o:Od)(hg:bO g)(hn:ba g n=false∨bn (dB o)=false):ae E 29 [aL g,i64 n,aW o] (fun r t=>r= .ax [aL g,i64 0,i64 1]∧t=[]):=by
 have hgi:=hg.fit
 refine ae.av (n:=56) (rs:=[.cell 6 58,.tmp 7,.tmp 8]) Tryz.func29 rfl Tryz.ntmps29 rfl ?_
 repeat'(first
 |refine aa.ab fun K hK=>?_
 |(refine aa.region ?_;simp only[go_sem])
 |(refine hK _ ?_;clear hK K)
 |refine aa.cond rfl (fun c=>?_) (fun c=>?_)<;>first|exact Bool.noConfusion c|(try simp only[dD] at c)
 |refine aa.skip ?_
 |(refine ah.one (lU g hg) (by kernel_rfl) rfl ?_;simp only[go_sem])
 |(refine ah.one (iW g n hgi) (by kernel_rfl) rfl ?_;simp only[go_sem])
 |(refine ah.one (lY (dB o)) (by kernel_rfl) rfl ?_;simp only[go_sem])
 |(refine aH.split (fun h=>?_) (fun h=>?_)<;>simp only[h,go_sem]<;>(try simp only[dD] at h))
 |(
  refine aa.ret ?_
  refine az.is ?_;simp only[go_sem,aB,aE,aF,aA,aC,aD]<;>(first|fail))
 |(exfalso;rcases hn with hn|hn<;>simp_all;done))
end Go.Proofs.YtajeeghgiilhiaaGreat
end
section
namespace Go.Abs
open Go Go.RowKit
variable{w0:World}{im0:di}{c:Ctx}{st:St}{a:Act}{w:World}
theorem Rel.BS(r:Rel w0 im0 c st a w){id idx j:Nat}{es cs:List AV}{x y:AV}(ho:st.own[id]?=some (some es))(he:es[idx]?=some (.agg cs))(hx:cs[j]?=some x)(hxn:x≠.any)(hy:∀v,VR c x v→VR c y v):
 Rel w0 im0 c { st with own:=st.own.set id (some (es.set idx (.agg (cs.set j y)))) } a w:=by
 have hlt:=bE ho
 have hilt:=bE he
 have conv:∀{i:Nat} {e:List AV},(st.own.set id (some (es.set idx (.agg (cs.set j y)))))[i]?=some (some e)→(i=id∧e=es.set idx (.agg (cs.set j y)))∨(i≠id∧st.own[i]?=some (some e)):=by
  intro i e he
  rw[List.getElem?_set] at he
  by_cases hi':id=i
  ·subst hi';rw[if_pos rfl,if_pos hlt] at he
   simp only[Option.some.injEq] at he;exact .inl ⟨rfl,he.symm⟩
  ·rw[if_neg hi'] at he;exact .inr ⟨Ne.symm hi',he⟩
 have old:∀{i:Nat} {e:List AV},(st.own.set id (some (es.set idx (.agg (cs.set j y)))))[i]?=some (some e)→∃e',st.own[i]?=some (some e'):=fun{i e} he=>by
  rcases conv he with⟨rfl,_⟩|⟨_,h⟩
  ·exact⟨_,ho⟩
  ·exact⟨_,h⟩
 refine⟨r.defers,r.size,r.tmps,r.below,r.c0,r.dd,r.cg,by simp[r.bU],fun i g k es' h1 h2=>?_,r.cn,r.tail,r.tok,
  ⟨fun i j g1 k1 g2 k2 e1 e2 a1 a2 a3 a4 hij=>by
    obtain⟨_,a3⟩:=old a3
    obtain⟨_,a4⟩:=old a4
    exact r.apart.oo i j g1 k1 g2 k2 _ _ a1 a2 a3 a4 hij,fun i t g1 k1 e1 T b a1 a2 a3 a4=>by
    obtain⟨_,a2⟩:=old a2
    exact r.apart.ot i t g1 k1 _ T b a1 a2 a3 a4,r.apart.tt⟩,r.dq,r.up,r.hole⟩
 rcases conv h2 with⟨rfl,rfl⟩|⟨_,h2⟩
 ·obtain⟨hnew,him,ds,ty,lo,hi,hblk,hfr,hsz,hlv,hcell⟩:=r.own i g k _ h1 ho
  refine⟨hnew,him,ds,ty,lo,hi,hblk,hfr,by rw[List.length_set];exact hsz,fun i' e he'=>?_,fun i' e j' z he' hz=>?_⟩
  ·rw[List.getElem?_set] at he'
   split at he'
   ·rename_i hi'
    (try rw[if_pos hilt] at he')
    simp only[Option.some.injEq] at he';subst he'
    have:=hlv idx _ he
    simpa[AV.leaves] using this
   ·exact hlv i' e he'
  ·rw[List.getElem?_set] at he'
   split at he'
   ·rename_i hi'
    subst hi'
    (try rw[if_pos hilt] at he')
    simp only[Option.some.injEq] at he';subst he'
    change(cs.set j y)[j']?=some z at hz
    rw[List.getElem?_set] at hz
    split at hz
    ·rename_i hj
     subst hj
     have hjl:=bE hx
     (try rw[if_pos hjl] at hz)
     simp only[Option.some.injEq] at hz;subst hz
     obtain⟨v,e1,e2,e3⟩:=hcell idx _ j x he hx
     exact⟨v,e1,hy v e2,.inr (e3.resolve_left hxn)⟩
    ·exact hcell idx _ j' z he hz
   ·exact hcell i' e j' z he' hz
 ·exact r.own i g k es' h1 h2
theorem aa.ka{E:Env}{c:Code}{Q:Exit→St→Prop}{s:St}(id idx j:Nat){t k:Nat}{es cs xs:List AV}(ho:s.own[id]?=some (some es))(he:es[idx]?=some (.agg cs))(hx:cs[j]?=some (.sl (some t) k xs))(hw:aa E c Q { s with own:=s.own.set id (some (es.set idx (.agg (cs.set j (.sl none k xs))))) }):aa E c Q s:=
 fun w0 im0 _ a w h0 hG r=>hw w0 im0 _ a w h0 hG (r.BS ho he hx (by simp) (fun v hv=> .base hv.fu))
end Go.Abs
end
section
namespace Go.Proofs.YtajeeghgiilhiaaGreat
open Go Go.Abs Go.RowKit Go.Bk
abbrev iC(v:Vn):AV:= .agg [aR v.book.af,bZ v.book.ai,.sl none 1 (v.book.ids.map str),i64 v.book.clock,i64 v.book.bad,.sl (some 0) 8 (v.ar.map aW),i64 v.last,bl v.br]
theorem wU{no nt m k:Nat}{l:List Vn}{v:Vn}(h:0<nt):∀es,some ((l.map aN++spare 8 m).set k (iC v))=some es→∀e∈es,∀z∈e.leaves,z.bF no nt=true:=by
 intro es he e hm z hz
 simp only[Option.some.injEq] at he
 subst he
 rcases List.mem_or_eq_of_mem_set hm with hm|rfl
 ·exact dC (no:=no) (nt:=nt) (m:=m) (l:=l) _ rfl e hm z hz
 ·simp only[AV.leaves,List.mem_cons,List.not_mem_nil,or_false] at hz
  rcases hz with rfl|rfl|rfl|rfl|rfl|rfl|rfl|rfl<;>first|rfl|exact decide_eq_true h
theorem k7{p:Prop}[Decidable p](h:false=decide p):¬p:=of_decide_eq_false h.symm
theorem lD{p:Prop}[Decidable p](h:true=decide p):p:=of_decide_eq_true h.symm
theorem rK{p:Prop}[Decidable p](h:¬p):false=decide p:=(decide_eq_false h).symm
theorem oW{p:Prop}[Decidable p](h:p):true=decide p:=(decide_eq_true h).symm
theorem gz{l:List Vn}{i k m:Nat}{v:Vn}{t:AV}(hki:k<i)(h:l[i]?=some v):((l.map aN++spare 8 m).set k t).set i (.agg [aR v.book.af,bZ v.book.ai,.sl none 1 (v.book.ids.map str),i64 v.book.clock,i64 v.book.bad,aR v.ar,i64 v.last,bl v.br])=(l.map aN++spare 8 m).set k t:=by
 rw[List.set_comm _ _ (by omega),cN h]
theorem qQ{v:Vn}{id:Bs}(h:hasB v.book.af id=false∧hasB v.ar id=false):ez v id=false:=by simp[ez,h]
theorem mU{l:List Vn}{k m:Nat}{w:Vn}(h:l[k]?=some w):(((l.map aN++spare 8 m).set k (iC w)).set k (.agg [aR w.book.af,bZ w.book.ai,.sl none 1 (w.book.ids.map str),i64 w.book.clock,i64 w.book.bad,.sl none 8 (w.ar.map aW),i64 w.last,bl w.br]))=l.map aN++spare 8 m:=by
 rw[List.set_set];exact cN h
theorem Bb{l:List Vn}{k m:Nat}{w:Vn}{o:Od}(h:k<l.length):((((l.map aN++spare 8 m).set k (iC w)).set k (.agg [aR w.book.af,bZ w.book.ai,.sl none 1 (w.book.ids.map str),i64 w.book.clock,i64 w.book.bad,.sl (some 0) 8 (w.ar.map aW++[aW o]),i64 w.last,bl w.br])).set k (.agg [aR w.book.af,bZ w.book.ai,.sl none 1 (w.book.ids.map str),i64 w.book.clock,i64 w.book.bad,.sl none 8 (w.ar.map aW++[aW o]),i64 w.last,bl w.br]))=(l.set k (eP w o)).map aN++spare 8 m:=by
 rw[List.set_set,List.set_set,←lE (v:=eP w o) h]
 congr 1
 simp[eP]
theorem XU{l:List Vn}{k m:Nat}{w:Vn}{o:Od}(h:k<l.length):((((l.map aN++spare 8 m).set k (iC w)).set k (.agg [aR w.book.af,bZ w.book.ai,.sl none 1 (w.book.ids.map str),i64 w.book.clock,i64 w.book.bad,.sl (some 0) 8 (w.ar.map aW++[AV.agg [str o.id,str o.acc,str o.sym,bl o.au,i64 o.al,i64 o.aw,.v (.int .i64 0),.v (.bool true)]]),i64 w.last,bl w.br])).set k (.agg [aR w.book.af,bZ w.book.ai,.sl none 1 (w.book.ids.map str),i64 w.book.clock,i64 w.book.bad,.sl none 8 (w.ar.map aW++[AV.agg [str o.id,str o.acc,str o.sym,bl o.au,i64 o.al,i64 o.aw,.v (.int .i64 0),.v (.bool true)]]),i64 w.last,bl w.br]))=(l.set k (eP w (dB o))).map aN++spare 8 m:=Bb (o:=dB o) h
theorem On(g:Gt)(k:Nat)(w:Vn)(o:Od)(hg:bO g)(hx0:g.ak[k]?=some w)(ha:ba g (k:Int)=true)(hmay:bn (dB o)=true):ae E 29 [aL g,i64 (k:Int),aW o] (fun r t=>r= .ax [aL (eC g (k:Int) o).1,i64 (eC g (k:Int) o).2.1,i64 (eC g (k:Int) o).2.2]∧t=[]):=by
 have hgi:=hg.fit
 have hg1:=hg.1
 have hg2:=hg.2.1
 have hkn:=bI hx0
 have hsm:=sC ha hx0
 refine ae.av (n:=56) (rs:=[.cell 6 58,.tmp 7,.tmp 8]) Tryz.func29 rfl Tryz.ntmps29 rfl ?_
 repeat'(first
 |(
  refine aa.jJ hc1 ?_
  first
  |(refine aa.ik [0,1,2,3,4,6] (by decide) rfl rfl ?_;simp only[go_sem,kI,List.length_map];refine aa.weaken ?_ (hc1 m);(try simp only[go_sem]);(repeat'(first|refine And.intro ?_ ?_|trivial|exact .inr (aM rfl)|exact .inr dC));done)
  |(have he:g.ak=[]:=Classical.byContradiction fun hne=>by
     have:=hbb (by simpa using hne)
     simp_all
    refine aa.kg 3 0 8 _ rfl rfl ?_
    simp only[go_sem]
    refine aa.weaken ?_ (hc1 0);(try simp only[go_sem,he,List.length_nil,List.map_nil,kS]);(repeat'(first|refine And.intro ?_ ?_|trivial|exact .inr (aM rfl)));done))
 |refine aa.ab fun K hK=>?_
 |(
  refine aa.here 1 5 5 rfl ?_
  first
  |(have h0:=hc1;clear h0;refine aa.bq ?_;refine aj.at 5 2 rfl ?_;simp only[go_sem])
  |((fail_if_success(have h0:=hc1));refine aa.cutAt (ι:=Nat) [5,6,7,8] (fun(m:Nat)=>[]) (fun(m:Nat)=>[some [.agg [eD g.ak,bL g.aP,bl g.kill,i64 g.now,i64 g.pat]],some [aW o],some [.agg [.aK,.aK,bl false,i64 0,i64 0]],some [.agg [.mu 5 8 0 g.ak.length (g.ak.length+m),bL g.aP,bl g.kill,i64 g.now,i64 g.pat]],some [.agg [.aK,.aK,bl false,i64 0,i64 0]],some (g.ak.map aN++spare 8 m)]) (fun(m:Nat)=>[]) hK (fun m=>?_) (fun hc1=>?_)))
 |(refine Cut.mk ?_;simp only[go_sem])
 |(
  refine aa.here 5 26 5 rfl ?_
  have hxk:((g.ak.map aN++spare 8 m).set k (iC w))[k]?=some (iC w):=List.getElem?_set_self (by simp;omega)
  refine aa.region ?_;simp only[go_sem,ha,hmay])
 |(
  refine aa.here 6 30 6 rfl ?_
  refine aa.bc [0,1,2,3,4,5] [] (by kernel_rfl) (by kernel_rfl) rfl ?_;simp only[go_sem,ha,hmay,hxk])
 |(
  refine aa.here 7 36 4 rfl ?_
  refine aa.ka 5 k 5 rfl hxk rfl ?_
  simp only[go_sem,ha,hmay]
  rw[mU hx0]
  refine aa.eL 6 0 (jd:=5) (k:=8) (n:=g.ak.length) (cap:=g.ak.length+m) _ (g.ak.map aN++spare 8 m) (by decide) rfl rfl rfl (by simp[cA]) (by rw[eY];exact fa _) ?_
  rw[eY]
  simp only[go_sem,ha,hmay]
  refine aa.region ?_;simp only[go_sem,ha,hmay])
 |(
  refine aa.here 10 43 5 rfl ?_
  refine aa.ka 5 k 5 rfl hxk rfl ?_
  simp only[go_sem,ha,hmay]
  rw[mU hx0]
  refine aa.eL 6 0 (jd:=5) (k:=8) (n:=g.ak.length) (cap:=g.ak.length+m) _ (g.ak.map aN++spare 8 m) (by decide) rfl rfl rfl (by simp[cA]) (by rw[eY];exact fa _) ?_
  rw[eY]
  simp only[go_sem,ha,hmay]
  refine aa.region ?_;simp only[go_sem,ha,hmay])
 |(
  refine aa.here 11 45 11 rfl ?_
  refine aa.gD (.take 0 (.take 1 (.take 2 (.take 3 (.take 4 (.take 5 (.take 6 (.take 7 (.take 8 (.take 9 (.take 10 .done))))))))))) [[],[],[1],[1,2],[1,2,3],[],[5],[1,2,3,4,5,6],[0,1,2,3,4,5,6,7],[0,1,2,3,4,5,6,7,8],[0,1,2,3,4,5,6,7,8,9]] [] (by kernel_rfl) (by kernel_rfl) ?_;simp only[go_sem,ha,hmay,hxk])
 |(
  refine aa.here 12 55 4 rfl ?_
  refine aa.ka 5 k 5 rfl (List.getElem?_set_self (by simp;omega)) rfl ?_
  simp only[go_sem,ha,hmay]
  rw[XU hkn]
  refine aa.eL 6 0 (jd:=5) (k:=8) (n:=g.ak.length) (cap:=g.ak.length+m) _ ((g.ak.set k (eP w (dB o))).map aN++spare 8 m) (by decide) rfl rfl rfl (by simp[cA]) (by rw[fw];exact fa _) ?_
  rw[fw]
  simp only[go_sem,ha,hmay]
  refine aa.region ?_;simp only[go_sem,ha,hmay])
 |(
  refine aa.here 5 15 5 rfl ?_
  obtain⟨v,hx⟩:∃v,g.ak[i]?=some v:=⟨_,List.getElem?_eq_getElem (by omega)⟩
  have hv:=hg.2.2 v (List.mem_of_getElem? hx)
  have hx2:(g.ak.map aN++spare 8 m)[i]?=some (aN v):=by rw[List.getElem?_append_left (by simpa using bI hx),List.getElem?_map,hx];rfl
  have hvw:i=k→v=w:=fun e=>by subst e;rw[hx] at hx0;exact Option.some.inj hx0
  (first|have hki:=k7 hbk|(have hki:=lD hbk;have hx3:((g.ak.map aN++spare 8 m).set k (iC w))[i]?=some (aN v):=(List.getElem?_set_ne (by omega)).trans hx2))
  refine aa.region ?_;simp only[go_sem])
 |(
  refine aa.here 7 29 11 rfl ?_
  (first|rw[cN hx]|rw[gz (by omega) hx])
  refine aa.region ?_;simp only[go_sem])
 |(
  refine aa.here 8 39 11 rfl ?_
  (first|rw[cN hx]|rw[gz (by omega) hx])
  refine aa.region ?_;simp only[go_sem])
 |(
  refine aa.here 10 57 2 rfl ?_
  (first|rw[cN hx]|rw[gz (by omega) hx]|skip)
  (try(obtain rfl:=hvw hik1;subst hik1))
  refine aa.region ?_;simp only[go_sem])
 |(
  refine aa.here 9 49 9 rfl ?_
  (first|rw[cN hx]|rw[gz (by omega) hx])
  rcases Nat.decEq i k with hik0|hik1<;>(first|(exfalso;omega)|(refine aa.region ?_;simp only[go_sem])))
 |(
  refine aa.here 11 58 5 rfl ?_
  (first|(exfalso;have hki:=k7 hbk;omega)|(have hki:=lD hbk;refine aa.region ?_;simp only[go_sem])))
 |(
  refine aa.here 3 5 4 rfl ?_
  refine aa.bq ?_
  refine aj.jf eA ?_
  simp only[go_sem]
  refine aj.at 3 1 rfl ?_
  simp only[go_sem]
  refine aj.jO jl eA rfl rfl rfl (by simp;omega) (by simp;omega) ?_
  intro m
  simp only[go_sem]
  refine aj.of ?_
  simp only[go_sem])
 |(refine aa.here 1 12 4 rfl ?_;refine aa.bq ?_;refine aj.at 4 1 rfl ?_;simp only[go_sem,ha,hmay])
 |(refine aa.region ?_;simp only[go_sem,ha,hmay])
 |(refine hK _ ?_;clear hK K)
 |refine aa.block ?_
 |refine aa.cond rfl (fun c=>?_) (fun c=>?_)<;>first|exact Bool.noConfusion c|(try simp only[dD] at c)
 |refine aa.skip ?_
 |(refine aa.exit ?_;simp only[go_sem,ha,hmay])
 |(refine ah.one (iW g (k:Int) hgi) (by kernel_rfl) rfl ?_;simp only[go_sem,ha,hmay])
 |(refine ah.one (lY (dB o)) (by kernel_rfl) rfl ?_;simp only[go_sem,ha,hmay])
 |(refine ah.one (wB w o.id (hg.2.2 w (List.mem_of_getElem? hx0)).fit) (by kernel_rfl) rfl ?_;simp only[go_sem,ha,hmay])
 |(refine ah.one (yQ g k w (dB o) hgi hx0 hsm) (by kernel_rfl) rfl ?_;simp only[go_sem,ha,hmay])
 |(have h0:=hik1;clear h0;refine ah.of (mj v.ar hv.2.2.2) (by kernel_rfl) rfl ?_;rintro r t ⟨rfl,rfl⟩;simp only[go_sem])
 |(refine ah.one (eV v.book.af hv.1) (by kernel_rfl) rfl ?_;simp only[go_sem])
 |(refine ah.one (eV v.ar hv.2.2.2) (by kernel_rfl) rfl ?_;simp only[go_sem])
 |(refine ah.one (jK v.book.ai hv.2.1) (by kernel_rfl) rfl ?_;simp only[go_sem])
 |(refine ah.one (jU v.book.ids hv.2.2.1) (by kernel_rfl) rfl ?_;simp only[go_sem])
 |(refine ah.one (kQ g.aP hg2) (by kernel_rfl) rfl ?_;simp only[go_sem])
 |(refine aj.call (rs:=[.cell 2 58]) Tryz.func76 rfl Tryz.ntmps76 rfl (by kernel_rfl) rfl rfl ?_;simp only[go_sem])
 |(refine aj.call (rs:=[.tmp 2]) Tryz.func144 rfl Tryz.ntmps144 rfl (by kernel_rfl) rfl rfl ?_;simp only[go_sem])
 |(refine aG.bA (by assumption) ?_;(try simp only[go_sem,ha,hmay]))
 |(refine aG.fT (by assumption) ?_;(try simp only[go_sem,ha,hmay]))
 |((with_reducible refine And.intro ?_ ?_);(focus(first|omega|(simp;done)));(try simp only[hb,go_sem,ha,hmay]))
 |(
  refine aa.here 3 13 1 rfl ?_
  refine aa.b6 (ι:=Bool×Nat) [3,4,13,14,15,16,17,18,19,20,21,22,23,24,25,26,27,28,29,30,31,32,33,34,35,36,37,38,39,40,41,42,43,44,45,46,47,48,49,50,51,52,53,54,55,56,57] (fun⟨bk,i⟩=>[(12,i64 i)]) (fun⟨bk,i⟩=>[some [.agg [eD g.ak,bL g.aP,bl g.kill,i64 g.now,i64 g.pat]],some [aW o],some [.agg [.aK,.aK,bl false,i64 0,i64 0]],some [.agg [.mu 5 8 0 g.ak.length (g.ak.length+m),bL g.aP,bl g.kill,i64 g.now,i64 g.pat]],some [.agg [.aK,.aK,bl false,i64 0,i64 0]],some (bif bk then((g.ak.map aN++spare 8 m).set k (iC w)) else(g.ak.map aN++spare 8 m))]) (fun⟨bk,i⟩=>(bif bk then[w.ar.length] else[])) (fun⟨bk,i⟩=>i≤g.ak.length∧bk=decide (k<i)) (fun⟨bk,i⟩=>g.ak.length-i) ((false,0)) ?_ ?_ ?_
  ·(try simp only[go_sem]);(repeat'(first|refine And.intro ?_ ?_|trivial|exact .inr (aM rfl)|exact .inr dC));done
  ·exact⟨by omega,by simp⟩
  rintro⟨bk,i⟩ ⟨h1,hbk⟩
  simp only[go_sem]
  cases bk<;>simp only[cond_true,cond_false])
 |(
  refine⟨(false,i+1),?_,?_,?_⟩
  ·(try simp only[go_sem]);(try rw[aq (by omega) (by omega)]);(repeat'(first|refine And.intro ?_ ?_|exact .inr rfl|exact .inr (aM rfl)|exact .inr dC|exact .inr ⟨by simp,by simp⟩));done
  ·(exact⟨by omega,rK (by omega)⟩)
  ·(try simp only[]);omega)
 |(
  refine⟨(true,i+1),?_,?_,?_⟩
  ·(try simp only[go_sem]);(try rw[aq (by omega) (by omega)]);(repeat'(first|refine And.intro ?_ ?_|exact .inr rfl|trivial|exact .inr (aM rfl)|exact .inr (wU (by decide))));done
  ·(exact⟨by omega,oW (by omega)⟩)
  ·(try simp only[]);omega)
 |(
  refine aa.ret ?_
  refine az.is ?_;simp only[go_sem,aB,aE,aF,aA,aC,aD]<;>(first
  |(rw[Qm ha hmay hx0 (by simp[ez];assumption)];simp;done)
  |(rw[O9 ha hmay hx0 (qQ (by assumption)) (by assumption)];simp;done)
  |(rw[Pc ha hmay hx0 (qQ (by assumption)) (by assumption)];simp[cf];done)))
 |(refine aa.ret ?_;refine bG.ret rfl ?_;simp only[go_sem,ha,hmay])
 |(refine aa.ret ?_;simp only[fU,fJ];refine bG.ret rfl ?_;simp only[go_sem,ha,hmay])
 |(refine aj.of ?_;simp only[go_sem,ha,hmay])
 |((fail_if_success(have:=hbb));(with_reducible intro bb hbb))
 |refine aa.fin (by assumption) ?_)
theorem tL(g:Gt)(n:Int)(o:Od)(hg:bO g):ae E 29 [aL g,i64 n,aW o] (fun r t=>r= .ax [aL (eC g n o).1,i64 (eC g n o).2.1,i64 (eC g n o).2.2]∧t=[]):=by
 cases ha:ba g n with
 |false=>rw[tA ha];exact Ca g n o hg (.inl ha)
 |true=>
  cases hm:bn (dB o) with
  |false=>rw[vg hm];exact Ca g n o hg (.inr hm)
  |true=>
   obtain⟨k,v,rfl,hx⟩:=gw ha
   exact On g k v o hg hx ha hm
theorem Ao{o:Od}(h:bn o=true):0≤o.done∧o.done≤o.al∧0≤o.al∧o.al≤1099511627776∧0≤o.aw∧o.aw≤1099511627776:=by
 simp only[bn,bJ,Bool.and_eq_true,decide_eq_true_eq] at h;omega
theorem VY{l:List Vn}{k m:Nat}{w:Vn}{fo:Od}{id:Bs}{q p:Int}(h:k<l.length):((((l.map aN++spare 8 m).set k (iC w)).set k (.agg [aR w.book.af,bZ w.book.ai,.sl none 1 (w.book.ids.map str),i64 w.book.clock,i64 w.book.bad,.sl (some 0) 8 (w.ar.map aW++[AV.agg [str id,str fo.acc,str fo.sym,bl fo.au,i64 q,i64 p,i64 fo.done,bl fo.bg]]),i64 w.last,bl w.br])).set k (.agg [aR w.book.af,bZ w.book.ai,.sl none 1 (w.book.ids.map str),i64 w.book.clock,i64 w.book.bad,.sl none 8 (w.ar.map aW++[AV.agg [str id,str fo.acc,str fo.sym,bl fo.au,i64 q,i64 p,i64 fo.done,bl fo.bg]]),i64 w.last,bl w.br]))=(l.set k (eP w (eE fo id q p))).map aN++spare 8 m:=Bb (o:=eE fo id q p) h
section
variable{g:Gt}{k:Nat}{w:Vn}{old id:Bs}{q p:Int}{fo:Od}{fnd:Bool}(ha:ba g (k:Int)=true)(hx:g.ak[k]?=some w)(hff:findF w.book.af old=(fo,fnd))
include ha hx hff
theorem oy(h:fnd=false∨fo.bg=false):eh g (k:Int) old id q p=(g,0,6):=by rw[jZ ha hx,hff,if_pos h]
variable(h1:fnd=true)(h2:fo.bg=true)
include h1 h2
theorem rV(hm:bn (eE fo id q p)=false):eh g (k:Int) old id q p=(g,0,1):=by rw[jZ ha hx,hff,if_neg (by simp[h1,h2]),if_pos hm]
variable(hm:bn (eE fo id q p)=true)
include hm
theorem qN(hk:ez w id=true):eh g (k:Int) old id q p=(g,0,7):=by rw[jZ ha hx,hff,if_neg (by simp[h1,h2]),if_neg (by simp[hm]),if_pos hk]
variable(hk:ez w id=false)
include hk
theorem Vx(hw:¬df g w (kx fo id q p)=0):eh g (k:Int) old id q p=(g,df g w (kx fo id q p),0):=by rw[jZ ha hx,hff,if_neg (by simp[h1,h2]),if_neg (by simp[hm]),if_neg (by simp[hk]),if_pos hw]
theorem Ey(hw:df g w (kx fo id q p)=0):eh g (k:Int) old id q p=(cf g k (eP w (eE fo id q p)),0,0):=by rw[jZ ha hx,hff,if_neg (by simp[h1,h2]),if_neg (by simp[hm]),if_neg (by simp[hk]),if_neg (by simp[hw])]
end
theorem VF(g:Gt)(n:Int)(old id:Bs)(q p:Int)(hg:bO g)(ha:ba g n=false):ae E 85 [aL g,i64 n,str old,str id,i64 q,i64 p] (fun r t=>r= .ax [aL g,i64 0,i64 1]∧t=[]):=by
 have hgi:=hg.fit
 refine ae.av (n:=93) (rs:=[.cell 12 58,.tmp 13,.tmp 14]) Tryz.func85 rfl Tryz.ntmps85 rfl ?_
 repeat'(first
 |refine aa.ab fun K hK=>?_
 |(refine aa.region ?_;simp only[go_sem,ha])
 |(refine hK _ ?_;clear hK K)
 |refine aa.cond rfl (fun c=>?_) (fun c=>?_)<;>first|exact Bool.noConfusion c|(try simp only[dD] at c)
 |(refine ah.one (lU g hg) (by kernel_rfl) rfl ?_;simp only[go_sem,ha])
 |(refine ah.one (iW g n hgi) (by kernel_rfl) rfl ?_;simp only[go_sem,ha])
 |(
  refine aa.ret ?_
  refine az.is ?_;simp only[go_sem,aB,aE,aF,aA,aC,aD]<;>(first|fail)))
theorem IM(g:Gt)(k:Nat)(w:Vn)(old id:Bs)(q p:Int)(hg:bO g)(hx0:g.ak[k]?=some w)(ha:ba g (k:Int)=true):ae E 85 [aL g,i64 (k:Int),str old,str id,i64 q,i64 p] (fun r t=>r= .ax [aL (eh g (k:Int) old id q p).1,i64 (eh g (k:Int) old id q p).2.1,i64 (eh g (k:Int) old id q p).2.2]∧t=[]):=by
 have hgi:=hg.fit
 have hg1:=hg.1
 have hg2:=hg.2.1
 have hkn:=bI hx0
 have hsm:=sC ha hx0
 obtain⟨fo,fnd,hff⟩:∃fo fnd,findF w.book.af old=(fo,fnd):=⟨_,_,rfl⟩
 refine ae.av (n:=93) (rs:=[.cell 12 58,.tmp 13,.tmp 14]) Tryz.func85 rfl Tryz.ntmps85 rfl ?_
 repeat'(first
 |(
  refine aa.jJ hc1 ?_
  first
  |(refine aa.ik [0,1,2,3,5] (by decide) rfl rfl ?_;simp only[go_sem,kI,List.length_map];refine aa.weaken ?_ (hc1 m);(try simp only[go_sem]);(repeat'(first|refine And.intro ?_ ?_|trivial|exact .inr (aM rfl)|exact .inr dC));done)
  |(have he:g.ak=[]:=Classical.byContradiction fun hne=>by
     have:=hbb (by simpa using hne)
     simp_all
    refine aa.kg 2 0 8 _ rfl rfl ?_
    simp only[go_sem]
    refine aa.weaken ?_ (hc1 0);(try simp only[go_sem,he,List.length_nil,List.map_nil,kS]);(repeat'(first|refine And.intro ?_ ?_|trivial|exact .inr (aM rfl)));done))
 |refine aa.ab fun K hK=>?_
 |(
  refine aa.here 1 5 5 rfl ?_
  first
  |(have h0:=hc1;clear h0;refine aa.bq ?_;refine aj.at 5 2 rfl ?_;simp only[go_sem])
  |((fail_if_success(have h0:=hc1));refine aa.cutAt (ι:=Nat) [5,6,7,8] (fun(m:Nat)=>[]) (fun(m:Nat)=>[some [.agg [eD g.ak,bL g.aP,bl g.kill,i64 g.now,i64 g.pat]],some [.agg [.aK,.aK,bl false,i64 0,i64 0]],some [.agg [.mu 4 8 0 g.ak.length (g.ak.length+m),bL g.aP,bl g.kill,i64 g.now,i64 g.pat]],some [.agg [.aK,.aK,bl false,i64 0,i64 0]],some (g.ak.map aN++spare 8 m)]) (fun(m:Nat)=>[]) hK (fun m=>?_) (fun hc1=>?_)))
 |(refine Cut.mk ?_;simp only[go_sem])
 |(
  refine aa.here 4 28 5 rfl ?_
  have hxk:((g.ak.map aN++spare 8 m).set k (iC w))[k]?=some (iC w):=List.getElem?_set_self (by simp;omega)
  refine aa.region ?_;simp only[go_sem,ha])
 |(
  refine aa.here 5 33 13 rfl ?_
  refine aa.region ?_;simp only[go_sem,ha,hxk])
 |(
  refine aa.here 7 49 4 rfl ?_
  refine aa.ka 4 k 5 rfl hxk rfl ?_
  simp only[go_sem,ha]
  rw[mU hx0]
  refine aa.eL 5 0 (jd:=4) (k:=8) (n:=g.ak.length) (cap:=g.ak.length+m) _ (g.ak.map aN++spare 8 m) (by decide) rfl rfl rfl (by simp[cA]) (by rw[eY];exact fa _) ?_
  rw[eY]
  simp only[go_sem,ha]
  refine aa.region ?_;simp only[go_sem,ha])
 |(
  refine aa.here 10 59 4 rfl ?_
  refine aa.ka 4 k 5 rfl hxk rfl ?_
  simp only[go_sem,ha]
  rw[mU hx0]
  refine aa.eL 5 0 (jd:=4) (k:=8) (n:=g.ak.length) (cap:=g.ak.length+m) _ (g.ak.map aN++spare 8 m) (by decide) rfl rfl rfl (by simp[cA]) (by rw[eY];exact fa _) ?_
  rw[eY]
  simp only[go_sem,ha]
  refine aa.region ?_;simp only[go_sem,ha])
 |(
  refine aa.here 11 60 5 rfl ?_
  refine aa.region ?_;simp only[go_sem,ha,hxk])
 |(
  refine aa.here 12 65 4 rfl ?_
  refine aa.ka 4 k 5 rfl hxk rfl ?_
  simp only[go_sem,ha]
  rw[mU hx0]
  refine aa.eL 5 0 (jd:=4) (k:=8) (n:=g.ak.length) (cap:=g.ak.length+m) _ (g.ak.map aN++spare 8 m) (by decide) rfl rfl rfl (by simp[cA]) (by rw[eY];exact fa _) ?_
  rw[eY]
  simp only[go_sem,ha]
  refine aa.region ?_;simp only[go_sem,ha])
 |(
  refine aa.here 14 67 9 rfl ?_
  have hmb:=Ao (show bn (eE fo id q p)=true by assumption)
  simp only[eE] at hmb
  have hw:IntKind.i64.wrap (q-fo.done)=q-fo.done:=aq (by omega) (by omega)
  refine aa.region ?_;simp only[go_sem,ha,hw])
 |(
  refine aa.here 17 80 5 rfl ?_
  refine aa.ka 4 k 5 rfl hxk rfl ?_
  simp only[go_sem,ha]
  rw[mU hx0]
  refine aa.eL 5 0 (jd:=4) (k:=8) (n:=g.ak.length) (cap:=g.ak.length+m) _ (g.ak.map aN++spare 8 m) (by decide) rfl rfl rfl (by simp[cA]) (by rw[eY];exact fa _) ?_
  rw[eY]
  simp only[go_sem,ha]
  refine aa.region ?_;simp only[go_sem,ha])
 |(
  refine aa.here 18 82 11 rfl ?_
  refine aa.gD (.take 0 (.take 1 (.take 2 (.take 3 (.take 4 (.take 5 (.take 6 (.take 7 (.take 8 (.take 9 (.take 10 .done))))))))))) [[],[],[1],[1,2],[1,2,3],[],[5],[1,2,3,4,5,6],[0,1,2,3,4,5,6,7],[0,1,2,3,4,5,6,7,8],[0,1,2,3,4,5,6,7,8,9]] [] (by kernel_rfl) (by kernel_rfl) ?_;simp only[go_sem,ha,hxk])
 |(
  refine aa.here 19 92 4 rfl ?_
  refine aa.ka 4 k 5 rfl (List.getElem?_set_self (by simp;omega)) rfl ?_
  simp only[go_sem,ha]
  rw[VY hkn]
  refine aa.eL 5 0 (jd:=4) (k:=8) (n:=g.ak.length) (cap:=g.ak.length+m) _ ((g.ak.set k (eP w (eE fo id q p))).map aN++spare 8 m) (by decide) rfl rfl rfl (by simp[cA]) (by rw[fw];exact fa _) ?_
  rw[fw]
  simp only[go_sem,ha]
  refine aa.region ?_;simp only[go_sem,ha])
 |(
  refine aa.here 5 15 5 rfl ?_
  obtain⟨v,hx⟩:∃v,g.ak[i]?=some v:=⟨_,List.getElem?_eq_getElem (by omega)⟩
  have hv:=hg.2.2 v (List.mem_of_getElem? hx)
  have hx2:(g.ak.map aN++spare 8 m)[i]?=some (aN v):=by rw[List.getElem?_append_left (by simpa using bI hx),List.getElem?_map,hx];rfl
  have hvw:i=k→v=w:=fun e=>by subst e;rw[hx] at hx0;exact Option.some.inj hx0
  (first|have hki:=k7 hbk|(have hki:=lD hbk;have hx3:((g.ak.map aN++spare 8 m).set k (iC w))[i]?=some (aN v):=(List.getElem?_set_ne (by omega)).trans hx2))
  refine aa.region ?_;simp only[go_sem])
 |(
  refine aa.here 7 29 11 rfl ?_
  (first|rw[cN hx]|rw[gz (by omega) hx])
  refine aa.region ?_;simp only[go_sem])
 |(
  refine aa.here 8 39 11 rfl ?_
  (first|rw[cN hx]|rw[gz (by omega) hx])
  refine aa.region ?_;simp only[go_sem])
 |(
  refine aa.here 10 57 2 rfl ?_
  (first|rw[cN hx]|rw[gz (by omega) hx]|skip)
  (try(obtain rfl:=hvw hik1;subst hik1))
  refine aa.region ?_;simp only[go_sem])
 |(
  refine aa.here 9 49 9 rfl ?_
  (first|rw[cN hx]|rw[gz (by omega) hx])
  rcases Nat.decEq i k with hik0|hik1<;>(first|(exfalso;omega)|(refine aa.region ?_;simp only[go_sem])))
 |(
  refine aa.here 11 58 5 rfl ?_
  (first|(exfalso;have hki:=k7 hbk;omega)|(have hki:=lD hbk;refine aa.region ?_;simp only[go_sem])))
 |(
  refine aa.here 3 5 4 rfl ?_
  refine aa.bq ?_
  refine aj.jf eA ?_
  simp only[go_sem]
  refine aj.at 3 1 rfl ?_
  simp only[go_sem]
  refine aj.jO jl eA rfl rfl rfl (by simp;omega) (by simp;omega) ?_
  intro m
  simp only[go_sem]
  refine aj.of ?_
  simp only[go_sem])
 |(refine aa.here 1 21 4 rfl ?_;refine aa.bq ?_;refine aj.at 4 1 rfl ?_;simp only[go_sem,ha])
 |(refine aa.region ?_;simp only[go_sem,ha])
 |(refine hK _ ?_;clear hK K)
 |refine aa.block ?_
 |refine aa.cond rfl (fun c=>?_) (fun c=>?_)<;>first|exact Bool.noConfusion c|(try simp only[dD] at c)
 |refine aa.skip ?_
 |(refine aa.exit ?_;simp only[go_sem,ha])
 |(refine ah.one (iW g (k:Int) hgi) (by kernel_rfl) rfl ?_;simp only[go_sem,ha])
 |(refine ah.one (qz w.book.af old (by omega)) (by kernel_rfl) rfl ?_;simp only[hff];simp only[go_sem,ha])
 |(refine ah.one (lY (eE fo id q p)) (by kernel_rfl) rfl ?_;simp only[go_sem,ha])
 |(refine ah.one (wB w id (hg.2.2 w (List.mem_of_getElem? hx0)).fit) (by kernel_rfl) rfl ?_;simp only[go_sem,ha])
 |(refine ah.one (yQ g k w (kx fo id q p) hgi hx0 hsm) (by kernel_rfl) rfl ?_;simp only[go_sem,ha])
 |(have h0:=hik1;clear h0;refine ah.of (mj v.ar hv.2.2.2) (by kernel_rfl) rfl ?_;rintro r t ⟨rfl,rfl⟩;simp only[go_sem])
 |(refine ah.one (eV v.book.af hv.1) (by kernel_rfl) rfl ?_;simp only[go_sem])
 |(refine ah.one (eV v.ar hv.2.2.2) (by kernel_rfl) rfl ?_;simp only[go_sem])
 |(refine ah.one (jK v.book.ai hv.2.1) (by kernel_rfl) rfl ?_;simp only[go_sem])
 |(refine ah.one (jU v.book.ids hv.2.2.1) (by kernel_rfl) rfl ?_;simp only[go_sem])
 |(refine ah.one (kQ g.aP hg2) (by kernel_rfl) rfl ?_;simp only[go_sem])
 |(refine aj.call (rs:=[.cell 2 58]) Tryz.func76 rfl Tryz.ntmps76 rfl (by kernel_rfl) rfl rfl ?_;simp only[go_sem])
 |(refine aj.call (rs:=[.tmp 2]) Tryz.func144 rfl Tryz.ntmps144 rfl (by kernel_rfl) rfl rfl ?_;simp only[go_sem])
 |(refine aH.split (fun h=>?_) (fun h=>?_)<;>simp only[h,go_sem,ha]<;>(try simp only[dD] at h))
 |(refine aG.bA (by assumption) ?_;(try simp only[go_sem,ha]))
 |(refine aG.fT (by assumption) ?_;(try simp only[go_sem,ha]))
 |((with_reducible refine And.intro ?_ ?_);(focus(first|omega|(simp;done)));(try simp only[hb,go_sem,ha]))
 |(
  refine aa.here 3 13 1 rfl ?_
  refine aa.b6 (ι:=Bool×Nat) [3,4,13,14,15,16,17,18,19,20,21,22,23,24,25,26,27,28,29,30,31,32,33,34,35,36,37,38,39,40,41,42,43,44,45,46,47,48,49,50,51,52,53,54,55,56,57] (fun⟨bk,i⟩=>[(12,i64 i)]) (fun⟨bk,i⟩=>[some [.agg [eD g.ak,bL g.aP,bl g.kill,i64 g.now,i64 g.pat]],some [.agg [.aK,.aK,bl false,i64 0,i64 0]],some [.agg [.mu 4 8 0 g.ak.length (g.ak.length+m),bL g.aP,bl g.kill,i64 g.now,i64 g.pat]],some [.agg [.aK,.aK,bl false,i64 0,i64 0]],some (bif bk then((g.ak.map aN++spare 8 m).set k (iC w)) else(g.ak.map aN++spare 8 m))]) (fun⟨bk,i⟩=>(bif bk then[w.ar.length] else[])) (fun⟨bk,i⟩=>i≤g.ak.length∧bk=decide (k<i)) (fun⟨bk,i⟩=>g.ak.length-i) ((false,0)) ?_ ?_ ?_
  ·(try simp only[go_sem]);(repeat'(first|refine And.intro ?_ ?_|trivial|exact .inr (aM rfl)|exact .inr dC));done
  ·exact⟨by omega,by simp⟩
  rintro⟨bk,i⟩ ⟨h1,hbk⟩
  simp only[go_sem]
  cases bk<;>simp only[cond_true,cond_false])
 |(
  refine⟨(false,i+1),?_,?_,?_⟩
  ·(try simp only[go_sem]);(try rw[aq (by omega) (by omega)]);(repeat'(first|refine And.intro ?_ ?_|exact .inr rfl|exact .inr (aM rfl)|exact .inr dC|exact .inr ⟨by simp,by simp⟩));done
  ·(exact⟨by omega,rK (by omega)⟩)
  ·(try simp only[]);omega)
 |(
  refine⟨(true,i+1),?_,?_,?_⟩
  ·(try simp only[go_sem]);(try rw[aq (by omega) (by omega)]);(repeat'(first|refine And.intro ?_ ?_|exact .inr rfl|trivial|exact .inr (aM rfl)|exact .inr (wU (by decide))));done
  ·(exact⟨by omega,oW (by omega)⟩)
  ·(try simp only[]);omega)
 |(
  refine aa.ret ?_
  refine az.is ?_;simp only[go_sem,aB,aE,aF,aA,aC,aD]<;>(first
  |(rw[oy ha hx0 hff (.inl (by assumption))];simp;done)
  |(rw[oy ha hx0 hff (.inr (by assumption))];simp;done)
  |(rw[rV ha hx0 hff (by assumption) (by assumption) (by assumption)];simp;done)
  |(rw[qN ha hx0 hff (by assumption) (by assumption) (by assumption) (by simp[ez];assumption)];simp;done)
  |(rw[Vx ha hx0 hff (by assumption) (by assumption) (by assumption) (qQ (by assumption)) (by assumption)];simp;done)
  |(rw[Ey ha hx0 hff (by assumption) (by assumption) (by assumption) (qQ (by assumption)) (by assumption)];simp[cf];done)))
 |(refine aa.ret ?_;refine bG.ret rfl ?_;simp only[go_sem,ha])
 |(refine aa.ret ?_;simp only[fU,fJ];refine bG.ret rfl ?_;simp only[go_sem,ha])
 |(refine aj.of ?_;simp only[go_sem,ha])
 |((fail_if_success(have:=hbb));(with_reducible intro bb hbb))
 |refine aa.fin (by assumption) ?_)
theorem VL(g:Gt)(n:Int)(old id:Bs)(q p:Int)(hg:bO g):ae E 85 [aL g,i64 n,str old,str id,i64 q,i64 p] (fun r t=>r= .ax [aL (eh g n old id q p).1,i64 (eh g n old id q p).2.1,i64 (eh g n old id q p).2.2]∧t=[]):=by
 cases ha:ba g n with
 |false=>rw[uj ha];exact VF g n old id q p hg ha
 |true=>
  obtain⟨k,v,rfl,hx⟩:=gw ha
  exact IM g k v old id q p hg hx ha
end Go.Proofs.YtajeeghgiilhiaaGreat
end
