/- (RwGt, RwGRa, RwGRb) -/
import Derived.Test.YtajeeghgiilhiaaGreatKxU
import Derived.Test.YtajeeghgiilhiaaGreatKxTd
import Derived.Test.YtajeeghgiilhiaaGreatKxA
set_option linter.unusedVariables false
set_option linter.unusedSimpArgs false
set_option maxHeartbeats 16000000
set_option maxRecDepth 8000
section
namespace Go.Proofs.YtajeeghgiilhiaaGreat
open Go.ChangeShapes Go.WideShapes Go.ChangeAt Go.RowKit Go.Joins Go.Abs Go.Bk
def Conv(e e':AV):Prop:=e.leaves.length=e'.leaves.length∧∀(im:Im) (j:Nat) (c c':AV) (u:Value),e.leaves[j]?=some c→e'.leaves[j]?=some c'→aX im c u→aX im c' u
theorem aX.HA{im:Im}{k:Nat}{es es':List AV}{v:Value}(hl:es.length=es'.length)(h:∀(i:Nat) (e e':AV),es[i]?=some e→es'[i]?=some e'→Conv e e')(hv:aX im (.sl none k es) v):aX im (.sl none k es') v:=by
 cases hv with
 |dw=>
  have:es'=[]:=List.eq_nil_of_length_eq_zero (by rw[←hl];rfl)
  subst this
  exact .dw _ _ _
 |sl _ _ b o cap cv hc hk hm h1 hv=>
  have get:∀(i:Nat) (e':AV),es'[i]?=some e'→∃e,es[i]?=some e∧Conv e e':=fun i e' he=>by
   have hi:i<es.length:=by rw[hl];exact(List.getElem?_eq_some_iff.1 he).1
   exact⟨es[i],List.getElem?_eq_getElem hi,h i _ _ (List.getElem?_eq_getElem hi) he⟩
  have leaf:∀{e e':AV} {j:Nat} {c':AV},Conv e e'→e'.leaves[j]?=some c'→∃c,e.leaves[j]?=some c:=fun{e e' j c'} hc hj=>by
   have:j<e.leaves.length:=by rw[hc.1];exact(List.getElem?_eq_some_iff.1 hj).1
   exact⟨_,List.getElem?_eq_getElem this⟩
  have hlen:es'.length=es.length:=hl.symm
  rw[hl]
  refine .sl k es' b o cap cv ab (fun i e' he=>?_) (fun i e' j c' he hj=>?_) (fun i e' j c' he hj=>?_) (fun i e' j c' he hj=>?_)
  ·obtain⟨e,he2,hcv⟩:=get i e' he
   rw[←hcv.1];exact hk i e he2
  ·obtain⟨e,he2,hcv⟩:=get i e' he
   obtain⟨c,hj2⟩:=leaf hcv hj
   exact hm i e j c he2 hj2
  ·obtain⟨e,he2,hcv⟩:=get i e' he
   obtain⟨c,hj2⟩:=leaf hcv hj
   exact h1 i e j c he2 hj2
  ·obtain⟨e,he2,hcv⟩:=get i e' he
   obtain⟨c,hj2⟩:=leaf hcv hj
   exact hcv.2 im j c c' _ hj2 hj (hv i e j c he2 hj2)
theorem yO{α:Type}{f:α→AV}{Q:α→Prop}:∀{es:List AV},(∀y∈es,∃b,Q b∧Conv y (f b))→∃L:List α,es.length=(L.map f).length∧(∀(i:Nat) (e e':AV),es[i]?=some e→(L.map f)[i]?=some e'→Conv e e')∧∀b∈L,Q b
 |[],_=>⟨[],rfl,fun i e e' h=>by simp at h,by simp⟩
 |e::es,h=>by
  obtain⟨b,hb,hc⟩:=h e (List.mem_cons_self ..)
  obtain⟨L,h1,h2,h3⟩:=yO (es:=es) fun y hy=>h y (List.mem_cons_of_mem _ hy)
  refine⟨b::L,by simp only[List.length_cons,List.map_cons,h1],fun i x x' hx hx'=>?_,fun x hx=>by rcases List.mem_cons.1 hx with rfl|hx;exact hb;exact h3 x hx⟩
  cases i with
  |zero=>
   simp only[List.getElem?_cons_zero,Option.some.injEq] at hx
   simp only[List.map_cons,List.getElem?_cons_zero,Option.some.injEq] at hx'
   subst hx;subst hx';exact hc
  |succ i=>
   simp only[List.getElem?_cons_succ] at hx
   simp only[List.map_cons,List.getElem?_cons_succ] at hx'
   exact h2 i x x' hx hx'
section
variable{H:Type}{enc:TypeId×Value→H}
variable{w:World}{r:Reach}{b0 base:Nat}{spare:Nat→Bool}{held:Bool}{v:Value}{d:DataW H}{ps:List MemPlace}
theorem xx:Tryz.prog.cellsOf 86=8:=by kernel_rfl
theorem Ps:Tryz.prog.cellsOf 58=5:=by kernel_rfl
set_option maxRecDepth 100000 in
theorem WJ:Reads enc Tryz.prog 86 8 fun l=>∃a:Vn,nm a∧Conv (jr true l) (aS a):=fun w base spare held fuel cs x hx=>by
 obtain⟨ls,⟨_,_,⟨_,_,h1,⟨_,_,h2,⟨_,_,h3,⟨_,_,⟨n4,k4,rfl⟩,⟨_,_,⟨n5,k5,rfl⟩,rfl,rfl⟩,rfl⟩,rfl⟩,rfl⟩,rfl⟩,⟨_,_,h6,⟨_,_,⟨n7,k7,rfl⟩,⟨_,_,⟨b8,rfl⟩,rfl,rfl⟩,rfl⟩,rfl⟩,rfl⟩,g2,g3⟩:=km Tryz.underlying86 rfl xx
  (bE (km Tryz.underlying26 rfl iq
    (bE (oE true Tryz.underlying22 r9 ay (fun h=>by cases h) A7) af rfl (bE (oE true Tryz.underlying23 AO ay (fun h=>by cases h) DT) af rfl (bE (oE false Tryz.underlying24 c9 ay (fun _=>rfl) (eQ Tryz.underlying9)) af rfl (bE (dK Tryz.underlying2) af rfl (bE (dK Tryz.underlying3) af rfl (kM 5))))))) af rfl
  (bE (oE true Tryz.underlying22 r9 ay (fun h=>by cases h) A7) af rfl (bE (dK Tryz.underlying2) af rfl (bE (ka Tryz.underlying4) af rfl (kM 8))))) w base spare held fuel cs x hx
 obtain⟨os,o1,y1,rfl,e1⟩:=sI (f:=a8) (fun l h=>h) h1
 obtain⟨fs,o2,y2,rfl,e2⟩:=sI (f:=bY) (fun l h=>h) h2
 obtain⟨ids,o3,y3,rfl,e3⟩:=sI (f:=str) (fun l h=>by obtain⟨s,_,rfl⟩:=h;exact⟨s,rfl⟩) h3
 obtain⟨ss,o6,y6,rfl,e6⟩:=sI (f:=a8) (fun l h=>h) h6
 refine⟨_,⟨⟨⟨os,fs,ids,n4,n5⟩,ss,n7,b8⟩,⟨o1,o2,o3,o6⟩,by rfl,fun im i c c' u a1 a2 hc=>?_⟩,g2,g3⟩
 match i,a1,a2 with
 |0,a1,a2=>cases a1;cases a2;exact e1 _ _ hc
 |1,a1,a2=>cases a1;cases a2;exact e2 _ _ hc
 |2,a1,a2=>cases a1;cases a2;exact e3 _ _ hc
 |3,a1,a2=>cases a1;cases a2;exact hc
 |4,a1,a2=>cases a1;cases a2;exact hc
 |5,a1,a2=>cases a1;cases a2;exact e6 _ _ hc
 |6,a1,a2=>cases a1;cases a2;exact hc
 |7,a1,a2=>cases a1;cases a2;exact hc
 |i+8,a1,a2=>simp[AV.leaves,jr] at a1
set_option maxRecDepth 100000 in
theorem P8:Reads enc Tryz.prog 63 6 fun l=>∃a:Lm,(a.acc.length≤9223372036854775807∧a.sym.length≤9223372036854775807)∧jr true l=br a:=fun w base spare held fuel cs x hx=>by
 obtain⟨ls,⟨_,_,⟨s1,k1,rfl⟩,⟨_,_,⟨s2,k2,rfl⟩,⟨_,_,⟨n3,_,rfl⟩,⟨_,_,⟨n4,_,rfl⟩,⟨_,_,⟨n5,_,rfl⟩,⟨_,_,⟨n6,_,rfl⟩,rfl,rfl⟩,rfl⟩,rfl⟩,rfl⟩,rfl⟩,rfl⟩,h2,h3⟩:=km Tryz.underlying63 rfl s5 (bE (eQ Tryz.underlying9) af rfl (bE (eQ Tryz.underlying9) af rfl (bE (dK Tryz.underlying2) af rfl (bE (dK Tryz.underlying2) af rfl (bE (dK Tryz.underlying2) af rfl (bE (dK Tryz.underlying2) af rfl (kM 6))))))) w base spare held fuel cs x hx
 unfold maxLen at k1 k2
 exact⟨_,⟨⟨s1,s2,n3,n4,n5,n6⟩,⟨k1,k2⟩,rfl⟩,h2,h3⟩
set_option maxRecDepth 100000 in
theorem PU(hv:Value.okWide Tryz.prog w r b0 58 v)(hd:DataW.Trod enc Tryz.prog w base spare held 58 v d ps):∃g:Gt,(dS g∧cU g.aT)∧aX (gm w) (aO g) v:=by
 obtain⟨ls,⟨u1,_,h1,⟨u2,_,h2,⟨_,_,⟨b3,rfl⟩,⟨_,_,⟨n4,k4,rfl⟩,⟨_,_,⟨n5,k5,rfl⟩,rfl,rfl⟩,rfl⟩,rfl⟩,rfl⟩,rfl⟩,hx⟩:=zx Tryz.underlying58 (km Tryz.underlying58 rfl Ps
  (bE (oE true Tryz.underlying55 xx ay (fun h=>by cases h) WJ) af rfl (bE (oE true Tryz.underlying56 s5 ay (fun h=>by cases h) P8) af rfl (bE (ka Tryz.underlying4) af rfl (bE (dK Tryz.underlying2) af rfl (bE (dK Tryz.underlying2) af rfl (kM 5))))))) hv hd
 have hvs:∃L:List Vn,L.length≤9223372036854775807∧(∀a∈L,nm a)∧∃y,u1=[y]∧∀im v,aX im y v→aX im (eB L) v:=by
  rcases h1 with rfl|⟨es,q1,q2,rfl⟩
  ·exact⟨[],by simp,by simp,_,rfl,fun im v hv=>aX.of_nil hv⟩
  ·obtain⟨L,a1,a2,a3⟩:=yO (f:=aS) (Q:=nm) (es:=es) (fun y hy=>by
    obtain⟨l,⟨a,ha,hc⟩,rfl⟩:=q2 y hy
    exact⟨a,ha,hc⟩)
   exact⟨L,by unfold maxLen at q1;simp only[List.length_map] at a1;omega,a3,_,rfl,fun im v hv=>aX.HA a1 a2 hv⟩
 have hls:∃L:List Lm,L.length≤9223372036854775807∧cU L∧∃y,u2=[y]∧∀im v,aX im y v→aX im (bT L) v:=by
  rcases h2 with rfl|⟨es,q1,q2,rfl⟩
  ·exact⟨[],by simp,by intro x hx;simp at hx,_,rfl,fun im v hv=>aX.of_nil hv⟩
  ·obtain⟨L,rfl,hL⟩:=uL (f:=br) (Q:=fun a:Lm=>a.acc.length≤9223372036854775807∧a.sym.length≤9223372036854775807) (es:=es) (fun y hy=>by
    obtain⟨l,⟨a,ha,hc⟩,rfl⟩:=q2 y hy
    exact⟨a,ha,hc⟩)
   exact⟨L,by unfold maxLen at q1;simpa using q1,hL,_,rfl,fun im v hv=>hv⟩
 obtain⟨V,v1,v2,y1,rfl,g1⟩:=hvs
 obtain⟨L,l1,l2,y2,rfl,g2⟩:=hls
 refine⟨⟨V,L,b3,n4,n5⟩,⟨⟨v1,l1,v2⟩,l2⟩,aX.FC bz ?_ hx⟩
 intro i c c' u e1 e2 hc
 match i,e1,e2 with
 |0,e1,e2=>cases e1;cases e2;exact g1 _ _ hc
 |1,e1,e2=>cases e1;cases e2;exact g2 _ _ hc
 |2,e1,e2=>cases e1;cases e2;exact hc
 |3,e1,e2=>cases e1;cases e2;exact hc
 |4,e1,e2=>cases e1;cases e2;exact hc
 |i+5,e1,e2=>simp at e1
end
end Go.Proofs.YtajeeghgiilhiaaGreat
namespace Go.Proofs.YtajeeghgiilhiaaGreat
open Go.ChangeShapes Go.WideShapes Go.ChangeAt Go.RowKit Go.Joins Go.Abs Go.Bk
section
variable{H:Type}{enc:TypeId×Value→H}
variable{w:World}{r:Reach}{b0 base:Nat}{spare:Nat→Bool}{held:Bool}{v:Value}{d:DataW H}{ps:List MemPlace}
set_option maxRecDepth 100000 in
theorem KW(hv:Value.okWide Tryz.prog w r b0 3 v)(hd:DataW.Trod enc Tryz.prog w base spare held 3 v d ps):∃n:Int,aX (gm w) (i64 n) v:=by
 obtain⟨n,_,hx⟩:=Aq Tryz.underlying3 hv hd
 exact⟨n,hx⟩
set_option maxRecDepth 100000 in
theorem F4(hv:Value.okWide Tryz.prog w r b0 2 v)(hd:DataW.Trod enc Tryz.prog w base spare held 2 v d ps):∃n:Int,aX (gm w) (i64 n) v:=by
 obtain⟨n,_,hx⟩:=Aq Tryz.underlying2 hv hd
 exact⟨n,hx⟩
end
set_option maxRecDepth 100000 in
theorem XQ(os:Os)(started:os.Started)(H:Type)(enc:TypeId×Value→H):
 ReturnsInHanded {} Tryz.checked os 9 .any (Rows.gateRightSpec.pre6 enc Tryz.prog Tryz.f9 Rows.gateRightRow.domain false) (Rows.gateRightSpec.post enc Tryz.prog Tryz.f9 false true false false):=by
 refine returnsInHanded_of_change (C:=Tryz.checked) own started af Tryz.func9
  (ChangeSpec.witness6 (enc:=enc) (C:=Tryz.checked) false ⟨#[],#[.agg #[.slice none 0 0,.slice none 0 0,.bool false,.int .i64 0,.int .i64 0],.agg #[.int .u8 0,.int .i64 0,.string ⟨#[]⟩,.string ⟨#[]⟩,.string ⟨#[]⟩,.bool false,.int .i64 0,.int .i64 0,.int .i64 0,.bool false,.string ⟨#[]⟩,.string ⟨#[]⟩,.string ⟨#[]⟩,.string ⟨#[]⟩,.string ⟨#[]⟩,.string ⟨#[]⟩,.int .i64 0,.bool false,.int .i64 0,.int .i64 0,.int .i64 0,.int .u8 0,.bool false,.string ⟨#[]⟩,.string ⟨#[]⟩,.int .i64 0,.int .i64 0,.int .i64 0,.int .i64 0],.int .i64 0,.int .i64 0],[]⟩ 8 af af af af) ?_
 intro W base args ds gs before hval0 hW hcnd _
 have hval:∀(j:Nat) t v,Tryz.f9.params[j]?=some t→args[j]?=some v→Value.okWide Tryz.prog W .any base t v:=hval0
 have hW':=hW
 obtain⟨p,q,hA0,hV,rfl,hfz,hnd⟩:=hW
 have hA:DataW.TrodAll enc Tryz.prog W 0 (fun _=>true) true Tryz.f9.params.toList args.toList ds p:=hA0
 rw[Tryz.params9] at hA hval
 obtain⟨rfl,rfl⟩:=trodVars_none hV
 obtain⟨v0,vs0,d0,ds0,p0,q0,e0,rfl,rfl,h0,hA⟩:=trodAll_cons hA
 obtain⟨v1,vz,d1,ds1,p1,q1,rfl,rfl,rfl,h1,hA⟩:=trodAll_cons hA
 obtain⟨v2,vs2,d2,ds2,p2,q2,rfl,rfl,rfl,h2,hA⟩:=trodAll_cons hA
 obtain⟨v3,vs3,d3,ds3,p3,q3,rfl,rfl,rfl,h3,hA⟩:=trodAll_cons hA
 obtain⟨rfl,rfl,rfl⟩:=trodAll_nil hA
 have hargs:args= #[v0,v1,v2,v3]:=by apply Array.ext';simpa using e0
 subst hargs
 obtain⟨g,hg,x0⟩:=PU (hval 0 58 v0 rfl rfl) h0
 obtain⟨a,ha,x1⟩:=FV (hval 1 77 v1 rfl rfl) h1
 obtain⟨vn,x2⟩:=KW (hval 2 3 v2 rfl rfl) h2
 obtain⟨pt,x3⟩:=F4 (hval 3 2 v3 rfl rfl) h3
 exact(GU (E:=E) trivial (fun g cs e=>by simp[E] at e) (Sx g a vn pt hg.1 hg.2 ha) (qZ x0 (qZ x1 (qZ x2 (qZ x3 Iv))))).mono fun e W' ⟨he,hB⟩=>⟨_,he,El laidOut af rfl rfl Tryz.underlying4 hW' hB rfl⟩
set_option maxRecDepth 100000 in
theorem UC:joinedFacts Tryz.prog 9 Tryz.f9 Rows.gateRightSpec Rows.gateRightRow=true:=by
 unfold joinedFacts
 simp only[Bool.and_eq_true]
 repeat' refine And.intro ?_ ?_
 all_goals(as_aux_lemma=>kernel_rfl)
end Go.Proofs.YtajeeghgiilhiaaGreat
end
