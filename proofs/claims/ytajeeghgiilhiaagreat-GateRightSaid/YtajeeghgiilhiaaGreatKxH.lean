/- Texts of one chain, put together (N6, N7, N8, N9, N10, N1b). -/
import Derived.Test.YtajeeghgiilhiaaGreatKxG
import Derived.Test.YtajeeghgiilhiaaGreatKxE
import Derived.Test.YtajeeghgiilhiaaGreatKxA
set_option linter.unusedVariables false
set_option linter.unusedSimpArgs false
set_option maxHeartbeats 16000000
set_option maxRecDepth 8000
section
namespace Go.Proofs.YtajeeghgiilhiaaGreat
open Go Go.Abs Go.RowKit Go.Bk
def fC(n:Nat):AV→Bool
 |.mu id _ _ _ _=>id !=2&&decide (id<n)
 |.ptr id _ _=>id !=2&&decide (id<n)
 |.any|.v _|.aQ|.sl none _ _|.bV _|.fn _ []=>true
 |.sl (some t) _ _=>t==0
 |_=>false
def kp(n:Nat):AV→Bool
 |.agg cs=>cs.all (fC n)
 |x=>fC n x
theorem tW{n:Nat}{σ:Nat→Option Nat}(hσ:∀i,i≠2→i<n→σ i=some i){x:AV}(h:fC n x=true):x.cb σ=x:=by
 cases x<;>simp only[fC,AV.cb,Bool.and_eq_true,bne_iff_ne,decide_eq_true_eq] at h ⊢ <;>first|(rw[hσ _ h.1 h.2])|(simp at h;done)|skip
 case fn f cs=>cases cs<;>simp[fC] at h ⊢
theorem OH{n:Nat}{σ:Nat→Option Nat}(hσ:∀i,i≠2→i<n→σ i=some i){x:AV}(h:kp n x=true):x.ch σ=x:=by
 cases x with
 |agg cs=>
  simp only[kp] at h
  simp only[AV.ch,AV.fc]
  congr 1
  have:∀y∈cs,y.cb σ=y:=fun y hy=>tW hσ (List.all_eq_true.1 h y hy)
  exact(List.map_congr_left this).trans (List.map_id _)
 |aC cs=>simp[kp,fC] at h
 |fn f cs=>
  cases cs with
  |nil=>rfl
  |cons=>simp[kp,fC] at h
 |mu id k o l c=>simp only[AV.ch,AV.fc];exact tW hσ h
 |ptr id i o=>simp only[AV.ch,AV.fc];exact tW hσ h
 |_=>rfl
theorem Vv{n:Nat}{σ:Nat→Option Nat}(hσ:∀i,i≠2→i<n→σ i=some i){l:List AV}(h:l.all (kp n)=true):l.map (AV.ch σ)=l:=
 (List.map_congr_left (fun y hy=>OH hσ (List.all_eq_true.1 h y hy))).trans (List.map_id _)
theorem rJ{n no nt:Nat}(h1:n≤no)(h2:1≤nt){x:AV}(h:fC n x=true):x.de no nt=true:=by
 cases x<;>simp only[fC,AV.de,Bool.and_eq_true,bne_iff_ne,decide_eq_true_eq] at h ⊢ <;>first|omega|skip
 case sl t k es=>cases t<;>simp[fC,AV.de] at h ⊢;omega
 case fn f cs=>cases cs<;>simp[fC,AV.de] at h ⊢
theorem vG{n no nt:Nat}(h1:n≤no)(h2:1≤nt){x:AV}(h:kp n x=true):x.bO no nt=true:=by
 cases x with
 |agg cs=>
  simp only[kp] at h
  simp only[AV.bO,AV.eh]
  exact List.all_eq_true.2 fun y hy=>rJ h1 h2 (List.all_eq_true.1 h y hy)
 |aC cs=>simp[kp,fC] at h
 |fn f cs=>
  cases cs with
  |nil=>rfl
  |cons=>simp[kp,fC] at h
 |sl t k es=>exact rJ (x:= .sl t k es) h1 h2 h
 |mu id k o l c=>exact rJ (x:= .mu id k o l c) h1 h2 h
 |ptr id i o=>exact rJ (x:= .ptr id i o) h1 h2 h
 |_=>rfl
def qN(no nt:Nat)(x:AV):AV:=if x.bO no nt then x else .any
theorem xg{no nt:Nat}:∀l:List AV,jN no nt l (l.map (qN no nt))
 |[]=>trivial
 |x::l=>by
  refine⟨?_,xg l⟩
  unfold qN
  by_cases h:x.bO no nt=true
  ·rw[if_pos h];exact .inr ⟨rfl,h⟩
  ·rw[if_neg h];exact .inl rfl
def iI(no nt:Nat)(own:List (Option (List AV))):Bool:=own.all fun o=>match o with|none=>true|some es=>es.all fun e=>e.leaves.all (AV.bO no nt)
theorem uz{no nt:Nat}:∀{l:List (Option (List AV))},iI no nt l=true→iA no nt l l
 |[],_=>trivial
 |x::l,h=>by
  simp only[iI,List.all_cons,Bool.and_eq_true] at h
  refine⟨.inr ⟨rfl,fun es hes e he z hz=>?_⟩,uz h.2⟩
  have h1:=h.1
  rw[hes] at h1
  exact List.all_eq_true.1 (List.all_eq_true.1 h1 e he) z hz
theorem aa.dL{E:Env}{c:Code}{Q:Exit→St→Prop}{tmps up:List AV}{own:List (Option (List AV))}{tk:List Nat}{gl:Nat→Option (List AV)}(sel:List Nat)(own':List (Option (List AV)))(tk':List Nat)(n:Nat)(hnd:sel.Nodup)(hσ:∀i,i≠2→i<n→cz sel i=some i)
 (hup:up.all (kp n)=true) (hn:n≤own'.length) (hown:je own sel=own') (hb:iI own'.length tk'.length own'=true) (htk:jw tk tk') (h0:1≤tk'.length)
 (hw:aa E c Q ⟨(tmps.map (AV.ch (cz sel))).map (qN own'.length tk'.length),own',tk',gl,none,up⟩):aa E c Q ⟨tmps,own,tk,gl,none,up⟩:=by
 refine aa.norm sel hnd rfl (Vv hσ hup) ?_
 refine aa.weaken (t:=⟨(tmps.map (AV.ch (cz sel))).map (qN own'.length tk'.length),own',tk',gl,none,up⟩) ⟨xg _,?_,htk,rfl,rfl,rfl,List.all_eq_true.2 fun x hx=>vG hn h0 (List.all_eq_true.1 hup x hx)⟩ hw
 show iA _ _ (je own sel) own'
 rw[hown];exact uz hb
abbrev bg(b:Bk)(m:Nat):AV:= .agg [aV b.ak,.mu 2 9 0 b.al.length (b.al.length+m),.sl (some 0) 1 (b.ids.map str),i64 b.clock,i64 b.bad]
abbrev aZ(b:Bk)(m:Nat):List AV:=b.al.map bY++spare 9 m
theorem xi{l:List Dn}{n:Nat}{o:Dn}(h:l[n]?=some o)(sp:List AV):(l.map bY++sp)[n]?=some (bY o):=by
 rw[List.getElem?_append_left (by simpa using bM h),List.getElem?_map,h];rfl
theorem vL{l:List Dn}{n:Nat}{o o':Dn}(h:l[n]?=some o)(sp:List AV):(l.map bY++sp).set n (bY o')=(l.set n o').map bY++sp:=by
 rw[List.set_append_left _ _ (by simpa using bM h),List.map_set]
theorem oj(σ:Nat→Option Nat)(l:List Dn)(m:Nat):(l.map bY++spare 9 m).map (AV.ch σ)=l.map bY++spare 9 m:=by
 rw[List.map_append,List.map_map]
 congr 1
 simp[spare,AV.ch,AV.fc,AV.cb]
theorem Uy(no nt:Nat)(l:List Dn)(m:Nat):((l.map bY++spare 9 m).all fun e=>e.leaves.all (AV.bO no nt))=true:=by
 rw[List.all_eq_true]
 intro e he
 rcases List.mem_append.1 he with he|he
 ·obtain⟨f,_,rfl⟩:=List.mem_map.1 he;rfl
 ·simp only[spare,List.mem_replicate] at he
  rw[he.2]
  simp[AV.leaves,AV.bO,AV.eh,AV.de]
theorem Wt(f:Dn)(x:Ex):ai E 234 [bY f,.bV [str x.id,str x.ref,str x.ord,str x.acc,str x.sym,i64 x.kind,bl x.az,i64 x.aq,i64 x.aA,i64 x.time]] (fun r t=>r=bl (decide (f.id=x.ref))∧t=[]):=by
 refine ai.aw (n:=9) (rs:=[.tmp 3]) Tryz.func234 rfl Tryz.ntmps234 rfl ?_
 refine aa.aj fun K1 hK1=>?_
 refine aa.region ?_
 simp only[go_sem]
 refine hK1 _ ?_;clear hK1 K1
 refine aa.aj fun K2 hK2=>?_
 refine aa.region ?_
 simp only[go_sem]
 refine hK2 _ ?_;clear hK2 K2
 refine aa.ret ?_
 try simp only[go_sem]
 exact⟨[],.v _,rfl,rfl,by simp_all,rfl⟩
theorem Yi(l:List Dn)(x:Ex)(hl:l.length≤9223372036854775807):ai E 233 [cg l,.fn 234 [.bV [str x.id,str x.ref,str x.ord,str x.acc,str x.sym,i64 x.kind,bl x.az,i64 x.aq,i64 x.aA,i64 x.time]]] (fun r t=>r=i64 (fD l x.ref)∧t=[]):=by
 refine ai.aw (n:=19) (rs:=[.tmp 4]) Tryz.func233 rfl Tryz.ntmps233 rfl ?_
 refine aa.aj fun K1 hK1=>?_
 refine aa.region ?_
 simp only[go_sem]
 refine hK1 _ ?_;clear hK1 K1
 refine aa.aj fun K2 hK2=>?_
 refine aa.aj fun K3 hK3=>?_
 refine aa.region ?_
 simp only[go_sem]
 repeat'(((with_reducible refine And.intro ?_ ?_);(focus(((simp;done))));(try simp only[hb,go_sem])))
 refine hK3 _ ?_;clear hK3 K3
 refine aa.block ?_
 refine aa.nI (ι:=Nat) [4,5,9,10,11,12,13,14,15,16,17,18] (fun(i:Nat)=>[(8,i64 i)]) (fun(i:Nat)=>i≤l.length∧(l.take i).all (fun o=>!decide (o.id=x.ref))=true) (fun(i:Nat)=>l.length-i) (0) ?_ ?_ ?_
 ·(try simp only[go_sem]);try(simp;done)
 ·exact⟨by omega,by simp⟩
 rintro i ⟨h1,h2⟩
 simp only[go_sem]
 refine aa.aj fun K4 hK4=>?_
 refine aa.region ?_
 simp only[go_sem]
 refine hK4 _ ?_;clear hK4 K4
 refine aa.aj fun K5 hK5=>?_
 refine aa.cond rfl (fun c9=>?_) (fun c9=>?_)
 ·(
   try simp only[dD] at c9
   refine aa.skip ?_
   refine hK5 _ ?_;clear hK5 K5
   refine aa.aj fun K6 hK6=>?_
   refine aa.block ?_
   refine aa.aj fun K7 hK7=>?_
   refine aa.region ?_
   simp only[go_sem]
   refine hK7 _ ?_;clear hK7 K7
   refine aa.aj fun K8 hK8=>?_
   refine aa.region ?_
   simp only[go_sem]
   repeat'(first|(refine ah.one (Wt _ _) af rfl ?_;simp only[go_sem])|((refine aM.nth ?_ (fun b hb=>?_));(focus((omega)));(try simp only[hb,go_sem])))
   refine hK8 _ ?_;clear hK8 K8
   refine aa.cond rfl (fun c16=>?_) (fun c16=>?_)
   ·(
     try simp only[dD] at c16
     refine aa.aj fun K9 hK9=>?_
     refine aa.region ?_
     simp only[go_sem]
     refine hK9 _ ?_;clear hK9 K9
     refine aa.ret ?_
     try simp only[go_sem]
     clear hK6 K6 hK2 K2
     (exact⟨[],.v _,rfl,rfl,by rw[PI hb ae h2],rfl⟩))
   ·(
     try simp only[dD] at c16
     refine aa.skip ?_
     refine hK6 _ ?_;clear hK6 K6
     refine aa.region ?_
     simp only[go_sem]
     clear hK2 K2
     refine⟨i+1,?_,?_,?_⟩
     ·(try simp only[go_sem]);(try rw[av ab ab]);simp
     ·exact⟨by omega,kR hb h2 (by simp;assumption)⟩
     ·omega))
 ·(
   try simp only[dD] at c9
   refine aa.exit ?_
   simp only[go_sem]
   clear hK5 K5
   refine hK2 _ ?_;clear hK2 K2
   refine aa.aj fun K10 hK10=>?_
   refine aa.region ?_
   simp only[go_sem]
   refine hK10 _ ?_;clear hK10 K10
   refine aa.ret ?_
   try simp only[go_sem]
   (exact⟨[],.v _,rfl,rfl,by rw[YZ ab h2],rfl⟩))
theorem RB(l:List Bs)(id:Bs)(hl:l.length≤9223372036854775807):ai E 207 [.sl none 1 (l.map str),str id] (fun r t=>r=i64 (eR l id)∧t=[]):=by
 refine ai.aw (n:=19) (rs:=[.tmp 4]) Tryz.func207 rfl Tryz.ntmps207 rfl ?_
 refine aa.aj fun K1 hK1=>?_
 refine aa.region ?_
 simp only[go_sem]
 refine hK1 _ ?_;clear hK1 K1
 refine aa.aj fun K2 hK2=>?_
 refine aa.aj fun K3 hK3=>?_
 refine aa.region ?_
 simp only[go_sem]
 repeat'(((with_reducible refine And.intro ?_ ?_);(focus(((simp;done))));(try simp only[hb,go_sem])))
 refine hK3 _ ?_;clear hK3 K3
 refine aa.block ?_
 refine aa.nI (ι:=Nat) [4,5,9,10,11,12,13,14,15,16,17,18] (fun(i:Nat)=>[(8,i64 i)]) (fun(i:Nat)=>i≤l.length∧(l.take i).all (fun s=>!decide (id=s))=true) (fun(i:Nat)=>l.length-i) (0) ?_ ?_ ?_
 ·(try simp only[go_sem]);try(simp;done)
 ·exact⟨by omega,by simp⟩
 rintro i ⟨h1,h2⟩
 simp only[go_sem]
 refine aa.aj fun K4 hK4=>?_
 refine aa.region ?_
 simp only[go_sem]
 refine hK4 _ ?_;clear hK4 K4
 refine aa.aj fun K5 hK5=>?_
 refine aa.cond rfl (fun c9=>?_) (fun c9=>?_)
 ·(
   try simp only[dD] at c9
   refine aa.skip ?_
   refine hK5 _ ?_;clear hK5 K5
   refine aa.aj fun K6 hK6=>?_
   refine aa.block ?_
   refine aa.aj fun K7 hK7=>?_
   refine aa.region ?_
   simp only[go_sem]
   refine hK7 _ ?_;clear hK7 K7
   refine aa.aj fun K8 hK8=>?_
   refine aa.region ?_
   simp only[go_sem]
   repeat'(((refine aM.nth ?_ (fun b hb=>?_));(focus((omega)));(try simp only[hb,go_sem])))
   refine hK8 _ ?_;clear hK8 K8
   refine aa.cond rfl (fun c16=>?_) (fun c16=>?_)
   ·(
     try simp only[dD] at c16
     refine aa.aj fun K9 hK9=>?_
     refine aa.region ?_
     simp only[go_sem]
     refine hK9 _ ?_;clear hK9 K9
     refine aa.ret ?_
     try simp only[go_sem]
     clear hK6 K6 hK2 K2
     (exact⟨[],.v _,rfl,rfl,by rw[Ff hb ae h2],rfl⟩))
   ·(
     try simp only[dD] at c16
     refine aa.skip ?_
     refine hK6 _ ?_;clear hK6 K6
     refine aa.region ?_
     simp only[go_sem]
     clear hK2 K2
     refine⟨i+1,?_,?_,?_⟩
     ·(try simp only[go_sem]);(try rw[av ab ab]);simp
     ·exact⟨by omega,kR hb h2 (by simp;assumption)⟩
     ·omega))
 ·(
   try simp only[dD] at c9
   refine aa.exit ?_
   simp only[go_sem]
   clear hK5 K5
   refine hK2 _ ?_;clear hK2 K2
   refine aa.aj fun K10 hK10=>?_
   refine aa.region ?_
   simp only[go_sem]
   refine hK10 _ ?_;clear hK10 K10
   refine aa.ret ?_
   try simp only[go_sem]
   (exact⟨[],.v _,rfl,rfl,by rw[Qt ab h2],rfl⟩))
theorem Eo(l:List Bs)(id:Bs)(hl:l.length≤9223372036854775807):ai E 173 [.sl none 1 (l.map str),str id] (fun r t=>r=bl (lI l id)∧t=[]):=by
 refine ai.aw (n:=9) (rs:=[.tmp 4]) Tryz.func173 rfl Tryz.ntmps173 rfl ?_
 refine aa.aj fun K1 hK1=>?_
 refine aa.region ?_
 simp only[go_sem]
 refine hK1 _ ?_;clear hK1 K1
 refine aa.aj fun K2 hK2=>?_
 refine aa.region ?_
 simp only[go_sem]
 repeat'((refine ah.one (RB _ _ ab) af rfl ?_;simp only[go_sem]))
 refine hK2 _ ?_;clear hK2 K2
 refine aa.ret ?_
 try simp only[go_sem]
 exact⟨[],.v _,rfl,rfl,rfl,rfl⟩
theorem wy{b:Bk}{x:Ex}(h:(cp b.ak x.ord x.aq x.aA).2=0):dT b x=(⟨(cp b.ak x.ord x.aq x.aA).1,b.al++[jj x],b.ids,b.clock,b.bad⟩,0):=by unfold dT;simp[h]
theorem PE{b:Bk}{x:Ex}(h:(cp b.ak x.ord x.aq x.aA).2=1):dT b x=(b,4):=by unfold dT;simp[h]
theorem OT{b:Bk}{x:Ex}(h:(cp b.ak x.ord x.aq x.aA).2=9):dT b x=(b,5):=by unfold dT;simp[h]
theorem NB{b:Bk}{x:Ex}(h0:¬(cp b.ak x.ord x.aq x.aA).2=0)(h1:¬(cp b.ak x.ord x.aq x.aA).2=1)(h:¬(cp b.ak x.ord x.aq x.aA).2=9):dT b x=(b,2):=by unfold dT;simp[h0,h1,h]
abbrev Z0:Option (List AV):=some [.agg [.aQ,.aQ,.aQ,i64 0,i64 0]]
theorem jh:∀i,i≠2→i<6→cz [0,1,2,3,4,5] i=some i:=by
 intro i h1 h2
 have:i=0∨i=1∨i=3∨i=4∨i=5:=by omega
 rcases this with rfl|rfl|rfl|rfl|rfl<;>rfl
theorem DE:∀i,i≠2→i<6→cz [0,1,7,3,4,5] i=some i:=by
 intro i h1 h2
 have:i=0∨i=1∨i=3∨i=4∨i=5:=by omega
 rcases this with rfl|rfl|rfl|rfl|rfl<;>rfl
theorem C0{l:List Dn}(sp:List AV):(l.map bY++sp).take l.length=l.map bY:=List.take_left' aD
theorem Gb(σ:Nat→Option Nat)(l:List Dn)(d:Dn)(m:Nat):(l.map bY++[bY d]++spare 9 m).map (AV.ch σ)=(l++[d]).map bY++spare 9 m:=by
 rw[show l.map bY++[bY d]=(l++[d]).map bY by simp,oj]
theorem jD{b:Bk}{m:Nat}{x:Ex}{rest:List (Option (List AV))}:je (Z0::some [bg b m]::some (aZ b m)::some [ar x]::some [ar x]::some [ar x]::rest) [0,1,2,3,4,5]=[Z0,some [bg b m],some (aZ b m),some [ar x],some [ar x],some [ar x]]:=by
 show[Z0,some [bg b m],some ((aZ b m).map _),some [ar x],some [ar x],some [ar x]]=_
 rw[oj]
theorem QG{os:List Od}{l:List Dn}{d:Dn}{k c m:Nat}{ids y1 y2:AV}{x:Ex}{bx:Option (List AV)}(hi:ids.cb (cz [0,1,7,3,4,5])=ids)(h1:y1.cb (cz [0,1,7,3,4,5])=y1)(h2:y2.cb (cz [0,1,7,3,4,5])=y2):
 je [Z0,some [.agg [aV os,.mu 7 9 0 k c,ids,y1,y2]],none,some [ar x],some [ar x],some [ar x],bx,some (l.map bY++[bY d]++spare 9 m)] [0,1,7,3,4,5] =
  [Z0,some [.agg [aV os,.mu 2 9 0 k c,ids,y1,y2]],some ((l++[d]).map bY++spare 9 m),some [ar x],some [ar x],some [ar x]]:=by
 show[Z0,some [.agg [aV os,.mu 2 9 0 k c,ids.cb _,y1.cb _,y2.cb _]],some ((l.map bY++[bY d]++spare 9 m).map _),some [ar x],some [ar x],some [ar x]]=_
 rw[Gb,hi,h1,h2]
theorem uk(no:Nat){b:Bk}{m:Nat}{l:List (Option (List AV))}(hno:3≤no)(hl:iI no 1 l=true):iI no 1 (Z0::some [bg b m]::some (aZ b m)::l)=true:=by
 have h2:decide (2<no)=true:=decide_eq_true ab
 have hr:((aZ b m).all fun e=>e.leaves.all (AV.bO no 1))=true:=Uy no 1 b.al m
 unfold iI at hl ⊢
 rw[List.all_cons,List.all_cons,List.all_cons]
 simp only[Bool.and_eq_true]
 refine⟨rfl,?_,hr,hl⟩
 show((true&&(decide (2<no)&&(true&&(true&&(true&&true)))))&&true)=true
 rw[h2];rfl
theorem hX{b:Bk}{m:Nat}{x:Ex}:iI 6 1 [Z0,some [bg b m],some (aZ b m),some [ar x],some [ar x],some [ar x]]=true:=uk 6 ay rfl
theorem iD{b:Bk}{m:Nat}{x:Ex}:iI 5 1 [Z0,some [bg b m],some (aZ b m),some [ar x],some [ar x]]=true:=uk 5 ay rfl
theorem pr{b:Bk}{m:Nat}{x:Ex}:iI 4 1 [Z0,some [bg b m],some (aZ b m),some [ar x]]=true:=uk 4 ay rfl
set_option maxRecDepth 100000 in
theorem Nh{ops:Array Oper}{l:List Oper}{Q:Exit→St→Prop}{tmps up:List AV}{gl:Nat→Option (List AV)}{b:Bk}{x:Ex}{m:Nat}{dst:Option Tmp}{x0 x1:Operand}{tys:Array TypeId}{ty:TypeId}{pos:String}{after:Array Edge}
 (hx0:St.ev ⟨tmps,[Z0,some [bg b m],some (aZ b m),some [ar x],some [ar x],some [ar x]],[b.ids.length],gl,none,up⟩ x0= .ptr 1 0 0) (hx1:St.ev ⟨tmps,[Z0,some [bg b m],some (aZ b m),some [ar x],some [ar x],some [ar x]],[b.ids.length],gl,none,up⟩ x1=ar x)
 (hq:x.aq≤4611686018427387904) (ho:b.ak.length≤1000000) (hf:b.al.length≤1000000) (hup:(tmps++up).all (kp 6)=true)
 (h:∀(b':Bk) (e:Int) (m':Nat),dT b x=(b',e)→an E ops l Q (St.put ⟨tmps,[Z0,some [bg b' m'],some (aZ b' m'),some [ar x],some [ar x],some [ar x]],[b'.ids.length],gl,none,up⟩ dst (i64 e))):
 an E ops (⟨dst,.call ⟨.value (.func 210),#[x0,x1],tys⟩,ty,pos,after,none⟩::l) Q ⟨tmps,[Z0,some [bg b m],some (aZ b m),some [ar x],some [ar x],some [ar x]],[b.ids.length],gl,none,up⟩:=by
 refine an.call (caps:=[]) (rs:=[.tmp 4]) Tryz.func210 rfl Tryz.ntmps210 rfl af rfl rfl ?_
 show aa E _ _ ⟨([St.ev ⟨tmps,[Z0,some [bg b m],some (aZ b m),some [ar x],some [ar x],some [ar x]],[b.ids.length],gl,none,up⟩ x0,St.ev ⟨tmps,[Z0,some [bg b m],some (aZ b m),some [ar x],some [ar x],some [ar x]],[b.ids.length],gl,none,up⟩ x1]++[])++List.replicate (58-2) (.v undef),[Z0,some [bg b m],some (aZ b m),some [ar x],some [ar x],some [ar x]],[b.ids.length],gl,none,tmps++up⟩
 rw[hx0,hx1]
 have hK:∀(tm:List AV) (ow:List (Option (List AV))) (tk:List Nat) (b':Bk) (e:Int) (m':Nat),dT b x=(b',e)→ow=[Z0,some [bg b' m'],some (aZ b' m'),some [ar x],some [ar x],some [ar x]]→tk=[b'.ids.length]→tm[4]?=some (i64 e)→bR E.P [.tmp 4] ⟨tmps,[Z0,some [bg b m],some (aZ b m),some [ar x],some [ar x],some [ar x]],[b.ids.length],gl,none,up⟩ (fun s z=>an E ops l Q (s.put dst z)) .ret ⟨tm,ow,tk,gl,none,tmps++up⟩:=by
  intro tm ow tk b' e m' hb' how htk h4
  subst how;subst htk
  refine⟨rfl,?_⟩
  have:St.ev ⟨tm,[Z0,some [bg b' m'],some (aZ b' m'),some [ar x],some [ar x],some [ar x]],[b'.ids.length],gl,none,tmps++up⟩ (.tmp 4)=i64 e:=by simp[St.ev,List.getD_eq_getElem?_getD,h4]
  show an E ops l Q (St.put _ dst (gW [St.ev _ (.tmp 4)]))
  rw[this]
  exact h b' e m' hb'
 generalize bR E.P [.tmp 4] ⟨tmps,[Z0,some [bg b m],some (aZ b m),some [ar x],some [ar x],some [ar x]],[b.ids.length],gl,none,up⟩ (fun s z=>an E ops l Q (s.put dst z))=Q' at hK ⊢
 generalize tmps++up=up' at hup hK ⊢
 clear h hx0 hx1
 refine aa.aj fun K1 hK1=>?_
 refine aa.region ?_
 simp only[go_sem]
 refine hK1 _ ?_;clear hK1 K1
 refine aa.aj fun K2 hK2=>?_
 refine aa.bf [0,1,2,3,4,5,6,7,8,9,10,11,12,13,14,15] [] af af rfl ?_
 simp only[go_sem]
 repeat'((refine ah.of (F5 b.ak x.ord x.aq x.aA hq ab) af rfl ?_;rintro r t ⟨⟨y,rfl,hy⟩,rfl⟩<;>simp only[go_sem]))
 refine hK2 _ ?_;clear hK2 K2
 refine aa.aj fun K3 hK3=>?_
 refine aa.aj fun K4 hK4=>?_
 refine aa.region ?_
 simp only[go_sem]
 refine hK4 _ ?_;clear hK4 K4
 refine aa.block ?_
 refine aa.aj fun K5 hK5=>?_
 refine aa.region ?_
 simp only[go_sem]
 refine hK5 _ ?_;clear hK5 K5
 refine aa.cond rfl (fun c22=>?_) (fun c22=>?_)
 ·(
   try simp only[dD] at c22
   refine aa.skip ?_
   refine hK3 _ ?_;clear hK3 K3
   refine aa.aj fun K6 hK6=>?_
   have hx9:=hy ae
   subst hx9
   refine aa.region ?_
   simp only[go_sem]
   refine hK6 _ ?_;clear hK6 K6
   refine aa.aj fun K7 hK7=>?_
   refine aa.bf [0,1,2,3,4,5,6,7,8,9,10,11,12,13,14,15,16,17,18,19,20,21,22,23,24,25,26] [] af af rfl ?_
   simp only[go_sem]
   repeat'(((with_reducible refine And.intro ?_ ?_);(focus((first|omega|(simp;done)|(simp[cJ];done))));(try simp only[hb,go_sem])))
   intro m2
   simp only[go_sem,C0]
   refine hK7 _ ?_;clear hK7 K7
   refine aa.aj fun K8 hK8=>?_
   refine aa.region ?_
   simp only[go_sem]
   refine hK8 _ ?_;clear hK8 K8
   refine aa.dL [0,1,7,3,4,5] [Z0,some [bg (dT b x).1 m2],some (aZ (dT b x).1 m2),some [ar x],some [ar x],some [ar x]] [b.ids.length] 6 ay DE hup (Nat.le_refl _) (by rw[wy ae];exact(QG (d:=jj x) rfl rfl rfl).trans (by simp[aZ])) hX ⟨rfl,trivial⟩ (Nat.le_refl _) ?_
   refine aa.ret ?_
   try simp only[go_sem]
   (exact hK _ _ _ (dT b x).1 0 m2 (by rw[wy ae]) rfl (by rw[wy ae]) rfl))
 ·(
   try simp only[dD] at c22
   refine aa.aj fun K9 hK9=>?_
   refine aa.region ?_
   simp only[go_sem]
   refine hK9 _ ?_;clear hK9 K9
   refine aa.cond rfl (fun c24=>?_) (fun c24=>?_)
   ·(
     try simp only[dD] at c24
     refine aa.aj fun K10 hK10=>?_
     refine aa.region ?_
     simp only[go_sem]
     refine hK10 _ ?_;clear hK10 K10
     refine aa.dL [0,1,2,3,4,5] [Z0,some [bg b m],some (aZ b m),some [ar x],some [ar x],some [ar x]] [b.ids.length] 6 ay jh hup (Nat.le_refl _) jD hX ⟨rfl,trivial⟩ (Nat.le_refl _) ?_
     refine aa.ret ?_
     try simp only[go_sem]
     clear hK3 K3
     (exact hK _ _ _ b _ m (PE ae) rfl rfl rfl))
   ·(
     try simp only[dD] at c24
     refine aa.aj fun K11 hK11=>?_
     refine aa.region ?_
     simp only[go_sem]
     refine hK11 _ ?_;clear hK11 K11
     refine aa.cond rfl (fun iq=>?_) (fun iq=>?_)
     ·(
       try simp only[dD] at iq
       refine aa.aj fun K12 hK12=>?_
       refine aa.region ?_
       simp only[go_sem]
       refine hK12 _ ?_;clear hK12 K12
       refine aa.dL [0,1,2,3,4,5] [Z0,some [bg b m],some (aZ b m),some [ar x],some [ar x],some [ar x]] [b.ids.length] 6 ay jh hup (Nat.le_refl _) jD hX ⟨rfl,trivial⟩ (Nat.le_refl _) ?_
       refine aa.ret ?_
       try simp only[go_sem]
       clear hK3 K3
       (exact hK _ _ _ b _ m (OT ae) rfl rfl rfl))
     ·(
       try simp only[dD] at iq
       refine aa.aj fun K13 hK13=>?_
       refine aa.region ?_
       simp only[go_sem]
       refine hK13 _ ?_;clear hK13 K13
       refine aa.dL [0,1,2,3,4,5] [Z0,some [bg b m],some (aZ b m),some [ar x],some [ar x],some [ar x]] [b.ids.length] 6 ay jh hup (Nat.le_refl _) jD hX ⟨rfl,trivial⟩ (Nat.le_refl _) ?_
       refine aa.ret ?_
       try simp only[go_sem]
       clear hK3 K3
       (exact hK _ _ _ b _ m (NB ae ae ae) rfl rfl rfl))))
theorem tU{b:Bk}{x:Ex}(h:(cm b.ak x.ref x.ord x.aq x.aA).2=0):dZ b x=(⟨(cm b.ak x.ref x.ord x.aq x.aA).1,b.al,b.ids,b.clock,b.bad⟩,0):=by unfold dZ;simp[h]
theorem Rm{b:Bk}{x:Ex}(h:(cm b.ak x.ref x.ord x.aq x.aA).2=1):dZ b x=(b,4):=by unfold dZ;simp[h]
theorem IZ{b:Bk}{x:Ex}(h0:¬(cm b.ak x.ref x.ord x.aq x.aA).2=0)(h1:¬(cm b.ak x.ref x.ord x.aq x.aA).2=1):dZ b x=(b,2):=by unfold dZ;simp[h0,h1]
theorem S4{b:Bk}{x:Ex}(h:dI b.al x.ref=none):bQ b x=(b,6):=by unfold bQ;simp[h]
section
variable{b:Bk}{x:Ex}{n:Nat}{f:Dn}(e2:dI b.al x.ref=some n)(hb:b.al[n]?=some f)
include e2 hb
theorem Hr(h:f.live=false):bQ b x=(b,6):=by unfold bQ;simp[e2,hb,h]
theorem EK(h:10<x.time-f.time):bQ b x=(b,6):=by unfold bQ;simp[e2,hb,h]
variable(hl:f.live=true)(ht:¬10<x.time-f.time)
include hl ht
theorem rZ(h:f.ord≠x.ord∨f.acc≠x.acc∨f.sym≠x.sym∨f.az≠x.az):bQ b x=(b,3):=by
 unfold bQ;simp only[e2,mH hb]
 rw[if_neg (by simp[hl];omega),if_pos h]
variable(h1:f.ord=x.ord)(h2:f.acc=x.acc)(h3:f.sym=x.sym)(h4:f.az=x.az)
include h1 h2 h3 h4
theorem vx(h:x.kind=7):bQ b x=(⟨b.ak,b.al.set n ⟨f.id,f.ord,f.acc,f.sym,f.az,f.aq,f.aA,f.time,false⟩,b.ids,b.clock,b.bad⟩,0):=by
 unfold bQ;simp only[e2,mH hb]
 rw[if_neg (by simp[hl];omega),if_neg (by simp[h1,h2,h3,h4]),if_pos h]
variable(h5:¬x.kind=7)
include h5
theorem Um(h:f.aq<x.aq):bQ b x=(b,4):=by
 unfold bQ;simp only[e2,mH hb]
 rw[if_neg (by simp[hl];omega),if_neg (by simp[h1,h2,h3,h4]),if_neg h5,if_pos h]
variable(h6:¬f.aq<x.aq)
include h6
theorem yW(h:(findF b.ak f.ord).2=false∨eD { (findF b.ak f.ord).1 with az:=f.az } x.aA=false):bQ b x=(b,5):=by
 unfold bQ;simp only[e2,mH hb]
 rw[if_neg (by simp[hl];omega),if_neg (by simp[h1,h2,h3,h4]),if_neg h5,if_neg h6,if_pos h]
theorem we(h7:(findF b.ak f.ord).2=true)(h8:eD { (findF b.ak f.ord).1 with az:=f.az } x.aA=true):bQ b x=(⟨b.ak,b.al.set n ⟨f.id,f.ord,f.acc,f.sym,f.az,x.aq,x.aA,f.time,f.live⟩,b.ids,b.clock,b.bad⟩,0):=by
 unfold bQ;simp only[e2,mH hb]
 rw[if_neg (by simp[hl];omega),if_neg (by simp[h1,h2,h3,h4]),if_neg h5,if_neg h6,if_neg (by simp[h7,h8])]
end
theorem s7{os ids y1 y2:AV}{k c m:Nat}{l:List Dn}{x:Ex}{rest:List (Option (List AV))}(h0:os.cb (cz [0,1,2,3,4,5])=os)(hi:ids.cb (cz [0,1,2,3,4,5])=ids)(h1:y1.cb (cz [0,1,2,3,4,5])=y1)(h2:y2.cb (cz [0,1,2,3,4,5])=y2):
 je (Z0::some [.agg [os,.mu 2 9 0 k c,ids,y1,y2]]::some (l.map bY++spare 9 m)::some [ar x]::some [ar x]::some [ar x]::rest) [0,1,2,3,4,5]=[Z0,some [.agg [os,.mu 2 9 0 k c,ids,y1,y2]],some (l.map bY++spare 9 m),some [ar x],some [ar x],some [ar x]]:=by
 show[Z0,some [.agg [os.cb _,.mu 2 9 0 k c,ids.cb _,y1.cb _,y2.cb _]],some ((l.map bY++spare 9 m).map _),some [ar x],some [ar x],some [ar x]]=_
 rw[oj,h0,hi,h1,h2]
theorem KJ{a b:Int}(h1:0≤a∧a≤4611686018427387904)(h2:0≤b∧b≤4611686018427387904):IntKind.i64.wrap (a-b)=a-b:=av ab ab
set_option maxRecDepth 100000 in
theorem Jg{ops:Array Oper}{l:List Oper}{Q:Exit→St→Prop}{tmps up:List AV}{gl:Nat→Option (List AV)}{b:Bk}{x:Ex}{m:Nat}{dst:Option Tmp}{x0 x1:Operand}{tys:Array TypeId}{ty:TypeId}{pos:String}{after:Array Edge}
 (hx0:St.ev ⟨tmps,[Z0,some [bg b m],some (aZ b m),some [ar x],some [ar x],some [ar x]],[b.ids.length],gl,none,up⟩ x0= .ptr 1 0 0) (hx1:St.ev ⟨tmps,[Z0,some [bg b m],some (aZ b m),some [ar x],some [ar x],some [ar x]],[b.ids.length],gl,none,up⟩ x1=ar x)
  (ho:b.ak.length≤1000000) (hf:b.al.length≤1000000) (hup:(tmps++up).all (kp 6)=true)
 (h:∀(b':Bk) (e:Int) (m':Nat),dZ b x=(b',e)→an E ops l Q (St.put ⟨tmps,[Z0,some [bg b' m'],some (aZ b' m'),some [ar x],some [ar x],some [ar x]],[b'.ids.length],gl,none,up⟩ dst (i64 e))):
 an E ops (⟨dst,.call ⟨.value (.func 211),#[x0,x1],tys⟩,ty,pos,after,none⟩::l) Q ⟨tmps,[Z0,some [bg b m],some (aZ b m),some [ar x],some [ar x],some [ar x]],[b.ids.length],gl,none,up⟩:=by
 refine an.call (caps:=[]) (rs:=[.tmp 4]) Tryz.func211 rfl Tryz.ntmps211 rfl af rfl rfl ?_
 show aa E _ _ ⟨([St.ev ⟨tmps,[Z0,some [bg b m],some (aZ b m),some [ar x],some [ar x],some [ar x]],[b.ids.length],gl,none,up⟩ x0,St.ev ⟨tmps,[Z0,some [bg b m],some (aZ b m),some [ar x],some [ar x],some [ar x]],[b.ids.length],gl,none,up⟩ x1]++[])++List.replicate (32-2) (.v undef),[Z0,some [bg b m],some (aZ b m),some [ar x],some [ar x],some [ar x]],[b.ids.length],gl,none,tmps++up⟩
 rw[hx0,hx1]
 have hK:∀(tm:List AV) (ow:List (Option (List AV))) (tk:List Nat) (b':Bk) (e:Int) (m':Nat),dZ b x=(b',e)→ow=[Z0,some [bg b' m'],some (aZ b' m'),some [ar x],some [ar x],some [ar x]]→tk=[b'.ids.length]→tm[4]?=some (i64 e)→bR E.P [.tmp 4] ⟨tmps,[Z0,some [bg b m],some (aZ b m),some [ar x],some [ar x],some [ar x]],[b.ids.length],gl,none,up⟩ (fun s z=>an E ops l Q (s.put dst z)) .ret ⟨tm,ow,tk,gl,none,tmps++up⟩:=by
  intro tm ow tk b' e m' hb' how htk h4
  subst how;subst htk
  refine⟨rfl,?_⟩
  have:St.ev ⟨tm,[Z0,some [bg b' m'],some (aZ b' m'),some [ar x],some [ar x],some [ar x]],[b'.ids.length],gl,none,tmps++up⟩ (.tmp 4)=i64 e:=by simp[St.ev,List.getD_eq_getElem?_getD,h4]
  show an E ops l Q (St.put _ dst (gW [St.ev _ (.tmp 4)]))
  rw[this]
  exact h b' e m' hb'
 generalize bR E.P [.tmp 4] ⟨tmps,[Z0,some [bg b m],some (aZ b m),some [ar x],some [ar x],some [ar x]],[b.ids.length],gl,none,up⟩ (fun s z=>an E ops l Q (s.put dst z))=Q' at hK ⊢
 generalize tmps++up=up' at hup hK ⊢
 clear h hx0 hx1
 refine aa.aj fun K1 hK1=>?_
 refine aa.region ?_
 simp only[go_sem]
 refine hK1 _ ?_;clear hK1 K1
 refine aa.aj fun K2 hK2=>?_
 refine aa.bf [0,1,2,3,4,5,6,7,8,9,10,11,12,13,14,15,16,17] [] af af rfl ?_
 simp only[go_sem]
 repeat'((refine ah.of (YE b.ak x.ref x.ord x.aq x.aA ab) af rfl ?_;rintro r t ⟨⟨y,rfl,hy⟩,rfl⟩<;>simp only[go_sem]))
 refine hK2 _ ?_;clear hK2 K2
 refine aa.aj fun K3 hK3=>?_
 refine aa.aj fun K4 hK4=>?_
 refine aa.region ?_
 simp only[go_sem]
 refine hK4 _ ?_;clear hK4 K4
 refine aa.block ?_
 refine aa.aj fun K5 hK5=>?_
 refine aa.region ?_
 simp only[go_sem]
 refine hK5 _ ?_;clear hK5 K5
 refine aa.cond rfl (fun c24=>?_) (fun c24=>?_)
 ·(
   try simp only[dD] at c24
   refine aa.skip ?_
   refine hK3 _ ?_;clear hK3 K3
   refine aa.aj fun K6 hK6=>?_
   have hx9:=hy ae
   subst hx9
   refine aa.region ?_
   simp only[go_sem]
   refine hK6 _ ?_;clear hK6 K6
   refine aa.aj fun K7 hK7=>?_
   refine aa.region ?_
   simp only[go_sem]
   refine hK7 _ ?_;clear hK7 K7
   refine aa.dL [0,1,2,3,4,5] [Z0,some [bg (dZ b x).1 m],some (aZ (dZ b x).1 m),some [ar x],some [ar x],some [ar x]] [b.ids.length] 6 ay jh hup (Nat.le_refl _) (by rw[tU ae];exact s7 rfl rfl rfl rfl) hX ⟨rfl,trivial⟩ (Nat.le_refl _) ?_
   refine aa.ret ?_
   try simp only[go_sem]
   (exact hK _ _ _ (dZ b x).1 0 m (by rw[tU ae]) rfl (by rw[tU ae]) rfl))
 ·(
   try simp only[dD] at c24
   refine aa.aj fun K8 hK8=>?_
   refine aa.region ?_
   simp only[go_sem]
   refine hK8 _ ?_;clear hK8 K8
   refine aa.cond rfl (fun iq=>?_) (fun iq=>?_)
   ·(
     try simp only[dD] at iq
     refine aa.aj fun K9 hK9=>?_
     refine aa.region ?_
     simp only[go_sem]
     refine hK9 _ ?_;clear hK9 K9
     refine aa.dL [0,1,2,3,4,5] [Z0,some [bg b m],some (aZ b m),some [ar x],some [ar x],some [ar x]] [b.ids.length] 6 ay jh hup (Nat.le_refl _) jD hX ⟨rfl,trivial⟩ (Nat.le_refl _) ?_
     refine aa.ret ?_
     try simp only[go_sem]
     clear hK3 K3
     (exact hK _ _ _ b _ m (Rm ae) rfl rfl rfl))
   ·(
     try simp only[dD] at iq
     refine aa.aj fun K10 hK10=>?_
     refine aa.region ?_
     simp only[go_sem]
     refine hK10 _ ?_;clear hK10 K10
     refine aa.dL [0,1,2,3,4,5] [Z0,some [bg b m],some (aZ b m),some [ar x],some [ar x],some [ar x]] [b.ids.length] 6 ay jh hup (Nat.le_refl _) jD hX ⟨rfl,trivial⟩ (Nat.le_refl _) ?_
     refine aa.ret ?_
     try simp only[go_sem]
     clear hK3 K3
     (exact hK _ _ _ b _ m (IZ ae ae) rfl rfl rfl)))
set_option maxRecDepth 100000 in
theorem w5{ops:Array Oper}{l:List Oper}{Q:Exit→St→Prop}{tmps up:List AV}{gl:Nat→Option (List AV)}{b:Bk}{x:Ex}{m:Nat}{dst:Option Tmp}{x0 x1:Operand}{tys:Array TypeId}{ty:TypeId}{pos:String}{after:Array Edge}
 (hx0:St.ev ⟨tmps,[Z0,some [bg b m],some (aZ b m),some [ar x],some [ar x],some [ar x]],[b.ids.length],gl,none,up⟩ x0= .ptr 1 0 0) (hx1:St.ev ⟨tmps,[Z0,some [bg b m],some (aZ b m),some [ar x],some [ar x],some [ar x]],[b.ids.length],gl,none,up⟩ x1=ar x)
 (htx:0≤x.time∧x.time≤4611686018427387904) (htf:∀f∈b.al,0≤f.time∧f.time≤4611686018427387904) (ho:b.ak.length≤1000000) (hf:b.al.length≤1000000) (hup:(tmps++up).all (kp 6)=true)
 (h:∀(b':Bk) (e:Int) (m':Nat),bQ b x=(b',e)→an E ops l Q (St.put ⟨tmps,[Z0,some [bg b' m'],some (aZ b' m'),some [ar x],some [ar x],some [ar x]],[b'.ids.length],gl,none,up⟩ dst (i64 e))):
 an E ops (⟨dst,.call ⟨.value (.func 209),#[x0,x1],tys⟩,ty,pos,after,none⟩::l) Q ⟨tmps,[Z0,some [bg b m],some (aZ b m),some [ar x],some [ar x],some [ar x]],[b.ids.length],gl,none,up⟩:=by
 refine an.call (caps:=[]) (rs:=[.tmp 4]) Tryz.func209 rfl Tryz.ntmps209 rfl af rfl rfl ?_
 show aa E _ _ ⟨([St.ev ⟨tmps,[Z0,some [bg b m],some (aZ b m),some [ar x],some [ar x],some [ar x]],[b.ids.length],gl,none,up⟩ x0,St.ev ⟨tmps,[Z0,some [bg b m],some (aZ b m),some [ar x],some [ar x],some [ar x]],[b.ids.length],gl,none,up⟩ x1]++[])++List.replicate (130-2) (.v undef),[Z0,some [bg b m],some (aZ b m),some [ar x],some [ar x],some [ar x]],[b.ids.length],gl,none,tmps++up⟩
 rw[hx0,hx1]
 have hK:∀(tm:List AV) (ow:List (Option (List AV))) (tk:List Nat) (b':Bk) (e:Int) (m':Nat),bQ b x=(b',e)→ow=[Z0,some [bg b' m'],some (aZ b' m'),some [ar x],some [ar x],some [ar x]]→tk=[b'.ids.length]→tm[4]?=some (i64 e)→bR E.P [.tmp 4] ⟨tmps,[Z0,some [bg b m],some (aZ b m),some [ar x],some [ar x],some [ar x]],[b.ids.length],gl,none,up⟩ (fun s z=>an E ops l Q (s.put dst z)) .ret ⟨tm,ow,tk,gl,none,tmps++up⟩:=by
  intro tm ow tk b' e m' hb' how htk h4
  subst how;subst htk
  refine⟨rfl,?_⟩
  have:St.ev ⟨tm,[Z0,some [bg b' m'],some (aZ b' m'),some [ar x],some [ar x],some [ar x]],[b'.ids.length],gl,none,tmps++up⟩ (.tmp 4)=i64 e:=by simp[St.ev,List.getD_eq_getElem?_getD,h4]
  show an E ops l Q (St.put _ dst (gW [St.ev _ (.tmp 4)]))
  rw[this]
  exact h b' e m' hb'
 generalize bR E.P [.tmp 4] ⟨tmps,[Z0,some [bg b m],some (aZ b m),some [ar x],some [ar x],some [ar x]],[b.ids.length],gl,none,up⟩ (fun s z=>an E ops l Q (s.put dst z))=Q' at hK ⊢
 generalize tmps++up=up' at hup hK ⊢
 clear h hx0 hx1
 refine aa.aj fun K1 hK1=>?_
 refine aa.region ?_
 simp only[go_sem]
 refine hK1 _ ?_;clear hK1 K1
 refine aa.aj fun K2 hK2=>?_
 refine aa.region ?_
 simp only[go_sem]
 repeat'((refine ah.fZ (Yi b.al x ab) af rfl (.cons (.one (.jy rfl aD (qi _))) (.cons (.fn (.cons (.ptr (e:=ar x) rfl (FT x)) .nil)) .nil)) ?_;simp only[go_sem]))
 refine hK2 _ ?_;clear hK2 K2
 refine aa.aj fun K3 hK3=>?_
 refine aa.aj fun K4 hK4=>?_
 rcases tL b.al x.ref with⟨e,e2⟩|⟨n,f,e,e2,hb⟩<;>simp only[e]
 all_goals first|have hn:n<b.al.length:=bM hb|skip
 all_goals first|have hg:=xi hb (spare 9 m)|have hg:True:=trivial
 all_goals first|have hw:=KJ htx (htf f (List.mem_of_getElem? hb))|have hw:True:=trivial
 all_goals(
  refine aa.bf [0,1,2,3,4,5,6,7,8,9,10,11,12,13,14,15,16,17,18,19,20,21,22,23,24,25,26] [] af af rfl ?_
  simp only[go_sem,hg,hw]
  repeat'(first|(refine aL.cc (fun h=>?_) (fun h=>?_)<;>simp only[h,go_sem,hg,hw]<;>try simp only[dD] at h)|(refine aL.split (fun h=>?_) (fun h=>?_)<;>simp only[h,go_sem,hg,hw]<;>try simp only[dD] at h)|((with_reducible refine And.intro ?_ ?_);(focus((omega)));(try simp only[hb,go_sem,hg,hw])))
  all_goals(
   refine hK4 _ ?_;clear hK4 K4
   refine aa.cond rfl (fun c41=>?_) (fun c41=>?_)
   ·(
     try simp only[dD] at c41
     refine aa.aj fun K5 hK5=>?_
     refine aa.region ?_
     simp only[go_sem]
     refine hK5 _ ?_;clear hK5 K5
     refine aa.dL [0,1,2,3,4,5] [Z0,some [bg b m],some (aZ b m),some [ar x],some [ar x],some [ar x]] [b.ids.length] 6 ay jh hup (Nat.le_refl _) jD hX ⟨rfl,trivial⟩ (Nat.le_refl _) ?_
     refine aa.ret ?_
     try simp only[go_sem]
     clear hK3 K3
     first
     |(exfalso;omega)
     |exact hK _ _ _ b _ m (S4 e2) rfl rfl rfl
     |exact hK _ _ _ b _ m (Hr e2 hb ae) rfl rfl rfl
     |exact hK _ _ _ b _ m (EK e2 hb ae) rfl rfl rfl)
   ·first|exact Bool.noConfusion c41|(
     try simp only[dD] at c41
     refine aa.skip ?_
     refine hK3 _ ?_;clear hK3 K3
     refine aa.aj fun K6 hK6=>?_
     refine aa.region ?_
     simp only[go_sem,hg]
     repeat'(((with_reducible refine And.intro ?_ ?_);(focus((omega)));(try simp only[hb,go_sem,hg])))
     refine hK6 _ ?_;clear hK6 K6
     refine aa.aj fun K7 hK7=>?_
     refine aa.aj fun K8 hK8=>?_
     refine aa.bf [0,1,2,3,4,5,6,7,8,9,10,11,12,13,14,15,16,17,18,19,20,21,22,23,24,25,26,27,28,29,30,31,32,33] [] af af rfl ?_
     simp only[go_sem,hg]
     repeat'((refine aL.split (fun h=>?_) (fun h=>?_)<;>simp only[h,go_sem,hg]<;>try simp only[dD] at h))
     all_goals(
      refine hK8 _ ?_;clear hK8 K8
      refine aa.cond rfl (fun c81=>?_) (fun c81=>?_)
      ·(
        try simp only[dD] at c81
        refine aa.aj fun K9 hK9=>?_
        refine aa.region ?_
        simp only[go_sem]
        refine hK9 _ ?_;clear hK9 K9
        refine aa.dL [0,1,2,3,4,5] [Z0,some [bg b m],some (aZ b m),some [ar x],some [ar x],some [ar x]] [b.ids.length] 6 ay jh hup (Nat.le_refl _) jD hX ⟨rfl,trivial⟩ (Nat.le_refl _) ?_
        refine aa.ret ?_
        try simp only[go_sem]
        clear hK7 K7
        first
        |exact hK _ _ _ b _ m (rZ e2 hb ae ae (.inl ae)) rfl rfl rfl
        |exact hK _ _ _ b _ m (rZ e2 hb ae ae (.inr (.inl ae))) rfl rfl rfl
        |exact hK _ _ _ b _ m (rZ e2 hb ae ae (.inr (.inr (.inl ae)))) rfl rfl rfl
        |exact hK _ _ _ b _ m (rZ e2 hb ae ae (.inr (.inr (.inr ae)))) rfl rfl rfl)
      ·first|exact Bool.noConfusion c81|(
        try simp only[dD] at c81
        refine aa.skip ?_
        refine hK7 _ ?_;clear hK7 K7
        refine aa.aj fun K10 hK10=>?_
        refine aa.aj fun K11 hK11=>?_
        refine aa.region ?_
        simp only[go_sem]
        refine hK11 _ ?_;clear hK11 K11
        refine aa.cond rfl (fun c84=>?_) (fun c84=>?_)
        ·(
          try simp only[dD] at c84
          refine aa.aj fun K12 hK12=>?_
          refine aa.region ?_
          simp only[go_sem]
          repeat'((refine aM.gj ae ?_;(try simp only[go_sem])))
          refine hK12 _ ?_;clear hK12 K12
          refine aa.aj fun K13 hK13=>?_
          rw[vL (o':=⟨f.id,f.ord,f.acc,f.sym,f.az,f.aq,f.aA,f.time,false⟩) hb (spare 9 m)]
          refine aa.region ?_
          simp only[go_sem]
          refine hK13 _ ?_;clear hK13 K13
          refine aa.dL [0,1,2,3,4,5] [Z0,some [bg (bQ b x).1 m],some (aZ (bQ b x).1 m),some [ar x],some [ar x],some [ar x]] [b.ids.length] 6 ay jh hup (Nat.le_refl _) (by rw[vx e2 hb ae ae ae ae ae ae ae];exact(s7 rfl rfl rfl rfl).trans (by simp[aZ])) hX ⟨rfl,trivial⟩ (Nat.le_refl _) ?_
          refine aa.ret ?_
          try simp only[go_sem]
          clear hK10 K10
          (exact hK _ _ _ (bQ b x).1 0 m (by rw[vx e2 hb ae ae ae ae ae ae ae]) rfl (by rw[vx e2 hb ae ae ae ae ae ae ae]) rfl))
        ·(
          try simp only[dD] at c84
          refine aa.skip ?_
          refine hK10 _ ?_;clear hK10 K10
          refine aa.aj fun K14 hK14=>?_
          refine aa.aj fun K15 hK15=>?_
          refine aa.bf [0,1,2,3,4,5,6] [] af af rfl ?_
          simp only[go_sem,hg]
          refine hK15 _ ?_;clear hK15 K15
          refine aa.cond rfl (fun c94=>?_) (fun c94=>?_)
          ·(
            try simp only[dD] at c94
            refine aa.aj fun K16 hK16=>?_
            refine aa.region ?_
            simp only[go_sem]
            refine hK16 _ ?_;clear hK16 K16
            refine aa.dL [0,1,2,3,4,5] [Z0,some [bg b m],some (aZ b m),some [ar x],some [ar x],some [ar x]] [b.ids.length] 6 ay jh hup (Nat.le_refl _) jD hX ⟨rfl,trivial⟩ (Nat.le_refl _) ?_
            refine aa.ret ?_
            try simp only[go_sem]
            clear hK14 K14
            (exact hK _ _ _ b _ m (Um e2 hb ae ae ae ae ae ae ae ae) rfl rfl rfl))
          ·(
            try simp only[dD] at c94
            refine aa.skip ?_
            refine hK14 _ ?_;clear hK14 K14
            refine aa.aj fun K17 hK17=>?_
            refine aa.uI (.take 0 (.take 1 (.take 2 (.take 3 (.take 4 (.take 5 (.take 6 (.take 7 (.fork (.alt 8 (.take 9 (.take 10 (.take 11 (.take 12 (.take 13 (.take 14 .done)))))) (.alt 12 (.take 8 (.take 9 (.take 10 (.take 11 (.take 13 (.take 14 .done)))))) .ends))))))))))) [[],[0],[0,1],[0,1,2],[],[4],[4,5],[4,5,6],[0,1,2,3,4,5,6,7],[0,1,2,3,4,5,6,7,8],[0,1,2,3,4,5,6,7,8,9],[0,1,2,3,4,5,6,7,8,9],[],[0,1,2,3,4,5,6,7,8,9,10,12],[0,1,2,3,4,5,6,7,8,9,10,11,12,13]] [7] af af ay ?_
            simp only[go_sem,hg]
            refine And.intro ?_ ?_
            repeat'((refine ah.one (rh b.ak f.ord ab) af rfl ?_;simp only[go_sem,hg]))
            all_goals(
             refine hK17 _ ?_;clear hK17 K17
             refine aa.aj fun K18 hK18=>?_
             refine aa.aj fun K19 hK19=>?_
             refine aa.bf [0,1,2,3,4,5,6,7,8,9,10,11,12] [] af af rfl ?_
             simp only[go_sem,hg]
             repeat'(first|(refine ah.one (HE (findF b.ak f.ord).1 f.az x.aA) af rfl ?_;simp only[go_sem,hg])|(refine aL.split (fun h=>?_) (fun h=>?_)<;>simp only[h,go_sem,hg]<;>try simp only[dD] at h))
             all_goals(
              refine hK19 _ ?_;clear hK19 K19
              refine aa.cond rfl (fun c119=>?_) (fun c119=>?_)
              ·(
                try simp only[dD] at c119
                refine aa.aj fun K20 hK20=>?_
                refine aa.region ?_
                simp only[go_sem]
                refine hK20 _ ?_;clear hK20 K20
                refine aa.dL [0,1,2,3,4,5] [Z0,some [bg b m],some (aZ b m),some [ar x],some [ar x],some [ar x]] [b.ids.length] 6 ay jh hup (Nat.le_refl _) jD hX ⟨rfl,trivial⟩ (Nat.le_refl _) ?_
                refine aa.ret ?_
                try simp only[go_sem]
                clear hK18 K18
                first
                |exact hK _ _ _ b _ m (yW e2 hb ae ae ae ae ae ae ae ae (.inl ae)) rfl rfl rfl
                |exact hK _ _ _ b _ m (yW e2 hb ae ae ae ae ae ae ae ae (.inr ae)) rfl rfl rfl)
              ·first|exact Bool.noConfusion c119|(
                try simp only[dD] at c119
                refine aa.skip ?_
                refine hK18 _ ?_;clear hK18 K18
                refine aa.aj fun K21 hK21=>?_
                refine aa.region ?_
                simp only[go_sem]
                repeat'((refine aM.gj ae ?_;(try simp only[go_sem])))
                refine hK21 _ ?_;clear hK21 K21
                refine aa.aj fun K22 hK22=>?_
                rw[vL (o':=⟨f.id,f.ord,f.acc,f.sym,f.az,x.aq,f.aA,f.time,f.live⟩) hb (spare 9 m)]
                have hb1:(b.al.set n ⟨f.id,f.ord,f.acc,f.sym,f.az,x.aq,f.aA,f.time,f.live⟩)[n]?=some ⟨f.id,f.ord,f.acc,f.sym,f.az,x.aq,f.aA,f.time,f.live⟩:=List.getElem?_set_self hn
                have hg2:=xi hb1 (spare 9 m)
                refine aa.region ?_
                simp only[go_sem,hg2]
                refine hK22 _ ?_;clear hK22 K22
                refine aa.aj fun K23 hK23=>?_
                rw[vL (o':=⟨f.id,f.ord,f.acc,f.sym,f.az,x.aq,x.aA,f.time,f.live⟩) hb1 (spare 9 m),List.set_set]
                refine aa.region ?_
                simp only[go_sem]
                refine hK23 _ ?_;clear hK23 K23
                refine aa.dL [0,1,2,3,4,5] [Z0,some [bg (bQ b x).1 m],some (aZ (bQ b x).1 m),some [ar x],some [ar x],some [ar x]] [b.ids.length] 6 ay jh hup (Nat.le_refl _) (by rw[we e2 hb ae ae ae ae ae ae ae ae ae ae];exact(s7 rfl rfl rfl rfl).trans (by simp[aZ])) hX ⟨rfl,trivial⟩ (Nat.le_refl _) ?_
                refine aa.ret ?_
                try simp only[go_sem]
                (exact hK _ _ _ (bQ b x).1 0 m (by rw[we e2 hb ae ae ae ae ae ae ae ae ae ae]) rfl (by rw[we e2 hb ae ae ae ae ae ae ae ae ae ae]) rfl)))))))))))
theorem IP{x:Ex}(h:du x=true):x.aq≤4611686018427387904∧0≤x.time∧x.time≤4611686018427387904:=by
 simp only[du,bS,mq,Bool.and_eq_true,decide_eq_true_eq] at h
 omega
theorem XM{b:Bk}{x:Ex}(h:x.time<b.clock):bU b x=(b,1):=by unfold bU;rw[if_pos h]
section
variable{b:Bk}{x:Ex}(h0:¬x.time<b.clock)
include h0
theorem JL(hk:x.kind=1)(h:¬(cN b.ak (gh x)).2=0):bU b x=(b,2):=by unfold bU;rw[if_neg h0,if_pos hk];simp only[if_neg h]
theorem Ts(hk:x.kind=1)(h:(cN b.ak (gh x)).2=0):bU b x=(⟨(cN b.ak (gh x)).1,b.al,b.ids,b.clock,b.bad⟩,0):=by unfold bU;rw[if_neg h0,if_pos hk];simp only[if_pos h]
variable(hk1:¬x.kind=1)
include hk1
theorem yJ(hk:x.kind=7∨x.kind=8):bU b x=bQ b x:=by unfold bU;rw[if_neg h0,if_neg hk1,if_pos hk]
variable(hk7:¬x.kind=7)(hk8:¬x.kind=8)
include hk7 hk8
variable{id:Bs}(hid:(if x.kind=4 then x.ref else x.ord)=id)
include hid
theorem r5(h:(findF b.ak id).2=false∨(findF b.ak id).1.bq=false):bU b x=(b,2):=by
 unfold bU;rw[if_neg h0,if_neg hk1,if_neg (by simp[hk7,hk8])];simp only[hid];rw[if_pos h]
variable(g1:(findF b.ak id).2=true)(g2:(findF b.ak id).1.bq=true)
include g1 g2
theorem nU(h:(findF b.ak id).1.acc≠x.acc∨(findF b.ak id).1.sym≠x.sym∨(findF b.ak id).1.az≠x.az):bU b x=(b,3):=by
 unfold bU;rw[if_neg h0,if_neg hk1,if_neg (by simp[hk7,hk8])];simp only[hid];rw[if_neg (by simp[g1,g2]),if_pos h]
variable(g3:(findF b.ak id).1.acc=x.acc)(g4:(findF b.ak id).1.sym=x.sym)(g5:(findF b.ak id).1.az=x.az)
include g3 g4 g5
theorem KC(hk:x.kind=2):bU b x=dT b x:=by
 unfold bU;rw[if_neg h0,if_neg hk1,if_neg (by simp[hk7,hk8])];simp only[hid];rw[if_neg (by simp[g1,g2]),if_neg (by simp[g3,g4,g5]),if_pos hk]
variable(hk2:¬x.kind=2)
include hk2
theorem NJ(hk:x.kind=4):bU b x=dZ b x:=by
 unfold bU;rw[if_neg h0,if_neg hk1,if_neg (by simp[hk7,hk8])];simp only[hid];rw[if_neg (by simp[g1,g2]),if_neg (by simp[g3,g4,g5]),if_neg hk2,if_pos hk]
variable(hk4:¬x.kind=4)
include hk4
theorem UJ(h:¬(dE b.ak x.ord).2=0):bU b x=(b,2):=by
 unfold bU;rw[if_neg h0,if_neg hk1,if_neg (by simp[hk7,hk8])];simp only[hid];rw[if_neg (by simp[g1,g2]),if_neg (by simp[g3,g4,g5]),if_neg hk2,if_neg hk4];simp only[if_neg h]
theorem E9(h:(dE b.ak x.ord).2=0):bU b x=(⟨(dE b.ak x.ord).1,b.al,b.ids,b.clock,b.bad⟩,0):=by
 unfold bU;rw[if_neg h0,if_neg hk1,if_neg (by simp[hk7,hk8])];simp only[hid];rw[if_neg (by simp[g1,g2]),if_neg (by simp[g3,g4,g5]),if_neg hk2,if_neg hk4];simp only[if_pos h]
end
theorem iM:∀i,i≠2→i<5→cz [0,1,2,3,4] i=some i:=by
 intro i h1 h2
 have:i=0∨i=1∨i=3∨i=4:=by omega
 rcases this with rfl|rfl|rfl|rfl<;>rfl
theorem iW{os ids y1 y2:AV}{k c m:Nat}{l:List Dn}{x:Ex}{rest:List (Option (List AV))}(h0:os.cb (cz [0,1,2,3,4])=os)(hi:ids.cb (cz [0,1,2,3,4])=ids)(h1:y1.cb (cz [0,1,2,3,4])=y1)(h2:y2.cb (cz [0,1,2,3,4])=y2):
 je (Z0::some [.agg [os,.mu 2 9 0 k c,ids,y1,y2]]::some (l.map bY++spare 9 m)::some [ar x]::some [ar x]::rest) [0,1,2,3,4]=[Z0,some [.agg [os,.mu 2 9 0 k c,ids,y1,y2]],some (l.map bY++spare 9 m),some [ar x],some [ar x]]:=by
 show[Z0,some [.agg [os.cb _,.mu 2 9 0 k c,ids.cb _,y1.cb _,y2.cb _]],some ((l.map bY++spare 9 m).map _),some [ar x],some [ar x]]=_
 rw[oj,h0,hi,h1,h2]
theorem pv{n k:Nat}(h:n≤k){x:AV}(hx:fC n x=true):fC k x=true:=by
 cases x<;>simp only[fC,Bool.and_eq_true,bne_iff_ne,decide_eq_true_eq] at hx ⊢ <;>first|(exact⟨hx.1,by omega⟩)|(simp at hx;done)|skip
 case sl t k es=>cases t<;>simp[fC] at hx ⊢;exact hx
 case fn f cs=>cases cs<;>simp[fC] at hx ⊢
theorem TW{n k:Nat}(h:n≤k){x:AV}(hx:kp n x=true):kp k x=true:=by
 cases x with
 |agg cs=>exact List.all_eq_true.2 fun y hy=>pv h (List.all_eq_true.1 hx y hy)
 |aC cs=>simp[kp,fC] at hx
 |fn f cs=>exact pv (x:= .fn f cs) h hx
 |sl t k es=>exact pv (x:= .sl t k es) h hx
 |mu id k o l c=>exact pv (x:= .mu id k o l c) h hx
 |ptr id i o=>exact pv (x:= .ptr id i o) h hx
 |_=>rfl
theorem nN{n k:Nat}(h:n≤k){l up:List AV}(h1:l.all (kp k)=true)(h2:up.all (kp n)=true):(l++up).all (kp k)=true:=by
 rw[List.all_append,h1,Bool.true_and]
 exact List.all_eq_true.2 fun x hx=>TW h (List.all_eq_true.1 h2 x hx)
theorem vp{no nt:Nat}:∀{l r:List (Option (List AV))},iI no nt l=true→iA no nt (l++r) l
 |[],_,_=>by unfold iA;trivial
 |x::l,r,h=>by
  simp only[iI,List.all_cons,Bool.and_eq_true] at h
  refine⟨.inr ⟨rfl,fun es hes e he z hz=>?_⟩,vp h.2⟩
  have h1:=h.1
  rw[hes] at h1
  exact List.all_eq_true.1 (List.all_eq_true.1 h1 e he) z hz
theorem aa.cut{E:Env}{c:Code}{Q:Exit→St→Prop}{tmps tmps' up:List AV}{own' rest:List (Option (List AV))}{tk':List Nat}{gl:Nat→Option (List AV)}{n:Nat}(hup:up.all (kp n)=true)(hn:n≤own'.length)(h0:1≤tk'.length)(hb:iI own'.length tk'.length own'=true)(h1:jN own'.length tk'.length tmps tmps')(hk:jw tk' tk')
 (hw:aa E c Q ⟨tmps',own',tk',gl,none,up⟩):aa E c Q ⟨tmps,own'++rest,tk',gl,none,up⟩:=
 aa.weaken (t:=⟨tmps',own',tk',gl,none,up⟩) ⟨h1,vp hb,hk,rfl,rfl,rfl,List.all_eq_true.2 fun x hx=>vG hn h0 (List.all_eq_true.1 hup x hx)⟩ hw
set_option maxRecDepth 100000 in
theorem L8{ops:Array Oper}{l:List Oper}{Q:Exit→St→Prop}{tmps up:List AV}{gl:Nat→Option (List AV)}{b:Bk}{x:Ex}{m:Nat}{dst:Option Tmp}{x0 x1:Operand}{tys:Array TypeId}{ty:TypeId}{pos:String}{after:Array Edge}
 (hx0:St.ev ⟨tmps,[Z0,some [bg b m],some (aZ b m),some [ar x],some [ar x]],[b.ids.length],gl,none,up⟩ x0= .ptr 1 0 0) (hx1:St.ev ⟨tmps,[Z0,some [bg b m],some (aZ b m),some [ar x],some [ar x]],[b.ids.length],gl,none,up⟩ x1=ar x)
 (hx:du x=true) (htf:∀f∈b.al,0≤f.time∧f.time≤4611686018427387904) (ho:b.ak.length≤1000000) (hf:b.al.length≤1000000) (hup:(tmps++up).all (kp 5)=true)
 (h:∀(b':Bk) (e:Int) (m':Nat),bU b x=(b',e)→an E ops l Q (St.put ⟨tmps,[Z0,some [bg b' m'],some (aZ b' m'),some [ar x],some [ar x]],[b'.ids.length],gl,none,up⟩ dst (i64 e))):
 an E ops (⟨dst,.call ⟨.value (.func 174),#[x0,x1],tys⟩,ty,pos,after,none⟩::l) Q ⟨tmps,[Z0,some [bg b m],some (aZ b m),some [ar x],some [ar x]],[b.ids.length],gl,none,up⟩:=by
 refine an.call (caps:=[]) (rs:=[.tmp 4]) Tryz.func174 rfl Tryz.ntmps174 rfl af rfl rfl ?_
 show aa E _ _ ⟨([St.ev ⟨tmps,[Z0,some [bg b m],some (aZ b m),some [ar x],some [ar x]],[b.ids.length],gl,none,up⟩ x0,St.ev ⟨tmps,[Z0,some [bg b m],some (aZ b m),some [ar x],some [ar x]],[b.ids.length],gl,none,up⟩ x1]++[])++List.replicate (126-2) (.v undef),[Z0,some [bg b m],some (aZ b m),some [ar x],some [ar x]],[b.ids.length],gl,none,tmps++up⟩
 rw[hx0,hx1]
 have hK:∀(tm:List AV) (ow:List (Option (List AV))) (tk:List Nat) (b':Bk) (e:Int) (m':Nat),bU b x=(b',e)→ow=[Z0,some [bg b' m'],some (aZ b' m'),some [ar x],some [ar x]]→tk=[b'.ids.length]→tm[4]?=some (i64 e)→bR E.P [.tmp 4] ⟨tmps,[Z0,some [bg b m],some (aZ b m),some [ar x],some [ar x]],[b.ids.length],gl,none,up⟩ (fun s z=>an E ops l Q (s.put dst z)) .ret ⟨tm,ow,tk,gl,none,tmps++up⟩:=by
  intro tm ow tk b' e m' hb' how htk h4
  subst how;subst htk
  refine⟨rfl,?_⟩
  have:St.ev ⟨tm,[Z0,some [bg b' m'],some (aZ b' m'),some [ar x],some [ar x]],[b'.ids.length],gl,none,tmps++up⟩ (.tmp 4)=i64 e:=by simp[St.ev,List.getD_eq_getElem?_getD,h4]
  show an E ops l Q (St.put _ dst (gW [St.ev _ (.tmp 4)]))
  rw[this]
  exact h b' e m' hb'
 generalize bR E.P [.tmp 4] ⟨tmps,[Z0,some [bg b m],some (aZ b m),some [ar x],some [ar x]],[b.ids.length],gl,none,up⟩ (fun s z=>an E ops l Q (s.put dst z))=Q' at hK ⊢
 generalize tmps++up=up' at hup hK ⊢
 clear h hx0 hx1
 have hxx:=IP hx
 have hq:=hxx.1
 have htx:=hxx.2
 refine aa.aj fun K1 hK1=>?_
 refine aa.region ?_
 simp only[go_sem]
 refine hK1 _ ?_;clear hK1 K1
 refine aa.aj fun K2 hK2=>?_
 refine aa.aj fun K3 hK3=>?_
 refine aa.bf [0,1,2,3,4,5,6] [] af af rfl ?_
 simp only[go_sem]
 refine hK3 _ ?_;clear hK3 K3
 refine aa.cond rfl (fun c18=>?_) (fun c18=>?_)
 ·(
  try simp only[dD] at c18
  refine aa.aj fun K4 hK4=>?_
  refine aa.region ?_
  simp only[go_sem]
  refine hK4 _ ?_;clear hK4 K4
  refine aa.dL [0,1,2,3,4] [Z0,some [bg b m],some (aZ b m),some [ar x],some [ar x]] [b.ids.length] 5 ay iM hup (Nat.le_refl _) (iW rfl rfl rfl rfl) iD ⟨rfl,trivial⟩ (Nat.le_refl _) ?_
  refine aa.ret ?_
  try simp only[go_sem]
  clear hK2 K2
  (exact hK _ _ _ b _ m (XM ae) rfl rfl rfl))
 ·(
  try simp only[dD] at c18
  refine aa.skip ?_
  refine hK2 _ ?_;clear hK2 K2
  refine aa.aj fun K5 hK5=>?_
  refine aa.aj fun K6 hK6=>?_
  refine aa.region ?_
  simp only[go_sem]
  refine hK6 _ ?_;clear hK6 K6
  refine aa.block ?_
  refine aa.aj fun K7 hK7=>?_
  refine aa.region ?_
  simp only[go_sem]
  refine hK7 _ ?_;clear hK7 K7
  refine aa.cond rfl (fun c21=>?_) (fun c21=>?_)
  ·(
   try simp only[dD] at c21
   refine aa.aj fun K8 hK8=>?_
   refine aa.bf [0,1,2,3,4,5,6,7,8,9,10,11,12,13,14,15,16,17,18,19,20,21,22] [] af af rfl ?_
   simp only[go_sem]
   repeat'((refine ah.of (EG b.ak (gh x) ab) af rfl ?_;rintro r t ⟨⟨y,rfl,hy⟩,rfl⟩<;>simp only[go_sem]))
   refine hK8 _ ?_;clear hK8 K8
   refine aa.aj fun K9 hK9=>?_
   refine aa.aj fun K10 hK10=>?_
   refine aa.region ?_
   simp only[go_sem]
   refine hK10 _ ?_;clear hK10 K10
   refine aa.cond rfl (fun c45=>?_) (fun c45=>?_)
   ·(
    try simp only[dD] at c45
    refine aa.aj fun K11 hK11=>?_
    refine aa.region ?_
    simp only[go_sem]
    refine hK11 _ ?_;clear hK11 K11
    refine aa.dL [0,1,2,3,4] [Z0,some [bg b m],some (aZ b m),some [ar x],some [ar x]] [b.ids.length] 5 ay iM hup (Nat.le_refl _) (iW rfl rfl rfl rfl) iD ⟨rfl,trivial⟩ (Nat.le_refl _) ?_
    refine aa.ret ?_
    try simp only[go_sem]
    clear hK9 K9 hK5 K5
    (exact hK _ _ _ b _ m (JL ae ae ab) rfl rfl rfl))
   ·(
    try simp only[dD] at c45
    refine aa.skip ?_
    refine hK9 _ ?_;clear hK9 K9
    refine aa.aj fun K12 hK12=>?_
    have hx9:=hy ab
    subst hx9
    refine aa.region ?_
    simp only[go_sem]
    refine hK12 _ ?_;clear hK12 K12
    refine aa.aj fun K13 hK13=>?_
    refine aa.region ?_
    simp only[go_sem]
    refine hK13 _ ?_;clear hK13 K13
    refine aa.dL [0,1,2,3,4] [Z0,some [bg ⟨(cN b.ak (gh x)).1,b.al,b.ids,b.clock,b.bad⟩ m],some (aZ ⟨(cN b.ak (gh x)).1,b.al,b.ids,b.clock,b.bad⟩ m),some [ar x],some [ar x]] [b.ids.length] 5 ay iM hup (Nat.le_refl _) (iW rfl rfl rfl rfl) iD ⟨rfl,trivial⟩ (Nat.le_refl _) ?_
    refine aa.ret ?_
    try simp only[go_sem]
    clear hK5 K5
    (exact hK _ _ _ _ _ m (Ts ae ae ab) rfl rfl rfl)))
  ·(
   try simp only[dD] at c21
   refine aa.aj fun K14 hK14=>?_
   refine aa.aj fun K15 hK15=>?_
   refine aa.region ?_
   simp only[go_sem]
   refine hK15 _ ?_;clear hK15 K15
   refine aa.cond rfl (fun c50=>?_) (fun c50=>?_)
   ·(
    try simp only[dD] at c50
    refine aa.skip ?_
    refine hK14 _ ?_;clear hK14 K14
    refine aa.cond rfl (fun c50=>?_) (fun c50=>?_)
    ·(
     try simp only[dD] at c50
     refine aa.aj fun K16 hK16=>?_
     refine aa.bA ?_
     refine an.app (l1:=[_,_]) (l2:=_::_) ?_
     simp only[go_sem]
     refine w5 (b:=b) (x:=x) (m:=m) rfl rfl htx htf ho hf (nN ay rfl hup) ?_
     intro b2 e2 m2 hb2
     refine an.of ?_
     simp only[go_sem]
     refine hK16 _ ?_;clear hK16 K16
     refine aa.dL [0,1,2,3,4] [Z0,some [bg b2 m2],some (aZ b2 m2),some [ar x],some [ar x]] [b2.ids.length] 5 ay iM hup (Nat.le_refl _) (iW rfl rfl rfl rfl) iD ⟨rfl,trivial⟩ (Nat.le_refl _) ?_
     refine aa.ret ?_
     try simp only[go_sem]
     clear hK5 K5
     (exact hK _ _ _ b2 _ m2 ((yJ ae ae (.inl ae)).trans hb2) rfl rfl rfl))
    ·((try simp only[dD] at c50);exfalso;omega))
   ·(
    try simp only[dD] at c50
    refine aa.region ?_
    simp only[go_sem]
    refine hK14 _ ?_;clear hK14 K14
    refine aa.cond rfl (fun c50=>?_) (fun c50=>?_)
    ·(
     try simp only[dD] at c50
     refine aa.aj fun K58 hK58=>?_
     refine aa.bA ?_
     refine an.app (l1:=[_,_]) (l2:=_::_) ?_
     simp only[go_sem]
     refine w5 (b:=b) (x:=x) (m:=m) rfl rfl htx htf ho hf (nN ay rfl hup) ?_
     intro b2 e2 m2 hb2
     refine an.of ?_
     simp only[go_sem]
     refine hK58 _ ?_;clear hK58 K58
     refine aa.dL [0,1,2,3,4] [Z0,some [bg b2 m2],some (aZ b2 m2),some [ar x],some [ar x]] [b2.ids.length] 5 ay iM hup (Nat.le_refl _) (iW rfl rfl rfl rfl) iD ⟨rfl,trivial⟩ (Nat.le_refl _) ?_
     refine aa.ret ?_
     try simp only[go_sem]
     clear hK5 K5
     (exact hK _ _ _ b2 _ m2 ((yJ ae ae (.inr ae)).trans hb2) rfl rfl rfl))
    ·(
     try simp only[dD] at c50
     refine aa.skip ?_
     refine hK5 _ ?_;clear hK5 K5
     refine aa.aj fun K59 hK59=>?_
     refine aa.region ?_
     simp only[go_sem]
     refine hK59 _ ?_;clear hK59 K59
     refine aa.aj fun K60 hK60=>?_
     refine aa.aj fun K61 hK61=>?_
     refine aa.region ?_
     simp only[go_sem]
     refine hK61 _ ?_;clear hK61 K61
     refine aa.cond rfl (fun c60=>?_) (fun c60=>?_)
     ·(
      try simp only[dD] at c60
      refine aa.region ?_
      simp only[go_sem]
      refine hK60 _ ?_;clear hK60 K60
      refine aa.aj fun K62 hK62=>?_
      refine aa.region ?_
      simp only[go_sem]
      repeat'((refine ah.one (rh b.ak x.ref ab) af rfl ?_;simp only[go_sem]))
      refine hK62 _ ?_;clear hK62 K62
      refine aa.aj fun K63 hK63=>?_
      refine aa.aj fun K64 hK64=>?_
      refine aa.region ?_
      simp only[go_sem]
      repeat'((refine aL.split (fun h=>?_) (fun h=>?_)<;>simp only[h,go_sem]<;>try simp only[dD] at h))
      all_goals(
       refine hK64 _ ?_;clear hK64 K64
       refine aa.cond rfl (fun c78=>?_) (fun c78=>?_)
       ·(
        try simp only[dD] at c78
        refine aa.aj fun K65 hK65=>?_
        refine aa.region ?_
        simp only[go_sem]
        refine hK65 _ ?_;clear hK65 K65
        refine aa.dL [0,1,2,3,4] [Z0,some [bg b m],some (aZ b m),some [ar x],some [ar x]] [b.ids.length] 5 ay iM hup (Nat.le_refl _) (iW rfl rfl rfl rfl) iD ⟨rfl,trivial⟩ (Nat.le_refl _) ?_
        refine aa.ret ?_
        try simp only[go_sem]
        clear hK63 K63
        first
        |exact hK _ _ _ b _ m (r5 ae ae ae ae (id:=x.ref) (if_pos ae) (.inl ae)) rfl rfl rfl
        |exact hK _ _ _ b _ m (r5 ae ae ae ae (id:=x.ref) (if_pos ae) (.inr ae)) rfl rfl rfl)
       ·first|exact Bool.noConfusion c78|(
        try simp only[dD] at c78
        refine aa.skip ?_
        refine hK63 _ ?_;clear hK63 K63
        refine aa.aj fun K66 hK66=>?_
        refine aa.aj fun K67 hK67=>?_
        refine aa.region ?_
        simp only[go_sem]
        repeat'((refine aL.split (fun h=>?_) (fun h=>?_)<;>simp only[h,go_sem]<;>try simp only[dD] at h))
        all_goals(
         refine hK67 _ ?_;clear hK67 K67
         refine aa.cond rfl (fun c97=>?_) (fun c97=>?_)
         ·(
          try simp only[dD] at c97
          refine aa.aj fun K68 hK68=>?_
          refine aa.region ?_
          simp only[go_sem]
          refine hK68 _ ?_;clear hK68 K68
          refine aa.dL [0,1,2,3,4] [Z0,some [bg b m],some (aZ b m),some [ar x],some [ar x]] [b.ids.length] 5 ay iM hup (Nat.le_refl _) (iW rfl rfl rfl rfl) iD ⟨rfl,trivial⟩ (Nat.le_refl _) ?_
          refine aa.ret ?_
          try simp only[go_sem]
          clear hK66 K66
          first
          |exact hK _ _ _ b _ m (nU ae ae ae ae (id:=x.ref) (if_pos ae) ae ae (.inl ae)) rfl rfl rfl
          |exact hK _ _ _ b _ m (nU ae ae ae ae (id:=x.ref) (if_pos ae) ae ae (.inr (.inl ae))) rfl rfl rfl
          |exact hK _ _ _ b _ m (nU ae ae ae ae (id:=x.ref) (if_pos ae) ae ae (.inr (.inr ae))) rfl rfl rfl)
         ·first|exact Bool.noConfusion c97|(
          try simp only[dD] at c97
          refine aa.skip ?_
          refine hK66 _ ?_;clear hK66 K66
          refine aa.aj fun K69 hK69=>?_
          refine aa.aj fun K70 hK70=>?_
          refine aa.region ?_
          simp only[go_sem]
          refine hK70 _ ?_;clear hK70 K70
          refine aa.block ?_
          refine aa.aj fun K71 hK71=>?_
          refine aa.region ?_
          simp only[go_sem]
          refine hK71 _ ?_;clear hK71 K71
          refine aa.cond rfl (fun c100=>?_) (fun c100=>?_)
          ·((try simp only[dD] at c100);exfalso;omega)
          ·(
           try simp only[dD] at c100
           refine aa.aj fun K73 hK73=>?_
           refine aa.region ?_
           simp only[go_sem]
           refine hK73 _ ?_;clear hK73 K73
           refine aa.cond rfl (fun c105=>?_) (fun c105=>?_)
           ·(
            try simp only[dD] at c105
            refine aa.aj fun K74 hK74=>?_
            refine aa.cut (tmps':=[.ptr 1 0 0,.any,.any,.ptr 5 0 0]++List.replicate 122 .any) (own':=[Z0,some [bg b m],some (aZ b m),some [ar x],some [ar x],some [ar x]]) (rest:=[_]) hup (Nat.le_of_ble_eq_true rfl) (Nat.le_refl _) hX (by repeat'(first|exact trivial|exact .inl rfl|exact .inr ⟨rfl,rfl⟩|refine And.intro ?_ ?_)) ⟨rfl,trivial⟩ ?_;simp only[go_sem]
            refine aa.bA ?_
            refine an.app (l1:=[_,_]) (l2:=_::_) ?_
            simp only[go_sem]
            refine Jg (b:=b) (x:=x) (m:=m) rfl rfl  ho hf (nN ay rfl hup) ?_
            intro b2 e2 m2 hb2
            refine an.of ?_
            simp only[go_sem]
            refine hK74 _ ?_;clear hK74 K74
            refine aa.dL [0,1,2,3,4] [Z0,some [bg b2 m2],some (aZ b2 m2),some [ar x],some [ar x]] [b2.ids.length] 5 ay iM hup (Nat.le_refl _) (iW rfl rfl rfl rfl) iD ⟨rfl,trivial⟩ (Nat.le_refl _) ?_
            refine aa.ret ?_
            try simp only[go_sem]
            clear hK69 K69
            (exact hK _ _ _ b2 _ m2 ((NJ ae ae ae ae (id:=x.ref) (if_pos ae) ae ae ae ae ae ae ae).trans hb2) rfl rfl rfl))
           ·((try simp only[dD] at c105);exfalso;omega)))))))
     ·(
      try simp only[dD] at c60
      refine aa.skip ?_
      refine hK60 _ ?_;clear hK60 K60
      refine aa.aj fun K81 hK81=>?_
      refine aa.region ?_
      simp only[go_sem]
      repeat'((refine ah.one (rh b.ak x.ord ab) af rfl ?_;simp only[go_sem]))
      refine hK81 _ ?_;clear hK81 K81
      refine aa.aj fun K82 hK82=>?_
      refine aa.aj fun K83 hK83=>?_
      refine aa.region ?_
      simp only[go_sem]
      repeat'((refine aL.split (fun h=>?_) (fun h=>?_)<;>simp only[h,go_sem]<;>try simp only[dD] at h))
      all_goals(
       refine hK83 _ ?_;clear hK83 K83
       refine aa.cond rfl (fun c78=>?_) (fun c78=>?_)
       ·(
        try simp only[dD] at c78
        refine aa.aj fun K84 hK84=>?_
        refine aa.region ?_
        simp only[go_sem]
        refine hK84 _ ?_;clear hK84 K84
        refine aa.dL [0,1,2,3,4] [Z0,some [bg b m],some (aZ b m),some [ar x],some [ar x]] [b.ids.length] 5 ay iM hup (Nat.le_refl _) (iW rfl rfl rfl rfl) iD ⟨rfl,trivial⟩ (Nat.le_refl _) ?_
        refine aa.ret ?_
        try simp only[go_sem]
        clear hK82 K82
        first
        |exact hK _ _ _ b _ m (r5 ae ae ae ae (id:=x.ord) (if_neg ae) (.inl ae)) rfl rfl rfl
        |exact hK _ _ _ b _ m (r5 ae ae ae ae (id:=x.ord) (if_neg ae) (.inr ae)) rfl rfl rfl)
       ·first|exact Bool.noConfusion c78|(
        try simp only[dD] at c78
        refine aa.skip ?_
        refine hK82 _ ?_;clear hK82 K82
        refine aa.aj fun K85 hK85=>?_
        refine aa.aj fun K86 hK86=>?_
        refine aa.region ?_
        simp only[go_sem]
        repeat'((refine aL.split (fun h=>?_) (fun h=>?_)<;>simp only[h,go_sem]<;>try simp only[dD] at h))
        all_goals(
         refine hK86 _ ?_;clear hK86 K86
         refine aa.cond rfl (fun c97=>?_) (fun c97=>?_)
         ·(
          try simp only[dD] at c97
          refine aa.aj fun K87 hK87=>?_
          refine aa.region ?_
          simp only[go_sem]
          refine hK87 _ ?_;clear hK87 K87
          refine aa.dL [0,1,2,3,4] [Z0,some [bg b m],some (aZ b m),some [ar x],some [ar x]] [b.ids.length] 5 ay iM hup (Nat.le_refl _) (iW rfl rfl rfl rfl) iD ⟨rfl,trivial⟩ (Nat.le_refl _) ?_
          refine aa.ret ?_
          try simp only[go_sem]
          clear hK85 K85
          first
          |exact hK _ _ _ b _ m (nU ae ae ae ae (id:=x.ord) (if_neg ae) ae ae (.inl ae)) rfl rfl rfl
          |exact hK _ _ _ b _ m (nU ae ae ae ae (id:=x.ord) (if_neg ae) ae ae (.inr (.inl ae))) rfl rfl rfl
          |exact hK _ _ _ b _ m (nU ae ae ae ae (id:=x.ord) (if_neg ae) ae ae (.inr (.inr ae))) rfl rfl rfl)
         ·first|exact Bool.noConfusion c97|(
          try simp only[dD] at c97
          refine aa.skip ?_
          refine hK85 _ ?_;clear hK85 K85
          refine aa.aj fun K88 hK88=>?_
          refine aa.aj fun K89 hK89=>?_
          refine aa.region ?_
          simp only[go_sem]
          refine hK89 _ ?_;clear hK89 K89
          refine aa.block ?_
          refine aa.aj fun K90 hK90=>?_
          refine aa.region ?_
          simp only[go_sem]
          refine hK90 _ ?_;clear hK90 K90
          refine aa.cond rfl (fun c100=>?_) (fun c100=>?_)
          ·(
           try simp only[dD] at c100
           refine aa.aj fun K91 hK91=>?_
           refine aa.cut (tmps':=[.ptr 1 0 0,.any,.any,.ptr 5 0 0]++List.replicate 122 .any) (own':=[Z0,some [bg b m],some (aZ b m),some [ar x],some [ar x],some [ar x]]) (rest:=[_]) hup (Nat.le_of_ble_eq_true rfl) (Nat.le_refl _) hX (by repeat'(first|exact trivial|exact .inl rfl|exact .inr ⟨rfl,rfl⟩|refine And.intro ?_ ?_)) ⟨rfl,trivial⟩ ?_;simp only[go_sem]
           refine aa.bA ?_
           refine an.app (l1:=[_,_]) (l2:=_::_) ?_
           simp only[go_sem]
           refine Nh (b:=b) (x:=x) (m:=m) rfl rfl hq ho hf (nN ay rfl hup) ?_
           intro b2 e2 m2 hb2
           refine an.of ?_
           simp only[go_sem]
           refine hK91 _ ?_;clear hK91 K91
           refine aa.dL [0,1,2,3,4] [Z0,some [bg b2 m2],some (aZ b2 m2),some [ar x],some [ar x]] [b2.ids.length] 5 ay iM hup (Nat.le_refl _) (iW rfl rfl rfl rfl) iD ⟨rfl,trivial⟩ (Nat.le_refl _) ?_
           refine aa.ret ?_
           try simp only[go_sem]
           clear hK88 K88
           (exact hK _ _ _ b2 _ m2 ((KC ae ae ae ae (id:=x.ord) (if_neg ae) ae ae ae ae ae ae).trans hb2) rfl rfl rfl))
          ·(
           try simp only[dD] at c100
           refine aa.aj fun K92 hK92=>?_
           refine aa.region ?_
           simp only[go_sem]
           refine hK92 _ ?_;clear hK92 K92
           refine aa.cond rfl (fun c105=>?_) (fun c105=>?_)
           ·((try simp only[dD] at c105);exfalso;omega)
           ·(
            try simp only[dD] at c105
            refine aa.skip ?_
            refine hK88 _ ?_;clear hK88 K88
            refine aa.aj fun K94 hK94=>?_
            refine aa.bf [0,1,2,3,4,5,6,7,8,9,10,11] [] af af rfl ?_
            simp only[go_sem]
            repeat'((refine ah.of (FA b.ak x.ord ab) af rfl ?_;rintro r t ⟨⟨y,rfl,hy⟩,rfl⟩<;>simp only[go_sem]))
            refine hK94 _ ?_;clear hK94 K94
            refine aa.aj fun K95 hK95=>?_
            refine aa.aj fun K96 hK96=>?_
            refine aa.region ?_
            simp only[go_sem]
            refine hK96 _ ?_;clear hK96 K96
            refine aa.cond rfl (fun c121=>?_) (fun c121=>?_)
            ·(
             try simp only[dD] at c121
             refine aa.aj fun K97 hK97=>?_
             refine aa.region ?_
             simp only[go_sem]
             refine hK97 _ ?_;clear hK97 K97
             refine aa.dL [0,1,2,3,4] [Z0,some [bg b m],some (aZ b m),some [ar x],some [ar x]] [b.ids.length] 5 ay iM hup (Nat.le_refl _) (iW rfl rfl rfl rfl) iD ⟨rfl,trivial⟩ (Nat.le_refl _) ?_
             refine aa.ret ?_
             try simp only[go_sem]
             clear hK95 K95
             (exact hK _ _ _ b _ m (UJ ae ae ae ae (id:=x.ord) (if_neg ae) ae ae ae ae ae ae ae ab) rfl rfl rfl))
            ·(
             try simp only[dD] at c121
             refine aa.skip ?_
             refine hK95 _ ?_;clear hK95 K95
             refine aa.aj fun K98 hK98=>?_
             have hx9:=hy ab
             subst hx9
             refine aa.region ?_
             simp only[go_sem]
             refine hK98 _ ?_;clear hK98 K98
             refine aa.aj fun K99 hK99=>?_
             refine aa.region ?_
             simp only[go_sem]
             refine hK99 _ ?_;clear hK99 K99
             refine aa.dL [0,1,2,3,4] [Z0,some [bg ⟨(dE b.ak x.ord).1,b.al,b.ids,b.clock,b.bad⟩ m],some (aZ ⟨(dE b.ak x.ord).1,b.al,b.ids,b.clock,b.bad⟩ m),some [ar x],some [ar x]] [b.ids.length] 5 ay iM hup (Nat.le_refl _) (iW rfl rfl rfl rfl) iD ⟨rfl,trivial⟩ (Nat.le_refl _) ?_
             refine aa.ret ?_
             try simp only[go_sem]
             (exact hK _ _ _ _ _ m (E9 ae ae ae ae (id:=x.ord) (if_neg ae) ae ae ae ae ae ae ae ab) rfl rfl rfl)))))))))))))
theorem Ca{b:Bk}{x:Ex}(h:b.bad≠0∨256≤b.ids.length):bX b x=(b,4):=by unfold bX;rw[if_pos h]
theorem Kw{b:Bk}{x:Ex}(h0:b.bad=0)(h1:¬256≤b.ids.length)(h:lI b.ids x.id=true):bX b x=(b,2):=by unfold bX;rw[if_neg (by simp[h0];omega),if_pos h]
theorem RP{b b2:Bk}{x:Ex}{e:Int}(h0:b.bad=0)(h1:¬256≤b.ids.length)(h:lI b.ids x.id=false)(hb:bU ⟨b.ak,b.al,b.ids++[x.id],b.clock,b.bad⟩ x=(b2,e))(he:¬e=0):bX b x=(⟨b2.ak,b2.al,b2.ids,b2.clock,e⟩,3):=by
 unfold bX;rw[if_neg (by simp[h0];omega),if_neg (by simp[h])]
 have hb':bU { b with ids:=b.ids++[x.id] } x=(b2,e):=hb
 simp only[hb']
 rw[if_pos he]
theorem PY{b b2:Bk}{x:Ex}{e:Int}(h0:b.bad=0)(h1:¬256≤b.ids.length)(h:lI b.ids x.id=false)(hb:bU ⟨b.ak,b.al,b.ids++[x.id],b.clock,b.bad⟩ x=(b2,e))(he:e=0):bX b x=(⟨b2.ak,b2.al,b2.ids,x.time,b2.bad⟩,1):=by
 unfold bX;rw[if_neg (by simp[h0];omega),if_neg (by simp[h])]
 have hb':bU { b with ids:=b.ids++[x.id] } x=(b2,e):=hb
 simp only[hb']
 rw[if_neg (by simp[he])]
theorem qz:∀i,i≠2→i<4→cz [0,1,2,3] i=some i:=by
 intro i h1 h2
 have:i=0∨i=1∨i=3:=by omega
 rcases this with rfl|rfl|rfl<;>rfl
theorem qK{os ids y1 y2:AV}{k c m:Nat}{l:List Dn}{x:Ex}{rest:List (Option (List AV))}(h0:os.cb (cz [0,1,2,3])=os)(hi:ids.cb (cz [0,1,2,3])=ids)(h1:y1.cb (cz [0,1,2,3])=y1)(h2:y2.cb (cz [0,1,2,3])=y2):
 je (Z0::some [.agg [os,.mu 2 9 0 k c,ids,y1,y2]]::some (l.map bY++spare 9 m)::some [ar x]::rest) [0,1,2,3]=[Z0,some [.agg [os,.mu 2 9 0 k c,ids,y1,y2]],some (l.map bY++spare 9 m),some [ar x]]:=by
 show[Z0,some [.agg [os.cb _,.mu 2 9 0 k c,ids.cb _,y1.cb _,y2.cb _]],some ((l.map bY++spare 9 m).map _),some [ar x]]=_
 rw[oj,h0,hi,h1,h2]
theorem U0(l:List Bs)(s:Bs):l.map str++[str s]=(l++[s]).map str:=by simp
theorem aa.Em{E:Env}{c:Code}{Q:Exit→St→Prop}{tmps tmps' up:List AV}{own' rest:List (Option (List AV))}{tk tk':List Nat}{gl:Nat→Option (List AV)}{n:Nat}(hup:up.all (kp n)=true)(hn:n≤own'.length)(h0:1≤tk'.length)(hb:iI own'.length tk'.length own'=true)(h1:jN own'.length tk'.length tmps tmps')(hk:jw tk tk')
 (hw:aa E c Q ⟨tmps',own',tk',gl,none,up⟩):aa E c Q ⟨tmps,own'++rest,tk,gl,none,up⟩:=
 aa.weaken (t:=⟨tmps',own',tk',gl,none,up⟩) ⟨h1,vp hb,hk,rfl,rfl,rfl,List.all_eq_true.2 fun x hx=>vG hn h0 (List.all_eq_true.1 hup x hx)⟩ hw
set_option maxRecDepth 100000 in
theorem Jp{ops:Array Oper}{l:List Oper}{Q:Exit→St→Prop}{tmps up:List AV}{gl:Nat→Option (List AV)}{b:Bk}{x:Ex}{m:Nat}{dst:Option Tmp}{x0 x1:Operand}{tys:Array TypeId}{ty:TypeId}{pos:String}{after:Array Edge}
 (hx0:St.ev ⟨tmps,[Z0,some [bg b m],some (aZ b m),some [ar x]],[b.ids.length],gl,none,up⟩ x0= .ptr 1 0 0) (hx1:St.ev ⟨tmps,[Z0,some [bg b m],some (aZ b m),some [ar x]],[b.ids.length],gl,none,up⟩ x1=ar x)
 (hx:du x=true) (htf:∀f∈b.al,0≤f.time∧f.time≤4611686018427387904) (hi:b.ids.length≤1000000) (ho:b.ak.length≤1000000) (hf:b.al.length≤1000000) (hup:(tmps++up).all (kp 4)=true)
 (h:∀(b':Bk) (e:Int) (m':Nat),bX b x=(b',e)→an E ops l Q (St.put ⟨tmps,[Z0,some [bg b' m'],some (aZ b' m'),some [ar x]],[b'.ids.length],gl,none,up⟩ dst (i64 e))):
 an E ops (⟨dst,.call ⟨.value (.func 108),#[x0,x1],tys⟩,ty,pos,after,none⟩::l) Q ⟨tmps,[Z0,some [bg b m],some (aZ b m),some [ar x]],[b.ids.length],gl,none,up⟩:=by
 refine an.call (caps:=[]) (rs:=[.tmp 4]) Tryz.func108 rfl Tryz.ntmps108 rfl af rfl rfl ?_
 show aa E _ _ ⟨([St.ev ⟨tmps,[Z0,some [bg b m],some (aZ b m),some [ar x]],[b.ids.length],gl,none,up⟩ x0,St.ev ⟨tmps,[Z0,some [bg b m],some (aZ b m),some [ar x]],[b.ids.length],gl,none,up⟩ x1]++[])++List.replicate (51-2) (.v undef),[Z0,some [bg b m],some (aZ b m),some [ar x]],[b.ids.length],gl,none,tmps++up⟩
 rw[hx0,hx1]
 have hK:∀(tm:List AV) (ow:List (Option (List AV))) (tk:List Nat) (b':Bk) (e:Int) (m':Nat),bX b x=(b',e)→ow=[Z0,some [bg b' m'],some (aZ b' m'),some [ar x]]→tk=[b'.ids.length]→tm[4]?=some (i64 e)→bR E.P [.tmp 4] ⟨tmps,[Z0,some [bg b m],some (aZ b m),some [ar x]],[b.ids.length],gl,none,up⟩ (fun s z=>an E ops l Q (s.put dst z)) .ret ⟨tm,ow,tk,gl,none,tmps++up⟩:=by
  intro tm ow tk b' e m' hb' how htk h4
  subst how;subst htk
  refine⟨rfl,?_⟩
  have:St.ev ⟨tm,[Z0,some [bg b' m'],some (aZ b' m'),some [ar x]],[b'.ids.length],gl,none,tmps++up⟩ (.tmp 4)=i64 e:=by simp[St.ev,List.getD_eq_getElem?_getD,h4]
  show an E ops l Q (St.put _ dst (gW [St.ev _ (.tmp 4)]))
  rw[this]
  exact h b' e m' hb'
 generalize bR E.P [.tmp 4] ⟨tmps,[Z0,some [bg b m],some (aZ b m),some [ar x]],[b.ids.length],gl,none,up⟩ (fun s z=>an E ops l Q (s.put dst z))=Q' at hK ⊢
 generalize tmps++up=up' at hup hK ⊢
 clear h hx0 hx1
 refine aa.aj fun K1 hK1=>?_
 refine aa.region ?_
 simp only[go_sem]
 refine hK1 _ ?_;clear hK1 K1
 refine aa.aj fun K2 hK2=>?_
 refine aa.aj fun K3 hK3=>?_
 refine aa.region ?_
 simp only[go_sem]
 repeat'(first|(refine aL.split (fun h=>?_) (fun h=>?_)<;>simp only[h,go_sem]<;>try simp only[dD] at h)|((with_reducible refine And.intro ?_ ?_);(focus(((simp;done))));(try simp only[hb,go_sem])))
 all_goals(
  refine hK3 _ ?_;clear hK3 K3
  refine aa.cond rfl (fun c18=>?_) (fun c18=>?_)
  ·(
    try simp only[dD] at c18
    refine aa.aj fun K4 hK4=>?_
    refine aa.region ?_
    simp only[go_sem]
    refine hK4 _ ?_;clear hK4 K4
    refine aa.dL [0,1,2,3] [Z0,some [bg b m],some (aZ b m),some [ar x]] [b.ids.length] 4 ay qz hup (Nat.le_refl _) (qK rfl rfl rfl rfl) pr ⟨rfl,trivial⟩ (Nat.le_refl _) ?_
    refine aa.ret ?_
    try simp only[go_sem]
    clear hK2 K2
    first
    |exact hK _ _ _ b _ m (Ca (.inl ae)) rfl rfl rfl
    |exact hK _ _ _ b _ m (Ca (.inr ab)) rfl rfl rfl)
  ·first|exact Bool.noConfusion c18|(
    try simp only[dD] at c18
    refine aa.skip ?_
    refine hK2 _ ?_;clear hK2 K2
    refine aa.aj fun K5 hK5=>?_
    refine aa.aj fun K6 hK6=>?_
    refine aa.bf [0,1,2,3,4,5,6] [] af af rfl ?_
    simp only[go_sem]
    repeat'((refine ah.one (Eo b.ids x.id ab) af rfl ?_;simp only[go_sem]))
    refine hK6 _ ?_;clear hK6 K6
    refine aa.cond rfl (fun c25=>?_) (fun c25=>?_)
    ·(
      try simp only[dD] at c25
      refine aa.aj fun K7 hK7=>?_
      refine aa.region ?_
      simp only[go_sem]
      refine hK7 _ ?_;clear hK7 K7
      refine aa.dL [0,1,2,3] [Z0,some [bg b m],some (aZ b m),some [ar x]] [b.ids.length] 4 ay qz hup (Nat.le_refl _) (qK rfl rfl rfl rfl) pr ⟨rfl,trivial⟩ (Nat.le_refl _) ?_
      refine aa.ret ?_
      try simp only[go_sem]
      clear hK5 K5
      (exact hK _ _ _ b _ m (Kw ab ab ae) rfl rfl rfl))
    ·(
      try simp only[dD] at c25
      refine aa.skip ?_
      refine hK5 _ ?_;clear hK5 K5
      refine aa.aj fun K8 hK8=>?_
      refine aa.bf [0,1,2,3,4,5,6,7,8,9,10,11] [] af af rfl ?_
      simp only[go_sem]
      repeat'(((with_reducible refine And.intro ?_ ?_);(focus((omega)));(try simp only[hb,go_sem])))
      refine hK8 _ ?_;clear hK8 K8
      refine aa.aj fun K9 hK9=>?_
      refine aa.aj fun K10 hK10=>?_
      rw[U0 b.ids x.id]
      refine aa.Em (tmps':=[.ptr 1 0 0,.any,.any,.ptr 4 0 0,.any,.any,.any,.any,.any,.any,.any,.any,.any,.any,.any,.any,.any,.any,.any,.any,.any,.any,.any,.any,.any,.any,.any,.any,.any,.any,.any,.any,.any,.any,.any,.any,.any,.any,.any,.any,.any,.any,.any,.any,.any,.any,.any,.any,.any,.any,.any]) (own':=[Z0,some [bg ⟨b.ak,b.al,b.ids++[x.id],b.clock,b.bad⟩ m],some (aZ ⟨b.ak,b.al,b.ids++[x.id],b.clock,b.bad⟩ m),some [ar x],some [ar x]]) (rest:=[]) (tk':=[(b.ids++[x.id]).length]) hup (Nat.le_of_ble_eq_true rfl) (Nat.le_refl _) iD ⟨.inr ⟨rfl,rfl⟩,.inl rfl,.inl rfl,.inr ⟨rfl,rfl⟩,.inl rfl,.inl rfl,.inl rfl,.inl rfl,.inl rfl,.inl rfl,.inl rfl,.inl rfl,.inl rfl,.inl rfl,.inl rfl,.inl rfl,.inl rfl,.inl rfl,.inl rfl,.inl rfl,.inl rfl,.inl rfl,.inl rfl,.inl rfl,.inl rfl,.inl rfl,.inl rfl,.inl rfl,.inl rfl,.inl rfl,.inl rfl,.inl rfl,.inl rfl,.inl rfl,.inl rfl,.inl rfl,.inl rfl,.inl rfl,.inl rfl,.inl rfl,.inl rfl,.inl rfl,.inl rfl,.inl rfl,.inl rfl,.inl rfl,.inl rfl,.inl rfl,.inl rfl,.inl rfl,.inl rfl,trivial⟩ ⟨by simp,trivial⟩ ?_
      refine aa.bA ?_
      refine an.app (l1:=[_,_]) (l2:=_::_) ?_
      simp only[go_sem]
      rw[show b.ids.length+1=(b.ids++[x.id]).length by simp]
      refine L8 (b:=⟨b.ak,b.al,b.ids++[x.id],b.clock,b.bad⟩) (x:=x) (m:=m) rfl rfl hx htf ho hf (nN ay rfl hup) ?_
      intro b2 e2 m2 hb2
      refine an.of ?_
      simp only[go_sem]
      refine hK10 _ ?_;clear hK10 K10
      refine aa.aj fun K11 hK11=>?_
      refine aa.region ?_
      simp only[go_sem]
      refine hK11 _ ?_;clear hK11 K11
      refine aa.cond rfl (fun c41=>?_) (fun c41=>?_)
      ·(
        try simp only[dD] at c41
        refine aa.aj fun K12 hK12=>?_
        refine aa.region ?_
        simp only[go_sem]
        refine hK12 _ ?_;clear hK12 K12
        refine aa.aj fun K13 hK13=>?_
        refine aa.region ?_
        simp only[go_sem]
        refine hK13 _ ?_;clear hK13 K13
        refine aa.dL [0,1,2,3] [Z0,some [bg ⟨b2.ak,b2.al,b2.ids,b2.clock,e2⟩ m2],some (aZ ⟨b2.ak,b2.al,b2.ids,b2.clock,e2⟩ m2),some [ar x]] [b2.ids.length] 4 ay qz hup (Nat.le_refl _) (qK rfl rfl rfl rfl) pr ⟨rfl,trivial⟩ (Nat.le_refl _) ?_
        refine aa.ret ?_
        try simp only[go_sem]
        clear hK9 K9
        (exact hK _ _ _ _ _ m2 (RP ab ab ae hb2 ae) rfl rfl rfl))
      ·(
        try simp only[dD] at c41
        refine aa.skip ?_
        refine hK9 _ ?_;clear hK9 K9
        refine aa.aj fun K14 hK14=>?_
        refine aa.region ?_
        simp only[go_sem]
        refine hK14 _ ?_;clear hK14 K14
        refine aa.aj fun K15 hK15=>?_
        refine aa.region ?_
        simp only[go_sem]
        refine hK15 _ ?_;clear hK15 K15
        refine aa.dL [0,1,2,3] [Z0,some [bg ⟨b2.ak,b2.al,b2.ids,x.time,b2.bad⟩ m2],some (aZ ⟨b2.ak,b2.al,b2.ids,x.time,b2.bad⟩ m2),some [ar x]] [b2.ids.length] 4 ay qz hup (Nat.le_refl _) (qK rfl rfl rfl rfl) pr ⟨rfl,trivial⟩ (Nat.le_refl _) ?_
        refine aa.ret ?_
        try simp only[go_sem]
        (exact hK _ _ _ _ _ m2 (PY ab ab ae hb2 ab) rfl rfl rfl)))))
theorem QM(x:Ex):ai E 107 [ar x] (fun r t=>r=bl (du x)∧t=[]):=by
 refine ai.aw (n:=57) (rs:=[.tmp 2]) Tryz.func107 rfl Tryz.ntmps107 rfl ?_
 repeat'(first
 |refine aa.aj fun K hK=>?_
 |(refine aa.region ?_;simp only[go_sem])
 |(refine hK _ ?_;clear hK K)
 |refine aa.block ?_
 |refine aa.cond rfl (fun c=>?_) (fun c=>?_)<;>first|exact Bool.noConfusion c|(try simp only[dD] at c)
 |refine aa.skip ?_
 |(refine ah.one (Mb _) af rfl ?_;simp only[go_sem])
 |(refine ah.one (UF _) af rfl ?_;simp only[go_sem])
 |(refine ah.one (My _) af rfl ?_;simp only[go_sem])
 |(refine aL.split (fun h=>?_) (fun h=>?_)<;>simp only[h,go_sem]<;>(try simp only[dD] at h))
 |(
  refine aa.ret ?_
  refine aB.is ?_;simp only[go_sem,aE,aI,aH,aG,aJ,aF]<;>(simp_all[du])))
end Go.Proofs.YtajeeghgiilhiaaGreat
end
