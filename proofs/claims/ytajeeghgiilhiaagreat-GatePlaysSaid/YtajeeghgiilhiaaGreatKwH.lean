/- Texts of one chain, put together (N6, N7, N8, N9, N10, N1b). -/
import Derived.Test.YtajeeghgiilhiaaGreatKwG
import Derived.Test.YtajeeghgiilhiaaGreatKwE
set_option linter.unusedVariables false
set_option linter.unusedSimpArgs false
set_option maxHeartbeats 16000000
set_option maxRecDepth 8000
section
namespace Go.Proofs.YtajeeghgiilhiaaGreat
open Go Go.Abs Go.RowKit Go.Bk
def fk(n:Nat):AV→Bool
 |.mu id _ _ _ _=>id !=2&&decide (id<n)
 |.ptr id _ _=>id !=2&&decide (id<n)
 |.any|.v _|.aK|.sl none _ _|.bR _|.fn _ []=>true
 |.sl (some t) _ _=>t==0
 |_=>false
def kp(n:Nat):AV→Bool
 |.agg cs=>cs.all (fk n)
 |x=>fk n x
theorem uD{n:Nat}{σ:Nat→Option Nat}(hσ:∀i,i≠2→i<n→σ i=some i){x:AV}(h:fk n x=true):x.bV σ=x:=by
 cases x<;>simp only[fk,AV.bV,Bool.and_eq_true,bne_iff_ne,decide_eq_true_eq] at h ⊢ <;>first|(rw[hσ _ h.1 h.2])|(simp at h;done)|skip
 case fn f cs=>cases cs<;>simp[fk] at h ⊢
theorem Hu{n:Nat}{σ:Nat→Option Nat}(hσ:∀i,i≠2→i<n→σ i=some i){x:AV}(h:kp n x=true):x.b7 σ=x:=by
 cases x with
 |agg cs=>
  simp only[kp] at h
  simp only[AV.b7,AV.eN]
  congr 1
  have:∀y∈cs,y.bV σ=y:=fun y hy=>uD hσ (List.all_eq_true.1 h y hy)
  exact(List.map_congr_left this).trans (List.map_id _)
 |ax cs=>simp[kp,fk] at h
 |fn f cs=>
  cases cs with
  |nil=>rfl
  |cons=>simp[kp,fk] at h
 |mu id k o l c=>simp only[AV.b7,AV.eN];exact uD hσ h
 |ptr id i o=>simp only[AV.b7,AV.eN];exact uD hσ h
 |_=>rfl
theorem R9{n:Nat}{σ:Nat→Option Nat}(hσ:∀i,i≠2→i<n→σ i=some i){l:List AV}(h:l.all (kp n)=true):l.map (AV.b7 σ)=l:=
 (List.map_congr_left (fun y hy=>Hu hσ (List.all_eq_true.1 h y hy))).trans (List.map_id _)
theorem qO{n no nt:Nat}(h1:n≤no)(h2:1≤nt){x:AV}(h:fk n x=true):x.cU no nt=true:=by
 cases x<;>simp only[fk,AV.cU,Bool.and_eq_true,bne_iff_ne,decide_eq_true_eq] at h ⊢ <;>first|omega|skip
 case sl t k es=>cases t<;>simp[fk,AV.cU] at h ⊢;omega
 case fn f cs=>cases cs<;>simp[fk,AV.cU] at h ⊢
theorem sI{n no nt:Nat}(h1:n≤no)(h2:1≤nt){x:AV}(h:kp n x=true):x.bF no nt=true:=by
 cases x with
 |agg cs=>
  simp only[kp] at h
  simp only[AV.bF,AV.dY]
  exact List.all_eq_true.2 fun y hy=>qO h1 h2 (List.all_eq_true.1 h y hy)
 |ax cs=>simp[kp,fk] at h
 |fn f cs=>
  cases cs with
  |nil=>rfl
  |cons=>simp[kp,fk] at h
 |sl t k es=>exact qO (x:= .sl t k es) h1 h2 h
 |mu id k o l c=>exact qO (x:= .mu id k o l c) h1 h2 h
 |ptr id i o=>exact qO (x:= .ptr id i o) h1 h2 h
 |_=>rfl
def rM(no nt:Nat)(x:AV):AV:=if x.bF no nt then x else .any
theorem Bl{no nt:Nat}:∀l:List AV,jj no nt l (l.map (rM no nt))
 |[]=>trivial
 |x::l=>by
  refine⟨?_,Bl l⟩
  unfold rM
  by_cases h:x.bF no nt=true
  ·rw[if_pos h];exact .inr ⟨rfl,h⟩
  ·rw[if_neg h];exact .inl rfl
def iq(no nt:Nat)(own:List (Option (List AV))):Bool:=own.all fun o=>match o with|none=>true|some es=>es.all fun e=>e.leaves.all (AV.bF no nt)
theorem vj{no nt:Nat}:∀{l:List (Option (List AV))},iq no nt l=true→gX no nt l l
 |[],_=>trivial
 |x::l,h=>by
  simp only[iq,List.all_cons,Bool.and_eq_true] at h
  refine⟨.inr ⟨rfl,fun es hes e he z hz=>?_⟩,vj h.2⟩
  have h1:=h.1
  rw[hes] at h1
  exact List.all_eq_true.1 (List.all_eq_true.1 h1 e he) z hz
theorem aa.dy{E:Env}{c:Code}{Q:Exit→St→Prop}{tmps up:List AV}{own:List (Option (List AV))}{tk:List Nat}{gl:Nat→Option (List AV)}(sel:List Nat)(own':List (Option (List AV)))(tk':List Nat)(n:Nat)(hnd:sel.Nodup)(hσ:∀i,i≠2→i<n→ch sel i=some i)
 (hup:up.all (kp n)=true) (hn:n≤own'.length) (hown:iP own sel=own') (hb:iq own'.length tk'.length own'=true) (htk:iN tk tk') (h0:1≤tk'.length)
 (hw:aa E c Q ⟨(tmps.map (AV.b7 (ch sel))).map (rM own'.length tk'.length),own',tk',gl,none,up⟩):aa E c Q ⟨tmps,own,tk,gl,none,up⟩:=by
 refine aa.norm sel hnd rfl (R9 hσ hup) ?_
 refine aa.weaken (t:=⟨(tmps.map (AV.b7 (ch sel))).map (rM own'.length tk'.length),own',tk',gl,none,up⟩) ⟨Bl _,?_,htk,rfl,rfl,rfl,List.all_eq_true.2 fun x hx=>sI hn h0 (List.all_eq_true.1 hup x hx)⟩ hw
 show gX _ _ (iP own sel) own'
 rw[hown];exact vj hb
abbrev aX(b:Bk)(m:Nat):AV:= .agg [aR b.af,.mu 2 9 0 b.ai.length (b.ai.length+m),.sl (some 0) 1 (b.ids.map str),i64 b.clock,i64 b.bad]
abbrev aT(b:Bk)(m:Nat):List AV:=b.ai.map bQ++spare 9 m
theorem xB{l:List Dn}{n:Nat}{o:Dn}(h:l[n]?=some o)(sp:List AV):(l.map bQ++sp)[n]?=some (bQ o):=by
 rw[List.getElem?_append_left (by simpa using bI h),List.getElem?_map,h];rfl
theorem tw{l:List Dn}{n:Nat}{o o':Dn}(h:l[n]?=some o)(sp:List AV):(l.map bQ++sp).set n (bQ o')=(l.set n o').map bQ++sp:=by
 rw[List.set_append_left _ _ (by simpa using bI h),List.map_set]
theorem nm(σ:Nat→Option Nat)(l:List Dn)(m:Nat):(l.map bQ++spare 9 m).map (AV.b7 σ)=l.map bQ++spare 9 m:=by
 rw[List.map_append,List.map_map]
 congr 1
 simp[spare,AV.b7,AV.eN,AV.bV]
theorem WE(no nt:Nat)(l:List Dn)(m:Nat):((l.map bQ++spare 9 m).all fun e=>e.leaves.all (AV.bF no nt))=true:=by
 rw[List.all_eq_true]
 intro e he
 rcases List.mem_append.1 he with he|he
 ·obtain⟨f,_,rfl⟩:=List.mem_map.1 he;rfl
 ·simp only[spare,List.mem_replicate] at he
  rw[he.2]
  simp[AV.leaves,AV.bF,AV.dY,AV.cU]
theorem Mp(f:Dn)(x:Ex):ae E 234 [bQ f,.bR [str x.id,str x.ref,str x.ord,str x.acc,str x.sym,i64 x.kind,bl x.au,i64 x.al,i64 x.aw,i64 x.time]] (fun r t=>r=bl (decide (f.id=x.ref))∧t=[]):=by
 refine ae.av (n:=9) (rs:=[.tmp 3]) Tryz.func234 rfl Tryz.ntmps234 rfl ?_
 refine aa.ab fun K1 hK1=>?_
 refine aa.region ?_
 simp only[go_sem]
 refine hK1 _ ?_;clear hK1 K1
 refine aa.ab fun K2 hK2=>?_
 refine aa.region ?_
 simp only[go_sem]
 refine hK2 _ ?_;clear hK2 K2
 refine aa.ret ?_
 try simp only[go_sem]
 exact⟨[],.v _,rfl,rfl,by simp_all,rfl⟩
theorem Ms(l:List Dn)(x:Ex)(hl:l.length≤9223372036854775807):ae E 233 [bZ l,.fn 234 [.bR [str x.id,str x.ref,str x.ord,str x.acc,str x.sym,i64 x.kind,bl x.au,i64 x.al,i64 x.aw,i64 x.time]]] (fun r t=>r=i64 (fv l x.ref)∧t=[]):=by
 refine ae.av (n:=19) (rs:=[.tmp 4]) Tryz.func233 rfl Tryz.ntmps233 rfl ?_
 refine aa.ab fun K1 hK1=>?_
 refine aa.region ?_
 simp only[go_sem]
 refine hK1 _ ?_;clear hK1 K1
 refine aa.ab fun K2 hK2=>?_
 refine aa.ab fun K3 hK3=>?_
 refine aa.region ?_
 simp only[go_sem]
 repeat'(((with_reducible refine And.intro ?_ ?_);(focus(((simp;done))));(try simp only[hb,go_sem])))
 refine hK3 _ ?_;clear hK3 K3
 refine aa.block ?_
 refine aa.nI (ι:=Nat) [4,5,9,10,11,12,13,14,15,16,17,18] (fun(i:Nat)=>[(8,i64 i)]) (fun(i:Nat)=>i≤l.length∧(l.take i).all (fun o=>!decide (o.id=x.ref))=true) (fun(i:Nat)=>l.length-i) (0) ?_ ?_ ?_
 ·(try simp only[go_sem]);try(simp;done)
 ·exact⟨by omega,by simp⟩
 rintro i ⟨h1,h2⟩
 simp only[go_sem]
 refine aa.ab fun K4 hK4=>?_
 refine aa.region ?_
 simp only[go_sem]
 refine hK4 _ ?_;clear hK4 K4
 refine aa.ab fun K5 hK5=>?_
 refine aa.cond rfl (fun c9=>?_) (fun c9=>?_)
 ·(
   try simp only[dD] at c9
   refine aa.skip ?_
   refine hK5 _ ?_;clear hK5 K5
   refine aa.ab fun K6 hK6=>?_
   refine aa.block ?_
   refine aa.ab fun K7 hK7=>?_
   refine aa.region ?_
   simp only[go_sem]
   refine hK7 _ ?_;clear hK7 K7
   refine aa.ab fun K8 hK8=>?_
   refine aa.region ?_
   simp only[go_sem]
   repeat'(first|(refine ah.one (Mp _ _) (by kernel_rfl) rfl ?_;simp only[go_sem])|((refine aG.nth ?_ (fun b hb=>?_));(focus((omega)));(try simp only[hb,go_sem])))
   refine hK8 _ ?_;clear hK8 K8
   refine aa.cond rfl (fun c16=>?_) (fun c16=>?_)
   ·(
     try simp only[dD] at c16
     refine aa.ab fun K9 hK9=>?_
     refine aa.region ?_
     simp only[go_sem]
     refine hK9 _ ?_;clear hK9 K9
     refine aa.ret ?_
     try simp only[go_sem]
     clear hK6 K6 hK2 K2
     (exact⟨[],.v _,rfl,rfl,by rw[HS hb (by assumption) h2],rfl⟩))
   ·(
     try simp only[dD] at c16
     refine aa.skip ?_
     refine hK6 _ ?_;clear hK6 K6
     refine aa.region ?_
     simp only[go_sem]
     clear hK2 K2
     refine⟨i+1,?_,?_,?_⟩
     ·(try simp only[go_sem]);(try rw[aq (by omega) (by omega)]);simp
     ·exact⟨by omega,lj hb h2 (by simp;assumption)⟩
     ·omega))
 ·(
   try simp only[dD] at c9
   refine aa.exit ?_
   simp only[go_sem]
   clear hK5 K5
   refine hK2 _ ?_;clear hK2 K2
   refine aa.ab fun K10 hK10=>?_
   refine aa.region ?_
   simp only[go_sem]
   refine hK10 _ ?_;clear hK10 K10
   refine aa.ret ?_
   try simp only[go_sem]
   (exact⟨[],.v _,rfl,rfl,by rw[Fw (by omega) h2],rfl⟩))
theorem CU(l:List Bs)(id:Bs)(hl:l.length≤9223372036854775807):ae E 207 [.sl none 1 (l.map str),str id] (fun r t=>r=i64 (eM l id)∧t=[]):=by
 refine ae.av (n:=19) (rs:=[.tmp 4]) Tryz.func207 rfl Tryz.ntmps207 rfl ?_
 refine aa.ab fun K1 hK1=>?_
 refine aa.region ?_
 simp only[go_sem]
 refine hK1 _ ?_;clear hK1 K1
 refine aa.ab fun K2 hK2=>?_
 refine aa.ab fun K3 hK3=>?_
 refine aa.region ?_
 simp only[go_sem]
 repeat'(((with_reducible refine And.intro ?_ ?_);(focus(((simp;done))));(try simp only[hb,go_sem])))
 refine hK3 _ ?_;clear hK3 K3
 refine aa.block ?_
 refine aa.nI (ι:=Nat) [4,5,9,10,11,12,13,14,15,16,17,18] (fun(i:Nat)=>[(8,i64 i)]) (fun(i:Nat)=>i≤l.length∧(l.take i).all (fun s=>!decide (id=s))=true) (fun(i:Nat)=>l.length-i) (0) ?_ ?_ ?_
 ·(try simp only[go_sem]);try(simp;done)
 ·exact⟨by omega,by simp⟩
 rintro i ⟨h1,h2⟩
 simp only[go_sem]
 refine aa.ab fun K4 hK4=>?_
 refine aa.region ?_
 simp only[go_sem]
 refine hK4 _ ?_;clear hK4 K4
 refine aa.ab fun K5 hK5=>?_
 refine aa.cond rfl (fun c9=>?_) (fun c9=>?_)
 ·(
   try simp only[dD] at c9
   refine aa.skip ?_
   refine hK5 _ ?_;clear hK5 K5
   refine aa.ab fun K6 hK6=>?_
   refine aa.block ?_
   refine aa.ab fun K7 hK7=>?_
   refine aa.region ?_
   simp only[go_sem]
   refine hK7 _ ?_;clear hK7 K7
   refine aa.ab fun K8 hK8=>?_
   refine aa.region ?_
   simp only[go_sem]
   repeat'(((refine aG.nth ?_ (fun b hb=>?_));(focus((omega)));(try simp only[hb,go_sem])))
   refine hK8 _ ?_;clear hK8 K8
   refine aa.cond rfl (fun c16=>?_) (fun c16=>?_)
   ·(
     try simp only[dD] at c16
     refine aa.ab fun K9 hK9=>?_
     refine aa.region ?_
     simp only[go_sem]
     refine hK9 _ ?_;clear hK9 K9
     refine aa.ret ?_
     try simp only[go_sem]
     clear hK6 K6 hK2 K2
     (exact⟨[],.v _,rfl,rfl,by rw[RA hb (by assumption) h2],rfl⟩))
   ·(
     try simp only[dD] at c16
     refine aa.skip ?_
     refine hK6 _ ?_;clear hK6 K6
     refine aa.region ?_
     simp only[go_sem]
     clear hK2 K2
     refine⟨i+1,?_,?_,?_⟩
     ·(try simp only[go_sem]);(try rw[aq (by omega) (by omega)]);simp
     ·exact⟨by omega,lj hb h2 (by simp;assumption)⟩
     ·omega))
 ·(
   try simp only[dD] at c9
   refine aa.exit ?_
   simp only[go_sem]
   clear hK5 K5
   refine hK2 _ ?_;clear hK2 K2
   refine aa.ab fun K10 hK10=>?_
   refine aa.region ?_
   simp only[go_sem]
   refine hK10 _ ?_;clear hK10 K10
   refine aa.ret ?_
   try simp only[go_sem]
   (exact⟨[],.v _,rfl,rfl,by rw[Pv (by omega) h2],rfl⟩))
theorem QQ(l:List Bs)(id:Bs)(hl:l.length≤9223372036854775807):ae E 173 [.sl none 1 (l.map str),str id] (fun r t=>r=bl (kF l id)∧t=[]):=by
 refine ae.av (n:=9) (rs:=[.tmp 4]) Tryz.func173 rfl Tryz.ntmps173 rfl ?_
 refine aa.ab fun K1 hK1=>?_
 refine aa.region ?_
 simp only[go_sem]
 refine hK1 _ ?_;clear hK1 K1
 refine aa.ab fun K2 hK2=>?_
 refine aa.region ?_
 simp only[go_sem]
 repeat'((refine ah.one (CU _ _ (by omega)) (by kernel_rfl) rfl ?_;simp only[go_sem]))
 refine hK2 _ ?_;clear hK2 K2
 refine aa.ret ?_
 try simp only[go_sem]
 exact⟨[],.v _,rfl,rfl,rfl,rfl⟩
theorem vq{b:Bk}{x:Ex}(h:(cc b.af x.ord x.al x.aw).2=0):dH b x=(⟨(cc b.af x.ord x.al x.aw).1,b.ai++[iO x],b.ids,b.clock,b.bad⟩,0):=by unfold dH;simp[h]
theorem Kp{b:Bk}{x:Ex}(h:(cc b.af x.ord x.al x.aw).2=1):dH b x=(b,4):=by unfold dH;simp[h]
theorem GS{b:Bk}{x:Ex}(h:(cc b.af x.ord x.al x.aw).2=9):dH b x=(b,5):=by unfold dH;simp[h]
theorem HC{b:Bk}{x:Ex}(h0:¬(cc b.af x.ord x.al x.aw).2=0)(h1:¬(cc b.af x.ord x.al x.aw).2=1)(h:¬(cc b.af x.ord x.al x.aw).2=9):dH b x=(b,2):=by unfold dH;simp[h0,h1,h]
abbrev Z0:Option (List AV):=some [.agg [.aK,.aK,.aK,i64 0,i64 0]]
theorem jc:∀i,i≠2→i<6→ch [0,1,2,3,4,5] i=some i:=by
 intro i h1 h2
 have:i=0∨i=1∨i=3∨i=4∨i=5:=by omega
 rcases this with rfl|rfl|rfl|rfl|rfl<;>rfl
theorem Dw:∀i,i≠2→i<6→ch [0,1,7,3,4,5] i=some i:=by
 intro i h1 h2
 have:i=0∨i=1∨i=3∨i=4∨i=5:=by omega
 rcases this with rfl|rfl|rfl|rfl|rfl<;>rfl
theorem w8{l:List Dn}(sp:List AV):(l.map bQ++sp).take l.length=l.map bQ:=List.take_left' (by simp)
theorem Cq(σ:Nat→Option Nat)(l:List Dn)(d:Dn)(m:Nat):(l.map bQ++[bQ d]++spare 9 m).map (AV.b7 σ)=(l++[d]).map bQ++spare 9 m:=by
 rw[show l.map bQ++[bQ d]=(l++[d]).map bQ by simp,nm]
theorem jq{b:Bk}{m:Nat}{x:Ex}{rest:List (Option (List AV))}:iP (Z0::some [aX b m]::some (aT b m)::some [an x]::some [an x]::some [an x]::rest) [0,1,2,3,4,5]=[Z0,some [aX b m],some (aT b m),some [an x],some [an x],some [an x]]:=by
 show[Z0,some [aX b m],some ((aT b m).map _),some [an x],some [an x],some [an x]]=_
 rw[nm]
theorem J8{os:List Od}{l:List Dn}{d:Dn}{k c m:Nat}{ids y1 y2:AV}{x:Ex}{bx:Option (List AV)}(hi:ids.bV (ch [0,1,7,3,4,5])=ids)(h1:y1.bV (ch [0,1,7,3,4,5])=y1)(h2:y2.bV (ch [0,1,7,3,4,5])=y2):
 iP [Z0,some [.agg [aR os,.mu 7 9 0 k c,ids,y1,y2]],none,some [an x],some [an x],some [an x],bx,some (l.map bQ++[bQ d]++spare 9 m)] [0,1,7,3,4,5] =
  [Z0,some [.agg [aR os,.mu 2 9 0 k c,ids,y1,y2]],some ((l++[d]).map bQ++spare 9 m),some [an x],some [an x],some [an x]]:=by
 show[Z0,some [.agg [aR os,.mu 2 9 0 k c,ids.bV _,y1.bV _,y2.bV _]],some ((l.map bQ++[bQ d]++spare 9 m).map _),some [an x],some [an x],some [an x]]=_
 rw[Cq,hi,h1,h2]
theorem r6(no:Nat){b:Bk}{m:Nat}{l:List (Option (List AV))}(hno:3≤no)(hl:iq no 1 l=true):iq no 1 (Z0::some [aX b m]::some (aT b m)::l)=true:=by
 have h2:decide (2<no)=true:=decide_eq_true (by omega)
 have hr:((aT b m).all fun e=>e.leaves.all (AV.bF no 1))=true:=WE no 1 b.ai m
 unfold iq at hl ⊢
 rw[List.all_cons,List.all_cons,List.all_cons]
 simp only[Bool.and_eq_true]
 refine⟨rfl,?_,hr,hl⟩
 show((true&&(decide (2<no)&&(true&&(true&&(true&&true)))))&&true)=true
 rw[h2];rfl
theorem gM{b:Bk}{m:Nat}{x:Ex}:iq 6 1 [Z0,some [aX b m],some (aT b m),some [an x],some [an x],some [an x]]=true:=r6 6 (by decide) rfl
theorem gZ{b:Bk}{m:Nat}{x:Ex}:iq 5 1 [Z0,some [aX b m],some (aT b m),some [an x],some [an x]]=true:=r6 5 (by decide) rfl
theorem oK{b:Bk}{m:Nat}{x:Ex}:iq 4 1 [Z0,some [aX b m],some (aT b m),some [an x]]=true:=r6 4 (by decide) rfl
set_option maxRecDepth 100000 in
theorem Ww{ops:Array Oper}{l:List Oper}{Q:Exit→St→Prop}{tmps up:List AV}{gl:Nat→Option (List AV)}{b:Bk}{x:Ex}{m:Nat}{dst:Option Tmp}{x0 x1:Operand}{tys:Array TypeId}{ty:TypeId}{pos:String}{after:Array Edge}
 (hx0:St.ev ⟨tmps,[Z0,some [aX b m],some (aT b m),some [an x],some [an x],some [an x]],[b.ids.length],gl,none,up⟩ x0= .ptr 1 0 0) (hx1:St.ev ⟨tmps,[Z0,some [aX b m],some (aT b m),some [an x],some [an x],some [an x]],[b.ids.length],gl,none,up⟩ x1=an x)
 (hq:x.al≤4611686018427387904) (ho:b.af.length≤1000000) (hf:b.ai.length≤1000000) (hup:(tmps++up).all (kp 6)=true)
 (h:∀(b':Bk) (e:Int) (m':Nat),dH b x=(b',e)→aj E ops l Q (St.put ⟨tmps,[Z0,some [aX b' m'],some (aT b' m'),some [an x],some [an x],some [an x]],[b'.ids.length],gl,none,up⟩ dst (i64 e))):
 aj E ops (⟨dst,.call ⟨.value (.func 210),#[x0,x1],tys⟩,ty,pos,after,none⟩::l) Q ⟨tmps,[Z0,some [aX b m],some (aT b m),some [an x],some [an x],some [an x]],[b.ids.length],gl,none,up⟩:=by
 refine aj.call (caps:=[]) (rs:=[.tmp 4]) Tryz.func210 rfl Tryz.ntmps210 rfl (by kernel_rfl) rfl rfl ?_
 show aa E _ _ ⟨([St.ev ⟨tmps,[Z0,some [aX b m],some (aT b m),some [an x],some [an x],some [an x]],[b.ids.length],gl,none,up⟩ x0,St.ev ⟨tmps,[Z0,some [aX b m],some (aT b m),some [an x],some [an x],some [an x]],[b.ids.length],gl,none,up⟩ x1]++[])++List.replicate (58-2) (.v undef),[Z0,some [aX b m],some (aT b m),some [an x],some [an x],some [an x]],[b.ids.length],gl,none,tmps++up⟩
 rw[hx0,hx1]
 have hK:∀(tm:List AV) (ow:List (Option (List AV))) (tk:List Nat) (b':Bk) (e:Int) (m':Nat),dH b x=(b',e)→ow=[Z0,some [aX b' m'],some (aT b' m'),some [an x],some [an x],some [an x]]→tk=[b'.ids.length]→tm[4]?=some (i64 e)→bG E.P [.tmp 4] ⟨tmps,[Z0,some [aX b m],some (aT b m),some [an x],some [an x],some [an x]],[b.ids.length],gl,none,up⟩ (fun s z=>aj E ops l Q (s.put dst z)) .ret ⟨tm,ow,tk,gl,none,tmps++up⟩:=by
  intro tm ow tk b' e m' hb' how htk h4
  subst how;subst htk
  refine⟨rfl,?_⟩
  have:St.ev ⟨tm,[Z0,some [aX b' m'],some (aT b' m'),some [an x],some [an x],some [an x]],[b'.ids.length],gl,none,tmps++up⟩ (.tmp 4)=i64 e:=by simp[St.ev,List.getD_eq_getElem?_getD,h4]
  show aj E ops l Q (St.put _ dst (gI [St.ev _ (.tmp 4)]))
  rw[this]
  exact h b' e m' hb'
 generalize bG E.P [.tmp 4] ⟨tmps,[Z0,some [aX b m],some (aT b m),some [an x],some [an x],some [an x]],[b.ids.length],gl,none,up⟩ (fun s z=>aj E ops l Q (s.put dst z))=Q' at hK ⊢
 generalize tmps++up=up' at hup hK ⊢
 clear h hx0 hx1
 refine aa.ab fun K1 hK1=>?_
 refine aa.region ?_
 simp only[go_sem]
 refine hK1 _ ?_;clear hK1 K1
 refine aa.ab fun K2 hK2=>?_
 refine aa.bc [0,1,2,3,4,5,6,7,8,9,10,11,12,13,14,15] [] (by kernel_rfl) (by kernel_rfl) rfl ?_
 simp only[go_sem]
 repeat'((refine ah.of (M7 b.af x.ord x.al x.aw hq (by omega)) (by kernel_rfl) rfl ?_;rintro r t ⟨⟨y,rfl,hy⟩,rfl⟩<;>simp only[go_sem]))
 refine hK2 _ ?_;clear hK2 K2
 refine aa.ab fun K3 hK3=>?_
 refine aa.ab fun K4 hK4=>?_
 refine aa.region ?_
 simp only[go_sem]
 refine hK4 _ ?_;clear hK4 K4
 refine aa.block ?_
 refine aa.ab fun K5 hK5=>?_
 refine aa.region ?_
 simp only[go_sem]
 refine hK5 _ ?_;clear hK5 K5
 refine aa.cond rfl (fun c22=>?_) (fun c22=>?_)
 ·(
   try simp only[dD] at c22
   refine aa.skip ?_
   refine hK3 _ ?_;clear hK3 K3
   refine aa.ab fun K6 hK6=>?_
   have hx9:=hy (by assumption)
   subst hx9
   refine aa.region ?_
   simp only[go_sem]
   refine hK6 _ ?_;clear hK6 K6
   refine aa.ab fun K7 hK7=>?_
   refine aa.bc [0,1,2,3,4,5,6,7,8,9,10,11,12,13,14,15,16,17,18,19,20,21,22,23,24,25,26] [] (by kernel_rfl) (by kernel_rfl) rfl ?_
   simp only[go_sem]
   repeat'(((with_reducible refine And.intro ?_ ?_);(focus((first|omega|(simp;done)|(simp[cA];done))));(try simp only[hb,go_sem])))
   intro m2
   simp only[go_sem,w8]
   refine hK7 _ ?_;clear hK7 K7
   refine aa.ab fun K8 hK8=>?_
   refine aa.region ?_
   simp only[go_sem]
   refine hK8 _ ?_;clear hK8 K8
   refine aa.dy [0,1,7,3,4,5] [Z0,some [aX (dH b x).1 m2],some (aT (dH b x).1 m2),some [an x],some [an x],some [an x]] [b.ids.length] 6 (by decide) Dw hup (Nat.le_refl _) (by rw[vq (by assumption)];exact(J8 (d:=iO x) rfl rfl rfl).trans (by simp[aT])) gM ⟨rfl,trivial⟩ (Nat.le_refl _) ?_
   refine aa.ret ?_
   try simp only[go_sem]
   (exact hK _ _ _ (dH b x).1 0 m2 (by rw[vq (by assumption)]) rfl (by rw[vq (by assumption)]) rfl))
 ·(
   try simp only[dD] at c22
   refine aa.ab fun K9 hK9=>?_
   refine aa.region ?_
   simp only[go_sem]
   refine hK9 _ ?_;clear hK9 K9
   refine aa.cond rfl (fun c24=>?_) (fun c24=>?_)
   ·(
     try simp only[dD] at c24
     refine aa.ab fun K10 hK10=>?_
     refine aa.region ?_
     simp only[go_sem]
     refine hK10 _ ?_;clear hK10 K10
     refine aa.dy [0,1,2,3,4,5] [Z0,some [aX b m],some (aT b m),some [an x],some [an x],some [an x]] [b.ids.length] 6 (by decide) jc hup (Nat.le_refl _) jq gM ⟨rfl,trivial⟩ (Nat.le_refl _) ?_
     refine aa.ret ?_
     try simp only[go_sem]
     clear hK3 K3
     (exact hK _ _ _ b _ m (Kp (by assumption)) rfl rfl rfl))
   ·(
     try simp only[dD] at c24
     refine aa.ab fun K11 hK11=>?_
     refine aa.region ?_
     simp only[go_sem]
     refine hK11 _ ?_;clear hK11 K11
     refine aa.cond rfl (fun c26=>?_) (fun c26=>?_)
     ·(
       try simp only[dD] at c26
       refine aa.ab fun K12 hK12=>?_
       refine aa.region ?_
       simp only[go_sem]
       refine hK12 _ ?_;clear hK12 K12
       refine aa.dy [0,1,2,3,4,5] [Z0,some [aX b m],some (aT b m),some [an x],some [an x],some [an x]] [b.ids.length] 6 (by decide) jc hup (Nat.le_refl _) jq gM ⟨rfl,trivial⟩ (Nat.le_refl _) ?_
       refine aa.ret ?_
       try simp only[go_sem]
       clear hK3 K3
       (exact hK _ _ _ b _ m (GS (by assumption)) rfl rfl rfl))
     ·(
       try simp only[dD] at c26
       refine aa.ab fun K13 hK13=>?_
       refine aa.region ?_
       simp only[go_sem]
       refine hK13 _ ?_;clear hK13 K13
       refine aa.dy [0,1,2,3,4,5] [Z0,some [aX b m],some (aT b m),some [an x],some [an x],some [an x]] [b.ids.length] 6 (by decide) jc hup (Nat.le_refl _) jq gM ⟨rfl,trivial⟩ (Nat.le_refl _) ?_
       refine aa.ret ?_
       try simp only[go_sem]
       clear hK3 K3
       (exact hK _ _ _ b _ m (HC (by assumption) (by assumption) (by assumption)) rfl rfl rfl))))
theorem sT{b:Bk}{x:Ex}(h:(ca b.af x.ref x.ord x.al x.aw).2=0):dN b x=(⟨(ca b.af x.ref x.ord x.al x.aw).1,b.ai,b.ids,b.clock,b.bad⟩,0):=by unfold dN;simp[h]
theorem FT{b:Bk}{x:Ex}(h:(ca b.af x.ref x.ord x.al x.aw).2=1):dN b x=(b,4):=by unfold dN;simp[h]
theorem U2{b:Bk}{x:Ex}(h0:¬(ca b.af x.ref x.ord x.al x.aw).2=0)(h1:¬(ca b.af x.ref x.ord x.al x.aw).2=1):dN b x=(b,2):=by unfold dN;simp[h0,h1]
theorem Pr{b:Bk}{x:Ex}(h:dF b.ai x.ref=none):bH b x=(b,6):=by unfold bH;simp[h]
section
variable{b:Bk}{x:Ex}{n:Nat}{f:Dn}(e2:dF b.ai x.ref=some n)(hb:b.ai[n]?=some f)
include e2 hb
theorem SB(h:f.live=false):bH b x=(b,6):=by unfold bH;simp[e2,hb,h]
theorem NR(h:10<x.time-f.time):bH b x=(b,6):=by unfold bH;simp[e2,hb,h]
variable(hl:f.live=true)(ht:¬10<x.time-f.time)
include hl ht
theorem qt(h:f.ord≠x.ord∨f.acc≠x.acc∨f.sym≠x.sym∨f.au≠x.au):bH b x=(b,3):=by
 unfold bH;simp only[e2,mA hb]
 rw[if_neg (by simp[hl];omega),if_pos h]
variable(h1:f.ord=x.ord)(h2:f.acc=x.acc)(h3:f.sym=x.sym)(h4:f.au=x.au)
include h1 h2 h3 h4
theorem tF(h:x.kind=7):bH b x=(⟨b.af,b.ai.set n ⟨f.id,f.ord,f.acc,f.sym,f.au,f.al,f.aw,f.time,false⟩,b.ids,b.clock,b.bad⟩,0):=by
 unfold bH;simp only[e2,mA hb]
 rw[if_neg (by simp[hl];omega),if_neg (by simp[h1,h2,h3,h4]),if_pos h]
variable(h5:¬x.kind=7)
include h5
theorem P3(h:f.al<x.al):bH b x=(b,4):=by
 unfold bH;simp only[e2,mA hb]
 rw[if_neg (by simp[hl];omega),if_neg (by simp[h1,h2,h3,h4]),if_neg h5,if_pos h]
variable(h6:¬f.al<x.al)
include h6
theorem zT(h:(findF b.af f.ord).2=false∨er { (findF b.af f.ord).1 with au:=f.au } x.aw=false):bH b x=(b,5):=by
 unfold bH;simp only[e2,mA hb]
 rw[if_neg (by simp[hl];omega),if_neg (by simp[h1,h2,h3,h4]),if_neg h5,if_neg h6,if_pos h]
theorem uW(h7:(findF b.af f.ord).2=true)(h8:er { (findF b.af f.ord).1 with au:=f.au } x.aw=true):bH b x=(⟨b.af,b.ai.set n ⟨f.id,f.ord,f.acc,f.sym,f.au,x.al,x.aw,f.time,f.live⟩,b.ids,b.clock,b.bad⟩,0):=by
 unfold bH;simp only[e2,mA hb]
 rw[if_neg (by simp[hl];omega),if_neg (by simp[h1,h2,h3,h4]),if_neg h5,if_neg h6,if_neg (by simp[h7,h8])]
end
theorem tf{os ids y1 y2:AV}{k c m:Nat}{l:List Dn}{x:Ex}{rest:List (Option (List AV))}(h0:os.bV (ch [0,1,2,3,4,5])=os)(hi:ids.bV (ch [0,1,2,3,4,5])=ids)(h1:y1.bV (ch [0,1,2,3,4,5])=y1)(h2:y2.bV (ch [0,1,2,3,4,5])=y2):
 iP (Z0::some [.agg [os,.mu 2 9 0 k c,ids,y1,y2]]::some (l.map bQ++spare 9 m)::some [an x]::some [an x]::some [an x]::rest) [0,1,2,3,4,5]=[Z0,some [.agg [os,.mu 2 9 0 k c,ids,y1,y2]],some (l.map bQ++spare 9 m),some [an x],some [an x],some [an x]]:=by
 show[Z0,some [.agg [os.bV _,.mu 2 9 0 k c,ids.bV _,y1.bV _,y2.bV _]],some ((l.map bQ++spare 9 m).map _),some [an x],some [an x],some [an x]]=_
 rw[nm,h0,hi,h1,h2]
theorem E4{a b:Int}(h1:0≤a∧a≤4611686018427387904)(h2:0≤b∧b≤4611686018427387904):IntKind.i64.wrap (a-b)=a-b:=aq (by omega) (by omega)
set_option maxRecDepth 100000 in
theorem Er{ops:Array Oper}{l:List Oper}{Q:Exit→St→Prop}{tmps up:List AV}{gl:Nat→Option (List AV)}{b:Bk}{x:Ex}{m:Nat}{dst:Option Tmp}{x0 x1:Operand}{tys:Array TypeId}{ty:TypeId}{pos:String}{after:Array Edge}
 (hx0:St.ev ⟨tmps,[Z0,some [aX b m],some (aT b m),some [an x],some [an x],some [an x]],[b.ids.length],gl,none,up⟩ x0= .ptr 1 0 0) (hx1:St.ev ⟨tmps,[Z0,some [aX b m],some (aT b m),some [an x],some [an x],some [an x]],[b.ids.length],gl,none,up⟩ x1=an x)
  (ho:b.af.length≤1000000) (hf:b.ai.length≤1000000) (hup:(tmps++up).all (kp 6)=true)
 (h:∀(b':Bk) (e:Int) (m':Nat),dN b x=(b',e)→aj E ops l Q (St.put ⟨tmps,[Z0,some [aX b' m'],some (aT b' m'),some [an x],some [an x],some [an x]],[b'.ids.length],gl,none,up⟩ dst (i64 e))):
 aj E ops (⟨dst,.call ⟨.value (.func 211),#[x0,x1],tys⟩,ty,pos,after,none⟩::l) Q ⟨tmps,[Z0,some [aX b m],some (aT b m),some [an x],some [an x],some [an x]],[b.ids.length],gl,none,up⟩:=by
 refine aj.call (caps:=[]) (rs:=[.tmp 4]) Tryz.func211 rfl Tryz.ntmps211 rfl (by kernel_rfl) rfl rfl ?_
 show aa E _ _ ⟨([St.ev ⟨tmps,[Z0,some [aX b m],some (aT b m),some [an x],some [an x],some [an x]],[b.ids.length],gl,none,up⟩ x0,St.ev ⟨tmps,[Z0,some [aX b m],some (aT b m),some [an x],some [an x],some [an x]],[b.ids.length],gl,none,up⟩ x1]++[])++List.replicate (32-2) (.v undef),[Z0,some [aX b m],some (aT b m),some [an x],some [an x],some [an x]],[b.ids.length],gl,none,tmps++up⟩
 rw[hx0,hx1]
 have hK:∀(tm:List AV) (ow:List (Option (List AV))) (tk:List Nat) (b':Bk) (e:Int) (m':Nat),dN b x=(b',e)→ow=[Z0,some [aX b' m'],some (aT b' m'),some [an x],some [an x],some [an x]]→tk=[b'.ids.length]→tm[4]?=some (i64 e)→bG E.P [.tmp 4] ⟨tmps,[Z0,some [aX b m],some (aT b m),some [an x],some [an x],some [an x]],[b.ids.length],gl,none,up⟩ (fun s z=>aj E ops l Q (s.put dst z)) .ret ⟨tm,ow,tk,gl,none,tmps++up⟩:=by
  intro tm ow tk b' e m' hb' how htk h4
  subst how;subst htk
  refine⟨rfl,?_⟩
  have:St.ev ⟨tm,[Z0,some [aX b' m'],some (aT b' m'),some [an x],some [an x],some [an x]],[b'.ids.length],gl,none,tmps++up⟩ (.tmp 4)=i64 e:=by simp[St.ev,List.getD_eq_getElem?_getD,h4]
  show aj E ops l Q (St.put _ dst (gI [St.ev _ (.tmp 4)]))
  rw[this]
  exact h b' e m' hb'
 generalize bG E.P [.tmp 4] ⟨tmps,[Z0,some [aX b m],some (aT b m),some [an x],some [an x],some [an x]],[b.ids.length],gl,none,up⟩ (fun s z=>aj E ops l Q (s.put dst z))=Q' at hK ⊢
 generalize tmps++up=up' at hup hK ⊢
 clear h hx0 hx1
 refine aa.ab fun K1 hK1=>?_
 refine aa.region ?_
 simp only[go_sem]
 refine hK1 _ ?_;clear hK1 K1
 refine aa.ab fun K2 hK2=>?_
 refine aa.bc [0,1,2,3,4,5,6,7,8,9,10,11,12,13,14,15,16,17] [] (by kernel_rfl) (by kernel_rfl) rfl ?_
 simp only[go_sem]
 repeat'((refine ah.of (Ik b.af x.ref x.ord x.al x.aw (by omega)) (by kernel_rfl) rfl ?_;rintro r t ⟨⟨y,rfl,hy⟩,rfl⟩<;>simp only[go_sem]))
 refine hK2 _ ?_;clear hK2 K2
 refine aa.ab fun K3 hK3=>?_
 refine aa.ab fun K4 hK4=>?_
 refine aa.region ?_
 simp only[go_sem]
 refine hK4 _ ?_;clear hK4 K4
 refine aa.block ?_
 refine aa.ab fun K5 hK5=>?_
 refine aa.region ?_
 simp only[go_sem]
 refine hK5 _ ?_;clear hK5 K5
 refine aa.cond rfl (fun c24=>?_) (fun c24=>?_)
 ·(
   try simp only[dD] at c24
   refine aa.skip ?_
   refine hK3 _ ?_;clear hK3 K3
   refine aa.ab fun K6 hK6=>?_
   have hx9:=hy (by assumption)
   subst hx9
   refine aa.region ?_
   simp only[go_sem]
   refine hK6 _ ?_;clear hK6 K6
   refine aa.ab fun K7 hK7=>?_
   refine aa.region ?_
   simp only[go_sem]
   refine hK7 _ ?_;clear hK7 K7
   refine aa.dy [0,1,2,3,4,5] [Z0,some [aX (dN b x).1 m],some (aT (dN b x).1 m),some [an x],some [an x],some [an x]] [b.ids.length] 6 (by decide) jc hup (Nat.le_refl _) (by rw[sT (by assumption)];exact tf rfl rfl rfl rfl) gM ⟨rfl,trivial⟩ (Nat.le_refl _) ?_
   refine aa.ret ?_
   try simp only[go_sem]
   (exact hK _ _ _ (dN b x).1 0 m (by rw[sT (by assumption)]) rfl (by rw[sT (by assumption)]) rfl))
 ·(
   try simp only[dD] at c24
   refine aa.ab fun K8 hK8=>?_
   refine aa.region ?_
   simp only[go_sem]
   refine hK8 _ ?_;clear hK8 K8
   refine aa.cond rfl (fun c26=>?_) (fun c26=>?_)
   ·(
     try simp only[dD] at c26
     refine aa.ab fun K9 hK9=>?_
     refine aa.region ?_
     simp only[go_sem]
     refine hK9 _ ?_;clear hK9 K9
     refine aa.dy [0,1,2,3,4,5] [Z0,some [aX b m],some (aT b m),some [an x],some [an x],some [an x]] [b.ids.length] 6 (by decide) jc hup (Nat.le_refl _) jq gM ⟨rfl,trivial⟩ (Nat.le_refl _) ?_
     refine aa.ret ?_
     try simp only[go_sem]
     clear hK3 K3
     (exact hK _ _ _ b _ m (FT (by assumption)) rfl rfl rfl))
   ·(
     try simp only[dD] at c26
     refine aa.ab fun K10 hK10=>?_
     refine aa.region ?_
     simp only[go_sem]
     refine hK10 _ ?_;clear hK10 K10
     refine aa.dy [0,1,2,3,4,5] [Z0,some [aX b m],some (aT b m),some [an x],some [an x],some [an x]] [b.ids.length] 6 (by decide) jc hup (Nat.le_refl _) jq gM ⟨rfl,trivial⟩ (Nat.le_refl _) ?_
     refine aa.ret ?_
     try simp only[go_sem]
     clear hK3 K3
     (exact hK _ _ _ b _ m (U2 (by assumption) (by assumption)) rfl rfl rfl)))
set_option maxRecDepth 100000 in
theorem Ce{ops:Array Oper}{l:List Oper}{Q:Exit→St→Prop}{tmps up:List AV}{gl:Nat→Option (List AV)}{b:Bk}{x:Ex}{m:Nat}{dst:Option Tmp}{x0 x1:Operand}{tys:Array TypeId}{ty:TypeId}{pos:String}{after:Array Edge}
 (hx0:St.ev ⟨tmps,[Z0,some [aX b m],some (aT b m),some [an x],some [an x],some [an x]],[b.ids.length],gl,none,up⟩ x0= .ptr 1 0 0) (hx1:St.ev ⟨tmps,[Z0,some [aX b m],some (aT b m),some [an x],some [an x],some [an x]],[b.ids.length],gl,none,up⟩ x1=an x)
 (htx:0≤x.time∧x.time≤4611686018427387904) (htf:∀f∈b.ai,0≤f.time∧f.time≤4611686018427387904) (ho:b.af.length≤1000000) (hf:b.ai.length≤1000000) (hup:(tmps++up).all (kp 6)=true)
 (h:∀(b':Bk) (e:Int) (m':Nat),bH b x=(b',e)→aj E ops l Q (St.put ⟨tmps,[Z0,some [aX b' m'],some (aT b' m'),some [an x],some [an x],some [an x]],[b'.ids.length],gl,none,up⟩ dst (i64 e))):
 aj E ops (⟨dst,.call ⟨.value (.func 209),#[x0,x1],tys⟩,ty,pos,after,none⟩::l) Q ⟨tmps,[Z0,some [aX b m],some (aT b m),some [an x],some [an x],some [an x]],[b.ids.length],gl,none,up⟩:=by
 refine aj.call (caps:=[]) (rs:=[.tmp 4]) Tryz.func209 rfl Tryz.ntmps209 rfl (by kernel_rfl) rfl rfl ?_
 show aa E _ _ ⟨([St.ev ⟨tmps,[Z0,some [aX b m],some (aT b m),some [an x],some [an x],some [an x]],[b.ids.length],gl,none,up⟩ x0,St.ev ⟨tmps,[Z0,some [aX b m],some (aT b m),some [an x],some [an x],some [an x]],[b.ids.length],gl,none,up⟩ x1]++[])++List.replicate (130-2) (.v undef),[Z0,some [aX b m],some (aT b m),some [an x],some [an x],some [an x]],[b.ids.length],gl,none,tmps++up⟩
 rw[hx0,hx1]
 have hK:∀(tm:List AV) (ow:List (Option (List AV))) (tk:List Nat) (b':Bk) (e:Int) (m':Nat),bH b x=(b',e)→ow=[Z0,some [aX b' m'],some (aT b' m'),some [an x],some [an x],some [an x]]→tk=[b'.ids.length]→tm[4]?=some (i64 e)→bG E.P [.tmp 4] ⟨tmps,[Z0,some [aX b m],some (aT b m),some [an x],some [an x],some [an x]],[b.ids.length],gl,none,up⟩ (fun s z=>aj E ops l Q (s.put dst z)) .ret ⟨tm,ow,tk,gl,none,tmps++up⟩:=by
  intro tm ow tk b' e m' hb' how htk h4
  subst how;subst htk
  refine⟨rfl,?_⟩
  have:St.ev ⟨tm,[Z0,some [aX b' m'],some (aT b' m'),some [an x],some [an x],some [an x]],[b'.ids.length],gl,none,tmps++up⟩ (.tmp 4)=i64 e:=by simp[St.ev,List.getD_eq_getElem?_getD,h4]
  show aj E ops l Q (St.put _ dst (gI [St.ev _ (.tmp 4)]))
  rw[this]
  exact h b' e m' hb'
 generalize bG E.P [.tmp 4] ⟨tmps,[Z0,some [aX b m],some (aT b m),some [an x],some [an x],some [an x]],[b.ids.length],gl,none,up⟩ (fun s z=>aj E ops l Q (s.put dst z))=Q' at hK ⊢
 generalize tmps++up=up' at hup hK ⊢
 clear h hx0 hx1
 refine aa.ab fun K1 hK1=>?_
 refine aa.region ?_
 simp only[go_sem]
 refine hK1 _ ?_;clear hK1 K1
 refine aa.ab fun K2 hK2=>?_
 refine aa.region ?_
 simp only[go_sem]
 repeat'((refine ah.gS (Ms b.ai x (by omega)) (by kernel_rfl) rfl (.cons (.one (.iY rfl (by simp) (pH _))) (.cons (.fn (.cons (.ptr (e:=an x) rfl (U9 x)) .nil)) .nil)) ?_;simp only[go_sem]))
 refine hK2 _ ?_;clear hK2 K2
 refine aa.ab fun K3 hK3=>?_
 refine aa.ab fun K4 hK4=>?_
 rcases uN b.ai x.ref with⟨e,e2⟩|⟨n,f,e,e2,hb⟩<;>simp only[e]
 all_goals first|have hn:n<b.ai.length:=bI hb|skip
 all_goals first|have hg:=xB hb (spare 9 m)|have hg:True:=trivial
 all_goals first|have hw:=E4 htx (htf f (List.mem_of_getElem? hb))|have hw:True:=trivial
 all_goals(
  refine aa.bc [0,1,2,3,4,5,6,7,8,9,10,11,12,13,14,15,16,17,18,19,20,21,22,23,24,25,26] [] (by kernel_rfl) (by kernel_rfl) rfl ?_
  simp only[go_sem,hg,hw]
  repeat'(first|(refine aH.bY (fun h=>?_) (fun h=>?_)<;>simp only[h,go_sem,hg,hw]<;>try simp only[dD] at h)|(refine aH.split (fun h=>?_) (fun h=>?_)<;>simp only[h,go_sem,hg,hw]<;>try simp only[dD] at h)|((with_reducible refine And.intro ?_ ?_);(focus((omega)));(try simp only[hb,go_sem,hg,hw])))
  all_goals(
   refine hK4 _ ?_;clear hK4 K4
   refine aa.cond rfl (fun c41=>?_) (fun c41=>?_)
   ·(
     try simp only[dD] at c41
     refine aa.ab fun K5 hK5=>?_
     refine aa.region ?_
     simp only[go_sem]
     refine hK5 _ ?_;clear hK5 K5
     refine aa.dy [0,1,2,3,4,5] [Z0,some [aX b m],some (aT b m),some [an x],some [an x],some [an x]] [b.ids.length] 6 (by decide) jc hup (Nat.le_refl _) jq gM ⟨rfl,trivial⟩ (Nat.le_refl _) ?_
     refine aa.ret ?_
     try simp only[go_sem]
     clear hK3 K3
     first
     |(exfalso;omega)
     |exact hK _ _ _ b _ m (Pr e2) rfl rfl rfl
     |exact hK _ _ _ b _ m (SB e2 hb (by assumption)) rfl rfl rfl
     |exact hK _ _ _ b _ m (NR e2 hb (by assumption)) rfl rfl rfl)
   ·first|exact Bool.noConfusion c41|(
     try simp only[dD] at c41
     refine aa.skip ?_
     refine hK3 _ ?_;clear hK3 K3
     refine aa.ab fun K6 hK6=>?_
     refine aa.region ?_
     simp only[go_sem,hg]
     repeat'(((with_reducible refine And.intro ?_ ?_);(focus((omega)));(try simp only[hb,go_sem,hg])))
     refine hK6 _ ?_;clear hK6 K6
     refine aa.ab fun K7 hK7=>?_
     refine aa.ab fun K8 hK8=>?_
     refine aa.bc [0,1,2,3,4,5,6,7,8,9,10,11,12,13,14,15,16,17,18,19,20,21,22,23,24,25,26,27,28,29,30,31,32,33] [] (by kernel_rfl) (by kernel_rfl) rfl ?_
     simp only[go_sem,hg]
     repeat'((refine aH.split (fun h=>?_) (fun h=>?_)<;>simp only[h,go_sem,hg]<;>try simp only[dD] at h))
     all_goals(
      refine hK8 _ ?_;clear hK8 K8
      refine aa.cond rfl (fun c81=>?_) (fun c81=>?_)
      ·(
        try simp only[dD] at c81
        refine aa.ab fun K9 hK9=>?_
        refine aa.region ?_
        simp only[go_sem]
        refine hK9 _ ?_;clear hK9 K9
        refine aa.dy [0,1,2,3,4,5] [Z0,some [aX b m],some (aT b m),some [an x],some [an x],some [an x]] [b.ids.length] 6 (by decide) jc hup (Nat.le_refl _) jq gM ⟨rfl,trivial⟩ (Nat.le_refl _) ?_
        refine aa.ret ?_
        try simp only[go_sem]
        clear hK7 K7
        first
        |exact hK _ _ _ b _ m (qt e2 hb (by assumption) (by assumption) (.inl (by assumption))) rfl rfl rfl
        |exact hK _ _ _ b _ m (qt e2 hb (by assumption) (by assumption) (.inr (.inl (by assumption)))) rfl rfl rfl
        |exact hK _ _ _ b _ m (qt e2 hb (by assumption) (by assumption) (.inr (.inr (.inl (by assumption))))) rfl rfl rfl
        |exact hK _ _ _ b _ m (qt e2 hb (by assumption) (by assumption) (.inr (.inr (.inr (by assumption))))) rfl rfl rfl)
      ·first|exact Bool.noConfusion c81|(
        try simp only[dD] at c81
        refine aa.skip ?_
        refine hK7 _ ?_;clear hK7 K7
        refine aa.ab fun K10 hK10=>?_
        refine aa.ab fun K11 hK11=>?_
        refine aa.region ?_
        simp only[go_sem]
        refine hK11 _ ?_;clear hK11 K11
        refine aa.cond rfl (fun c84=>?_) (fun c84=>?_)
        ·(
          try simp only[dD] at c84
          refine aa.ab fun K12 hK12=>?_
          refine aa.region ?_
          simp only[go_sem]
          repeat'((refine aG.fT (by assumption) ?_;(try simp only[go_sem])))
          refine hK12 _ ?_;clear hK12 K12
          refine aa.ab fun K13 hK13=>?_
          rw[tw (o':=⟨f.id,f.ord,f.acc,f.sym,f.au,f.al,f.aw,f.time,false⟩) hb (spare 9 m)]
          refine aa.region ?_
          simp only[go_sem]
          refine hK13 _ ?_;clear hK13 K13
          refine aa.dy [0,1,2,3,4,5] [Z0,some [aX (bH b x).1 m],some (aT (bH b x).1 m),some [an x],some [an x],some [an x]] [b.ids.length] 6 (by decide) jc hup (Nat.le_refl _) (by rw[tF e2 hb (by assumption) (by assumption) (by assumption) (by assumption) (by assumption) (by assumption) (by assumption)];exact(tf rfl rfl rfl rfl).trans (by simp[aT])) gM ⟨rfl,trivial⟩ (Nat.le_refl _) ?_
          refine aa.ret ?_
          try simp only[go_sem]
          clear hK10 K10
          (exact hK _ _ _ (bH b x).1 0 m (by rw[tF e2 hb (by assumption) (by assumption) (by assumption) (by assumption) (by assumption) (by assumption) (by assumption)]) rfl (by rw[tF e2 hb (by assumption) (by assumption) (by assumption) (by assumption) (by assumption) (by assumption) (by assumption)]) rfl))
        ·(
          try simp only[dD] at c84
          refine aa.skip ?_
          refine hK10 _ ?_;clear hK10 K10
          refine aa.ab fun K14 hK14=>?_
          refine aa.ab fun K15 hK15=>?_
          refine aa.bc [0,1,2,3,4,5,6] [] (by kernel_rfl) (by kernel_rfl) rfl ?_
          simp only[go_sem,hg]
          refine hK15 _ ?_;clear hK15 K15
          refine aa.cond rfl (fun c94=>?_) (fun c94=>?_)
          ·(
            try simp only[dD] at c94
            refine aa.ab fun K16 hK16=>?_
            refine aa.region ?_
            simp only[go_sem]
            refine hK16 _ ?_;clear hK16 K16
            refine aa.dy [0,1,2,3,4,5] [Z0,some [aX b m],some (aT b m),some [an x],some [an x],some [an x]] [b.ids.length] 6 (by decide) jc hup (Nat.le_refl _) jq gM ⟨rfl,trivial⟩ (Nat.le_refl _) ?_
            refine aa.ret ?_
            try simp only[go_sem]
            clear hK14 K14
            (exact hK _ _ _ b _ m (P3 e2 hb (by assumption) (by assumption) (by assumption) (by assumption) (by assumption) (by assumption) (by assumption) (by assumption)) rfl rfl rfl))
          ·(
            try simp only[dD] at c94
            refine aa.skip ?_
            refine hK14 _ ?_;clear hK14 K14
            refine aa.ab fun K17 hK17=>?_
            refine aa.sX (.take 0 (.take 1 (.take 2 (.take 3 (.take 4 (.take 5 (.take 6 (.take 7 (.fork (.alt 8 (.take 9 (.take 10 (.take 11 (.take 12 (.take 13 (.take 14 .done)))))) (.alt 12 (.take 8 (.take 9 (.take 10 (.take 11 (.take 13 (.take 14 .done)))))) .ends))))))))))) [[],[0],[0,1],[0,1,2],[],[4],[4,5],[4,5,6],[0,1,2,3,4,5,6,7],[0,1,2,3,4,5,6,7,8],[0,1,2,3,4,5,6,7,8,9],[0,1,2,3,4,5,6,7,8,9],[],[0,1,2,3,4,5,6,7,8,9,10,12],[0,1,2,3,4,5,6,7,8,9,10,11,12,13]] [7] (by kernel_rfl) (by kernel_rfl) (by decide) ?_
            simp only[go_sem,hg]
            refine And.intro ?_ ?_
            repeat'((refine ah.one (qz b.af f.ord (by omega)) (by kernel_rfl) rfl ?_;simp only[go_sem,hg]))
            all_goals(
             refine hK17 _ ?_;clear hK17 K17
             refine aa.ab fun K18 hK18=>?_
             refine aa.ab fun K19 hK19=>?_
             refine aa.bc [0,1,2,3,4,5,6,7,8,9,10,11,12] [] (by kernel_rfl) (by kernel_rfl) rfl ?_
             simp only[go_sem,hg]
             repeat'(first|(refine ah.one (WL (findF b.af f.ord).1 f.au x.aw) (by kernel_rfl) rfl ?_;simp only[go_sem,hg])|(refine aH.split (fun h=>?_) (fun h=>?_)<;>simp only[h,go_sem,hg]<;>try simp only[dD] at h))
             all_goals(
              refine hK19 _ ?_;clear hK19 K19
              refine aa.cond rfl (fun c119=>?_) (fun c119=>?_)
              ·(
                try simp only[dD] at c119
                refine aa.ab fun K20 hK20=>?_
                refine aa.region ?_
                simp only[go_sem]
                refine hK20 _ ?_;clear hK20 K20
                refine aa.dy [0,1,2,3,4,5] [Z0,some [aX b m],some (aT b m),some [an x],some [an x],some [an x]] [b.ids.length] 6 (by decide) jc hup (Nat.le_refl _) jq gM ⟨rfl,trivial⟩ (Nat.le_refl _) ?_
                refine aa.ret ?_
                try simp only[go_sem]
                clear hK18 K18
                first
                |exact hK _ _ _ b _ m (zT e2 hb (by assumption) (by assumption) (by assumption) (by assumption) (by assumption) (by assumption) (by assumption) (by assumption) (.inl (by assumption))) rfl rfl rfl
                |exact hK _ _ _ b _ m (zT e2 hb (by assumption) (by assumption) (by assumption) (by assumption) (by assumption) (by assumption) (by assumption) (by assumption) (.inr (by assumption))) rfl rfl rfl)
              ·first|exact Bool.noConfusion c119|(
                try simp only[dD] at c119
                refine aa.skip ?_
                refine hK18 _ ?_;clear hK18 K18
                refine aa.ab fun K21 hK21=>?_
                refine aa.region ?_
                simp only[go_sem]
                repeat'((refine aG.fT (by assumption) ?_;(try simp only[go_sem])))
                refine hK21 _ ?_;clear hK21 K21
                refine aa.ab fun K22 hK22=>?_
                rw[tw (o':=⟨f.id,f.ord,f.acc,f.sym,f.au,x.al,f.aw,f.time,f.live⟩) hb (spare 9 m)]
                have hb1:(b.ai.set n ⟨f.id,f.ord,f.acc,f.sym,f.au,x.al,f.aw,f.time,f.live⟩)[n]?=some ⟨f.id,f.ord,f.acc,f.sym,f.au,x.al,f.aw,f.time,f.live⟩:=List.getElem?_set_self hn
                have hg2:=xB hb1 (spare 9 m)
                refine aa.region ?_
                simp only[go_sem,hg2]
                refine hK22 _ ?_;clear hK22 K22
                refine aa.ab fun K23 hK23=>?_
                rw[tw (o':=⟨f.id,f.ord,f.acc,f.sym,f.au,x.al,x.aw,f.time,f.live⟩) hb1 (spare 9 m),List.set_set]
                refine aa.region ?_
                simp only[go_sem]
                refine hK23 _ ?_;clear hK23 K23
                refine aa.dy [0,1,2,3,4,5] [Z0,some [aX (bH b x).1 m],some (aT (bH b x).1 m),some [an x],some [an x],some [an x]] [b.ids.length] 6 (by decide) jc hup (Nat.le_refl _) (by rw[uW e2 hb (by assumption) (by assumption) (by assumption) (by assumption) (by assumption) (by assumption) (by assumption) (by assumption) (by assumption) (by assumption)];exact(tf rfl rfl rfl rfl).trans (by simp[aT])) gM ⟨rfl,trivial⟩ (Nat.le_refl _) ?_
                refine aa.ret ?_
                try simp only[go_sem]
                (exact hK _ _ _ (bH b x).1 0 m (by rw[uW e2 hb (by assumption) (by assumption) (by assumption) (by assumption) (by assumption) (by assumption) (by assumption) (by assumption) (by assumption) (by assumption)]) rfl (by rw[uW e2 hb (by assumption) (by assumption) (by assumption) (by assumption) (by assumption) (by assumption) (by assumption) (by assumption) (by assumption) (by assumption)]) rfl)))))))))))
theorem Rf{x:Ex}(h:dh x=true):x.al≤4611686018427387904∧0≤x.time∧x.time≤4611686018427387904:=by
 simp only[dh,bJ,lv,Bool.and_eq_true,decide_eq_true_eq] at h
 omega
theorem MN{b:Bk}{x:Ex}(h:x.time<b.clock):bK b x=(b,1):=by unfold bK;rw[if_pos h]
section
variable{b:Bk}{x:Ex}(h0:¬x.time<b.clock)
include h0
theorem LU(hk:x.kind=1)(h:¬(cD b.af (fY x)).2=0):bK b x=(b,2):=by unfold bK;rw[if_neg h0,if_pos hk];simp only[if_neg h]
theorem ME(hk:x.kind=1)(h:(cD b.af (fY x)).2=0):bK b x=(⟨(cD b.af (fY x)).1,b.ai,b.ids,b.clock,b.bad⟩,0):=by unfold bK;rw[if_neg h0,if_pos hk];simp only[if_pos h]
variable(hk1:¬x.kind=1)
include hk1
theorem AT(hk:x.kind=7∨x.kind=8):bK b x=bH b x:=by unfold bK;rw[if_neg h0,if_neg hk1,if_pos hk]
variable(hk7:¬x.kind=7)(hk8:¬x.kind=8)
include hk7 hk8
variable{id:Bs}(hid:(if x.kind=4 then x.ref else x.ord)=id)
include hid
theorem rn(h:(findF b.af id).2=false∨(findF b.af id).1.bg=false):bK b x=(b,2):=by
 unfold bK;rw[if_neg h0,if_neg hk1,if_neg (by simp[hk7,hk8])];simp only[hid];rw[if_pos h]
variable(g1:(findF b.af id).2=true)(g2:(findF b.af id).1.bg=true)
include g1 g2
theorem nX(h:(findF b.af id).1.acc≠x.acc∨(findF b.af id).1.sym≠x.sym∨(findF b.af id).1.au≠x.au):bK b x=(b,3):=by
 unfold bK;rw[if_neg h0,if_neg hk1,if_neg (by simp[hk7,hk8])];simp only[hid];rw[if_neg (by simp[g1,g2]),if_pos h]
variable(g3:(findF b.af id).1.acc=x.acc)(g4:(findF b.af id).1.sym=x.sym)(g5:(findF b.af id).1.au=x.au)
include g3 g4 g5
theorem M5(hk:x.kind=2):bK b x=dH b x:=by
 unfold bK;rw[if_neg h0,if_neg hk1,if_neg (by simp[hk7,hk8])];simp only[hid];rw[if_neg (by simp[g1,g2]),if_neg (by simp[g3,g4,g5]),if_pos hk]
variable(hk2:¬x.kind=2)
include hk2
theorem R4(hk:x.kind=4):bK b x=dN b x:=by
 unfold bK;rw[if_neg h0,if_neg hk1,if_neg (by simp[hk7,hk8])];simp only[hid];rw[if_neg (by simp[g1,g2]),if_neg (by simp[g3,g4,g5]),if_neg hk2,if_pos hk]
variable(hk4:¬x.kind=4)
include hk4
theorem IT(h:¬(dj b.af x.ord).2=0):bK b x=(b,2):=by
 unfold bK;rw[if_neg h0,if_neg hk1,if_neg (by simp[hk7,hk8])];simp only[hid];rw[if_neg (by simp[g1,g2]),if_neg (by simp[g3,g4,g5]),if_neg hk2,if_neg hk4];simp only[if_neg h]
theorem VJ(h:(dj b.af x.ord).2=0):bK b x=(⟨(dj b.af x.ord).1,b.ai,b.ids,b.clock,b.bad⟩,0):=by
 unfold bK;rw[if_neg h0,if_neg hk1,if_neg (by simp[hk7,hk8])];simp only[hid];rw[if_neg (by simp[g1,g2]),if_neg (by simp[g3,g4,g5]),if_neg hk2,if_neg hk4];simp only[if_pos h]
end
theorem il:∀i,i≠2→i<5→ch [0,1,2,3,4] i=some i:=by
 intro i h1 h2
 have:i=0∨i=1∨i=3∨i=4:=by omega
 rcases this with rfl|rfl|rfl|rfl<;>rfl
theorem iy{os ids y1 y2:AV}{k c m:Nat}{l:List Dn}{x:Ex}{rest:List (Option (List AV))}(h0:os.bV (ch [0,1,2,3,4])=os)(hi:ids.bV (ch [0,1,2,3,4])=ids)(h1:y1.bV (ch [0,1,2,3,4])=y1)(h2:y2.bV (ch [0,1,2,3,4])=y2):
 iP (Z0::some [.agg [os,.mu 2 9 0 k c,ids,y1,y2]]::some (l.map bQ++spare 9 m)::some [an x]::some [an x]::rest) [0,1,2,3,4]=[Z0,some [.agg [os,.mu 2 9 0 k c,ids,y1,y2]],some (l.map bQ++spare 9 m),some [an x],some [an x]]:=by
 show[Z0,some [.agg [os.bV _,.mu 2 9 0 k c,ids.bV _,y1.bV _,y2.bV _]],some ((l.map bQ++spare 9 m).map _),some [an x],some [an x]]=_
 rw[nm,h0,hi,h1,h2]
theorem pk{n k:Nat}(h:n≤k){x:AV}(hx:fk n x=true):fk k x=true:=by
 cases x<;>simp only[fk,Bool.and_eq_true,bne_iff_ne,decide_eq_true_eq] at hx ⊢ <;>first|(exact⟨hx.1,by omega⟩)|(simp at hx;done)|skip
 case sl t k es=>cases t<;>simp[fk] at hx ⊢;exact hx
 case fn f cs=>cases cs<;>simp[fk] at hx ⊢
theorem XR{n k:Nat}(h:n≤k){x:AV}(hx:kp n x=true):kp k x=true:=by
 cases x with
 |agg cs=>exact List.all_eq_true.2 fun y hy=>pk h (List.all_eq_true.1 hx y hy)
 |ax cs=>simp[kp,fk] at hx
 |fn f cs=>exact pk (x:= .fn f cs) h hx
 |sl t k es=>exact pk (x:= .sl t k es) h hx
 |mu id k o l c=>exact pk (x:= .mu id k o l c) h hx
 |ptr id i o=>exact pk (x:= .ptr id i o) h hx
 |_=>rfl
theorem nw{n k:Nat}(h:n≤k){l up:List AV}(h1:l.all (kp k)=true)(h2:up.all (kp n)=true):(l++up).all (kp k)=true:=by
 rw[List.all_append,h1,Bool.true_and]
 exact List.all_eq_true.2 fun x hx=>XR h (List.all_eq_true.1 h2 x hx)
theorem u7{no nt:Nat}:∀{l r:List (Option (List AV))},iq no nt l=true→gX no nt (l++r) l
 |[],_,_=>by unfold gX;trivial
 |x::l,r,h=>by
  simp only[iq,List.all_cons,Bool.and_eq_true] at h
  refine⟨.inr ⟨rfl,fun es hes e he z hz=>?_⟩,u7 h.2⟩
  have h1:=h.1
  rw[hes] at h1
  exact List.all_eq_true.1 (List.all_eq_true.1 h1 e he) z hz
theorem aa.cut{E:Env}{c:Code}{Q:Exit→St→Prop}{tmps tmps' up:List AV}{own' rest:List (Option (List AV))}{tk':List Nat}{gl:Nat→Option (List AV)}{n:Nat}(hup:up.all (kp n)=true)(hn:n≤own'.length)(h0:1≤tk'.length)(hb:iq own'.length tk'.length own'=true)(h1:jj own'.length tk'.length tmps tmps')(hk:iN tk' tk')
 (hw:aa E c Q ⟨tmps',own',tk',gl,none,up⟩):aa E c Q ⟨tmps,own'++rest,tk',gl,none,up⟩:=
 aa.weaken (t:=⟨tmps',own',tk',gl,none,up⟩) ⟨h1,u7 hb,hk,rfl,rfl,rfl,List.all_eq_true.2 fun x hx=>sI hn h0 (List.all_eq_true.1 hup x hx)⟩ hw
set_option maxRecDepth 100000 in
theorem KU{ops:Array Oper}{l:List Oper}{Q:Exit→St→Prop}{tmps up:List AV}{gl:Nat→Option (List AV)}{b:Bk}{x:Ex}{m:Nat}{dst:Option Tmp}{x0 x1:Operand}{tys:Array TypeId}{ty:TypeId}{pos:String}{after:Array Edge}
 (hx0:St.ev ⟨tmps,[Z0,some [aX b m],some (aT b m),some [an x],some [an x]],[b.ids.length],gl,none,up⟩ x0= .ptr 1 0 0) (hx1:St.ev ⟨tmps,[Z0,some [aX b m],some (aT b m),some [an x],some [an x]],[b.ids.length],gl,none,up⟩ x1=an x)
 (hx:dh x=true) (htf:∀f∈b.ai,0≤f.time∧f.time≤4611686018427387904) (ho:b.af.length≤1000000) (hf:b.ai.length≤1000000) (hup:(tmps++up).all (kp 5)=true)
 (h:∀(b':Bk) (e:Int) (m':Nat),bK b x=(b',e)→aj E ops l Q (St.put ⟨tmps,[Z0,some [aX b' m'],some (aT b' m'),some [an x],some [an x]],[b'.ids.length],gl,none,up⟩ dst (i64 e))):
 aj E ops (⟨dst,.call ⟨.value (.func 174),#[x0,x1],tys⟩,ty,pos,after,none⟩::l) Q ⟨tmps,[Z0,some [aX b m],some (aT b m),some [an x],some [an x]],[b.ids.length],gl,none,up⟩:=by
 refine aj.call (caps:=[]) (rs:=[.tmp 4]) Tryz.func174 rfl Tryz.ntmps174 rfl (by kernel_rfl) rfl rfl ?_
 show aa E _ _ ⟨([St.ev ⟨tmps,[Z0,some [aX b m],some (aT b m),some [an x],some [an x]],[b.ids.length],gl,none,up⟩ x0,St.ev ⟨tmps,[Z0,some [aX b m],some (aT b m),some [an x],some [an x]],[b.ids.length],gl,none,up⟩ x1]++[])++List.replicate (126-2) (.v undef),[Z0,some [aX b m],some (aT b m),some [an x],some [an x]],[b.ids.length],gl,none,tmps++up⟩
 rw[hx0,hx1]
 have hK:∀(tm:List AV) (ow:List (Option (List AV))) (tk:List Nat) (b':Bk) (e:Int) (m':Nat),bK b x=(b',e)→ow=[Z0,some [aX b' m'],some (aT b' m'),some [an x],some [an x]]→tk=[b'.ids.length]→tm[4]?=some (i64 e)→bG E.P [.tmp 4] ⟨tmps,[Z0,some [aX b m],some (aT b m),some [an x],some [an x]],[b.ids.length],gl,none,up⟩ (fun s z=>aj E ops l Q (s.put dst z)) .ret ⟨tm,ow,tk,gl,none,tmps++up⟩:=by
  intro tm ow tk b' e m' hb' how htk h4
  subst how;subst htk
  refine⟨rfl,?_⟩
  have:St.ev ⟨tm,[Z0,some [aX b' m'],some (aT b' m'),some [an x],some [an x]],[b'.ids.length],gl,none,tmps++up⟩ (.tmp 4)=i64 e:=by simp[St.ev,List.getD_eq_getElem?_getD,h4]
  show aj E ops l Q (St.put _ dst (gI [St.ev _ (.tmp 4)]))
  rw[this]
  exact h b' e m' hb'
 generalize bG E.P [.tmp 4] ⟨tmps,[Z0,some [aX b m],some (aT b m),some [an x],some [an x]],[b.ids.length],gl,none,up⟩ (fun s z=>aj E ops l Q (s.put dst z))=Q' at hK ⊢
 generalize tmps++up=up' at hup hK ⊢
 clear h hx0 hx1
 have hxx:=Rf hx
 have hq:=hxx.1
 have htx:=hxx.2
 refine aa.ab fun K1 hK1=>?_
 refine aa.region ?_
 simp only[go_sem]
 refine hK1 _ ?_;clear hK1 K1
 refine aa.ab fun K2 hK2=>?_
 refine aa.ab fun K3 hK3=>?_
 refine aa.bc [0,1,2,3,4,5,6] [] (by kernel_rfl) (by kernel_rfl) rfl ?_
 simp only[go_sem]
 refine hK3 _ ?_;clear hK3 K3
 refine aa.cond rfl (fun c18=>?_) (fun c18=>?_)
 ·(
  try simp only[dD] at c18
  refine aa.ab fun K4 hK4=>?_
  refine aa.region ?_
  simp only[go_sem]
  refine hK4 _ ?_;clear hK4 K4
  refine aa.dy [0,1,2,3,4] [Z0,some [aX b m],some (aT b m),some [an x],some [an x]] [b.ids.length] 5 (by decide) il hup (Nat.le_refl _) (iy rfl rfl rfl rfl) gZ ⟨rfl,trivial⟩ (Nat.le_refl _) ?_
  refine aa.ret ?_
  try simp only[go_sem]
  clear hK2 K2
  (exact hK _ _ _ b _ m (MN (by assumption)) rfl rfl rfl))
 ·(
  try simp only[dD] at c18
  refine aa.skip ?_
  refine hK2 _ ?_;clear hK2 K2
  refine aa.ab fun K5 hK5=>?_
  refine aa.ab fun K6 hK6=>?_
  refine aa.region ?_
  simp only[go_sem]
  refine hK6 _ ?_;clear hK6 K6
  refine aa.block ?_
  refine aa.ab fun K7 hK7=>?_
  refine aa.region ?_
  simp only[go_sem]
  refine hK7 _ ?_;clear hK7 K7
  refine aa.cond rfl (fun c21=>?_) (fun c21=>?_)
  ·(
   try simp only[dD] at c21
   refine aa.ab fun K8 hK8=>?_
   refine aa.bc [0,1,2,3,4,5,6,7,8,9,10,11,12,13,14,15,16,17,18,19,20,21,22] [] (by kernel_rfl) (by kernel_rfl) rfl ?_
   simp only[go_sem]
   repeat'((refine ah.of (X3 b.af (fY x) (by omega)) (by kernel_rfl) rfl ?_;rintro r t ⟨⟨y,rfl,hy⟩,rfl⟩<;>simp only[go_sem]))
   refine hK8 _ ?_;clear hK8 K8
   refine aa.ab fun K9 hK9=>?_
   refine aa.ab fun K10 hK10=>?_
   refine aa.region ?_
   simp only[go_sem]
   refine hK10 _ ?_;clear hK10 K10
   refine aa.cond rfl (fun c45=>?_) (fun c45=>?_)
   ·(
    try simp only[dD] at c45
    refine aa.ab fun K11 hK11=>?_
    refine aa.region ?_
    simp only[go_sem]
    refine hK11 _ ?_;clear hK11 K11
    refine aa.dy [0,1,2,3,4] [Z0,some [aX b m],some (aT b m),some [an x],some [an x]] [b.ids.length] 5 (by decide) il hup (Nat.le_refl _) (iy rfl rfl rfl rfl) gZ ⟨rfl,trivial⟩ (Nat.le_refl _) ?_
    refine aa.ret ?_
    try simp only[go_sem]
    clear hK9 K9 hK5 K5
    (exact hK _ _ _ b _ m (LU (by assumption) (by assumption) (by omega)) rfl rfl rfl))
   ·(
    try simp only[dD] at c45
    refine aa.skip ?_
    refine hK9 _ ?_;clear hK9 K9
    refine aa.ab fun K12 hK12=>?_
    have hx9:=hy (by omega)
    subst hx9
    refine aa.region ?_
    simp only[go_sem]
    refine hK12 _ ?_;clear hK12 K12
    refine aa.ab fun K13 hK13=>?_
    refine aa.region ?_
    simp only[go_sem]
    refine hK13 _ ?_;clear hK13 K13
    refine aa.dy [0,1,2,3,4] [Z0,some [aX ⟨(cD b.af (fY x)).1,b.ai,b.ids,b.clock,b.bad⟩ m],some (aT ⟨(cD b.af (fY x)).1,b.ai,b.ids,b.clock,b.bad⟩ m),some [an x],some [an x]] [b.ids.length] 5 (by decide) il hup (Nat.le_refl _) (iy rfl rfl rfl rfl) gZ ⟨rfl,trivial⟩ (Nat.le_refl _) ?_
    refine aa.ret ?_
    try simp only[go_sem]
    clear hK5 K5
    (exact hK _ _ _ _ _ m (ME (by assumption) (by assumption) (by omega)) rfl rfl rfl)))
  ·(
   try simp only[dD] at c21
   refine aa.ab fun K14 hK14=>?_
   refine aa.ab fun K15 hK15=>?_
   refine aa.region ?_
   simp only[go_sem]
   refine hK15 _ ?_;clear hK15 K15
   refine aa.cond rfl (fun c50=>?_) (fun c50=>?_)
   ·(
    try simp only[dD] at c50
    refine aa.skip ?_
    refine hK14 _ ?_;clear hK14 K14
    refine aa.cond rfl (fun c50=>?_) (fun c50=>?_)
    ·(
     try simp only[dD] at c50
     refine aa.ab fun K16 hK16=>?_
     refine aa.bq ?_
     refine aj.app (l1:=[_,_]) (l2:=_::_) ?_
     simp only[go_sem]
     refine Ce (b:=b) (x:=x) (m:=m) rfl rfl htx htf ho hf (nw (by decide) rfl hup) ?_
     intro b2 e2 m2 hb2
     refine aj.of ?_
     simp only[go_sem]
     refine hK16 _ ?_;clear hK16 K16
     refine aa.dy [0,1,2,3,4] [Z0,some [aX b2 m2],some (aT b2 m2),some [an x],some [an x]] [b2.ids.length] 5 (by decide) il hup (Nat.le_refl _) (iy rfl rfl rfl rfl) gZ ⟨rfl,trivial⟩ (Nat.le_refl _) ?_
     refine aa.ret ?_
     try simp only[go_sem]
     clear hK5 K5
     (exact hK _ _ _ b2 _ m2 ((AT (by assumption) (by assumption) (.inl (by assumption))).trans hb2) rfl rfl rfl))
    ·((try simp only[dD] at c50);exfalso;omega))
   ·(
    try simp only[dD] at c50
    refine aa.region ?_
    simp only[go_sem]
    refine hK14 _ ?_;clear hK14 K14
    refine aa.cond rfl (fun c50=>?_) (fun c50=>?_)
    ·(
     try simp only[dD] at c50
     refine aa.ab fun K58 hK58=>?_
     refine aa.bq ?_
     refine aj.app (l1:=[_,_]) (l2:=_::_) ?_
     simp only[go_sem]
     refine Ce (b:=b) (x:=x) (m:=m) rfl rfl htx htf ho hf (nw (by decide) rfl hup) ?_
     intro b2 e2 m2 hb2
     refine aj.of ?_
     simp only[go_sem]
     refine hK58 _ ?_;clear hK58 K58
     refine aa.dy [0,1,2,3,4] [Z0,some [aX b2 m2],some (aT b2 m2),some [an x],some [an x]] [b2.ids.length] 5 (by decide) il hup (Nat.le_refl _) (iy rfl rfl rfl rfl) gZ ⟨rfl,trivial⟩ (Nat.le_refl _) ?_
     refine aa.ret ?_
     try simp only[go_sem]
     clear hK5 K5
     (exact hK _ _ _ b2 _ m2 ((AT (by assumption) (by assumption) (.inr (by assumption))).trans hb2) rfl rfl rfl))
    ·(
     try simp only[dD] at c50
     refine aa.skip ?_
     refine hK5 _ ?_;clear hK5 K5
     refine aa.ab fun K59 hK59=>?_
     refine aa.region ?_
     simp only[go_sem]
     refine hK59 _ ?_;clear hK59 K59
     refine aa.ab fun K60 hK60=>?_
     refine aa.ab fun K61 hK61=>?_
     refine aa.region ?_
     simp only[go_sem]
     refine hK61 _ ?_;clear hK61 K61
     refine aa.cond rfl (fun c60=>?_) (fun c60=>?_)
     ·(
      try simp only[dD] at c60
      refine aa.region ?_
      simp only[go_sem]
      refine hK60 _ ?_;clear hK60 K60
      refine aa.ab fun K62 hK62=>?_
      refine aa.region ?_
      simp only[go_sem]
      repeat'((refine ah.one (qz b.af x.ref (by omega)) (by kernel_rfl) rfl ?_;simp only[go_sem]))
      refine hK62 _ ?_;clear hK62 K62
      refine aa.ab fun K63 hK63=>?_
      refine aa.ab fun K64 hK64=>?_
      refine aa.region ?_
      simp only[go_sem]
      repeat'((refine aH.split (fun h=>?_) (fun h=>?_)<;>simp only[h,go_sem]<;>try simp only[dD] at h))
      all_goals(
       refine hK64 _ ?_;clear hK64 K64
       refine aa.cond rfl (fun c78=>?_) (fun c78=>?_)
       ·(
        try simp only[dD] at c78
        refine aa.ab fun K65 hK65=>?_
        refine aa.region ?_
        simp only[go_sem]
        refine hK65 _ ?_;clear hK65 K65
        refine aa.dy [0,1,2,3,4] [Z0,some [aX b m],some (aT b m),some [an x],some [an x]] [b.ids.length] 5 (by decide) il hup (Nat.le_refl _) (iy rfl rfl rfl rfl) gZ ⟨rfl,trivial⟩ (Nat.le_refl _) ?_
        refine aa.ret ?_
        try simp only[go_sem]
        clear hK63 K63
        first
        |exact hK _ _ _ b _ m (rn (by assumption) (by assumption) (by assumption) (by assumption) (id:=x.ref) (if_pos (by assumption)) (.inl (by assumption))) rfl rfl rfl
        |exact hK _ _ _ b _ m (rn (by assumption) (by assumption) (by assumption) (by assumption) (id:=x.ref) (if_pos (by assumption)) (.inr (by assumption))) rfl rfl rfl)
       ·first|exact Bool.noConfusion c78|(
        try simp only[dD] at c78
        refine aa.skip ?_
        refine hK63 _ ?_;clear hK63 K63
        refine aa.ab fun K66 hK66=>?_
        refine aa.ab fun K67 hK67=>?_
        refine aa.region ?_
        simp only[go_sem]
        repeat'((refine aH.split (fun h=>?_) (fun h=>?_)<;>simp only[h,go_sem]<;>try simp only[dD] at h))
        all_goals(
         refine hK67 _ ?_;clear hK67 K67
         refine aa.cond rfl (fun c97=>?_) (fun c97=>?_)
         ·(
          try simp only[dD] at c97
          refine aa.ab fun K68 hK68=>?_
          refine aa.region ?_
          simp only[go_sem]
          refine hK68 _ ?_;clear hK68 K68
          refine aa.dy [0,1,2,3,4] [Z0,some [aX b m],some (aT b m),some [an x],some [an x]] [b.ids.length] 5 (by decide) il hup (Nat.le_refl _) (iy rfl rfl rfl rfl) gZ ⟨rfl,trivial⟩ (Nat.le_refl _) ?_
          refine aa.ret ?_
          try simp only[go_sem]
          clear hK66 K66
          first
          |exact hK _ _ _ b _ m (nX (by assumption) (by assumption) (by assumption) (by assumption) (id:=x.ref) (if_pos (by assumption)) (by assumption) (by assumption) (.inl (by assumption))) rfl rfl rfl
          |exact hK _ _ _ b _ m (nX (by assumption) (by assumption) (by assumption) (by assumption) (id:=x.ref) (if_pos (by assumption)) (by assumption) (by assumption) (.inr (.inl (by assumption)))) rfl rfl rfl
          |exact hK _ _ _ b _ m (nX (by assumption) (by assumption) (by assumption) (by assumption) (id:=x.ref) (if_pos (by assumption)) (by assumption) (by assumption) (.inr (.inr (by assumption)))) rfl rfl rfl)
         ·first|exact Bool.noConfusion c97|(
          try simp only[dD] at c97
          refine aa.skip ?_
          refine hK66 _ ?_;clear hK66 K66
          refine aa.ab fun K69 hK69=>?_
          refine aa.ab fun K70 hK70=>?_
          refine aa.region ?_
          simp only[go_sem]
          refine hK70 _ ?_;clear hK70 K70
          refine aa.block ?_
          refine aa.ab fun K71 hK71=>?_
          refine aa.region ?_
          simp only[go_sem]
          refine hK71 _ ?_;clear hK71 K71
          refine aa.cond rfl (fun c100=>?_) (fun c100=>?_)
          ·((try simp only[dD] at c100);exfalso;omega)
          ·(
           try simp only[dD] at c100
           refine aa.ab fun K73 hK73=>?_
           refine aa.region ?_
           simp only[go_sem]
           refine hK73 _ ?_;clear hK73 K73
           refine aa.cond rfl (fun c105=>?_) (fun c105=>?_)
           ·(
            try simp only[dD] at c105
            refine aa.ab fun K74 hK74=>?_
            refine aa.cut (tmps':=[.ptr 1 0 0,.any,.any,.ptr 5 0 0]++List.replicate 122 .any) (own':=[Z0,some [aX b m],some (aT b m),some [an x],some [an x],some [an x]]) (rest:=[_]) hup (Nat.le_of_ble_eq_true rfl) (Nat.le_refl _) gM (by repeat'(first|exact trivial|exact .inl rfl|exact .inr ⟨rfl,rfl⟩|refine And.intro ?_ ?_)) ⟨rfl,trivial⟩ ?_;simp only[go_sem]
            refine aa.bq ?_
            refine aj.app (l1:=[_,_]) (l2:=_::_) ?_
            simp only[go_sem]
            refine Er (b:=b) (x:=x) (m:=m) rfl rfl  ho hf (nw (by decide) rfl hup) ?_
            intro b2 e2 m2 hb2
            refine aj.of ?_
            simp only[go_sem]
            refine hK74 _ ?_;clear hK74 K74
            refine aa.dy [0,1,2,3,4] [Z0,some [aX b2 m2],some (aT b2 m2),some [an x],some [an x]] [b2.ids.length] 5 (by decide) il hup (Nat.le_refl _) (iy rfl rfl rfl rfl) gZ ⟨rfl,trivial⟩ (Nat.le_refl _) ?_
            refine aa.ret ?_
            try simp only[go_sem]
            clear hK69 K69
            (exact hK _ _ _ b2 _ m2 ((R4 (by assumption) (by assumption) (by assumption) (by assumption) (id:=x.ref) (if_pos (by assumption)) (by assumption) (by assumption) (by assumption) (by assumption) (by assumption) (by assumption) (by assumption)).trans hb2) rfl rfl rfl))
           ·((try simp only[dD] at c105);exfalso;omega)))))))
     ·(
      try simp only[dD] at c60
      refine aa.skip ?_
      refine hK60 _ ?_;clear hK60 K60
      refine aa.ab fun K81 hK81=>?_
      refine aa.region ?_
      simp only[go_sem]
      repeat'((refine ah.one (qz b.af x.ord (by omega)) (by kernel_rfl) rfl ?_;simp only[go_sem]))
      refine hK81 _ ?_;clear hK81 K81
      refine aa.ab fun K82 hK82=>?_
      refine aa.ab fun K83 hK83=>?_
      refine aa.region ?_
      simp only[go_sem]
      repeat'((refine aH.split (fun h=>?_) (fun h=>?_)<;>simp only[h,go_sem]<;>try simp only[dD] at h))
      all_goals(
       refine hK83 _ ?_;clear hK83 K83
       refine aa.cond rfl (fun c78=>?_) (fun c78=>?_)
       ·(
        try simp only[dD] at c78
        refine aa.ab fun K84 hK84=>?_
        refine aa.region ?_
        simp only[go_sem]
        refine hK84 _ ?_;clear hK84 K84
        refine aa.dy [0,1,2,3,4] [Z0,some [aX b m],some (aT b m),some [an x],some [an x]] [b.ids.length] 5 (by decide) il hup (Nat.le_refl _) (iy rfl rfl rfl rfl) gZ ⟨rfl,trivial⟩ (Nat.le_refl _) ?_
        refine aa.ret ?_
        try simp only[go_sem]
        clear hK82 K82
        first
        |exact hK _ _ _ b _ m (rn (by assumption) (by assumption) (by assumption) (by assumption) (id:=x.ord) (if_neg (by assumption)) (.inl (by assumption))) rfl rfl rfl
        |exact hK _ _ _ b _ m (rn (by assumption) (by assumption) (by assumption) (by assumption) (id:=x.ord) (if_neg (by assumption)) (.inr (by assumption))) rfl rfl rfl)
       ·first|exact Bool.noConfusion c78|(
        try simp only[dD] at c78
        refine aa.skip ?_
        refine hK82 _ ?_;clear hK82 K82
        refine aa.ab fun K85 hK85=>?_
        refine aa.ab fun K86 hK86=>?_
        refine aa.region ?_
        simp only[go_sem]
        repeat'((refine aH.split (fun h=>?_) (fun h=>?_)<;>simp only[h,go_sem]<;>try simp only[dD] at h))
        all_goals(
         refine hK86 _ ?_;clear hK86 K86
         refine aa.cond rfl (fun c97=>?_) (fun c97=>?_)
         ·(
          try simp only[dD] at c97
          refine aa.ab fun K87 hK87=>?_
          refine aa.region ?_
          simp only[go_sem]
          refine hK87 _ ?_;clear hK87 K87
          refine aa.dy [0,1,2,3,4] [Z0,some [aX b m],some (aT b m),some [an x],some [an x]] [b.ids.length] 5 (by decide) il hup (Nat.le_refl _) (iy rfl rfl rfl rfl) gZ ⟨rfl,trivial⟩ (Nat.le_refl _) ?_
          refine aa.ret ?_
          try simp only[go_sem]
          clear hK85 K85
          first
          |exact hK _ _ _ b _ m (nX (by assumption) (by assumption) (by assumption) (by assumption) (id:=x.ord) (if_neg (by assumption)) (by assumption) (by assumption) (.inl (by assumption))) rfl rfl rfl
          |exact hK _ _ _ b _ m (nX (by assumption) (by assumption) (by assumption) (by assumption) (id:=x.ord) (if_neg (by assumption)) (by assumption) (by assumption) (.inr (.inl (by assumption)))) rfl rfl rfl
          |exact hK _ _ _ b _ m (nX (by assumption) (by assumption) (by assumption) (by assumption) (id:=x.ord) (if_neg (by assumption)) (by assumption) (by assumption) (.inr (.inr (by assumption)))) rfl rfl rfl)
         ·first|exact Bool.noConfusion c97|(
          try simp only[dD] at c97
          refine aa.skip ?_
          refine hK85 _ ?_;clear hK85 K85
          refine aa.ab fun K88 hK88=>?_
          refine aa.ab fun K89 hK89=>?_
          refine aa.region ?_
          simp only[go_sem]
          refine hK89 _ ?_;clear hK89 K89
          refine aa.block ?_
          refine aa.ab fun K90 hK90=>?_
          refine aa.region ?_
          simp only[go_sem]
          refine hK90 _ ?_;clear hK90 K90
          refine aa.cond rfl (fun c100=>?_) (fun c100=>?_)
          ·(
           try simp only[dD] at c100
           refine aa.ab fun K91 hK91=>?_
           refine aa.cut (tmps':=[.ptr 1 0 0,.any,.any,.ptr 5 0 0]++List.replicate 122 .any) (own':=[Z0,some [aX b m],some (aT b m),some [an x],some [an x],some [an x]]) (rest:=[_]) hup (Nat.le_of_ble_eq_true rfl) (Nat.le_refl _) gM (by repeat'(first|exact trivial|exact .inl rfl|exact .inr ⟨rfl,rfl⟩|refine And.intro ?_ ?_)) ⟨rfl,trivial⟩ ?_;simp only[go_sem]
           refine aa.bq ?_
           refine aj.app (l1:=[_,_]) (l2:=_::_) ?_
           simp only[go_sem]
           refine Ww (b:=b) (x:=x) (m:=m) rfl rfl hq ho hf (nw (by decide) rfl hup) ?_
           intro b2 e2 m2 hb2
           refine aj.of ?_
           simp only[go_sem]
           refine hK91 _ ?_;clear hK91 K91
           refine aa.dy [0,1,2,3,4] [Z0,some [aX b2 m2],some (aT b2 m2),some [an x],some [an x]] [b2.ids.length] 5 (by decide) il hup (Nat.le_refl _) (iy rfl rfl rfl rfl) gZ ⟨rfl,trivial⟩ (Nat.le_refl _) ?_
           refine aa.ret ?_
           try simp only[go_sem]
           clear hK88 K88
           (exact hK _ _ _ b2 _ m2 ((M5 (by assumption) (by assumption) (by assumption) (by assumption) (id:=x.ord) (if_neg (by assumption)) (by assumption) (by assumption) (by assumption) (by assumption) (by assumption) (by assumption)).trans hb2) rfl rfl rfl))
          ·(
           try simp only[dD] at c100
           refine aa.ab fun K92 hK92=>?_
           refine aa.region ?_
           simp only[go_sem]
           refine hK92 _ ?_;clear hK92 K92
           refine aa.cond rfl (fun c105=>?_) (fun c105=>?_)
           ·((try simp only[dD] at c105);exfalso;omega)
           ·(
            try simp only[dD] at c105
            refine aa.skip ?_
            refine hK88 _ ?_;clear hK88 K88
            refine aa.ab fun K94 hK94=>?_
            refine aa.bc [0,1,2,3,4,5,6,7,8,9,10,11] [] (by kernel_rfl) (by kernel_rfl) rfl ?_
            simp only[go_sem]
            repeat'((refine ah.of (FY b.af x.ord (by omega)) (by kernel_rfl) rfl ?_;rintro r t ⟨⟨y,rfl,hy⟩,rfl⟩<;>simp only[go_sem]))
            refine hK94 _ ?_;clear hK94 K94
            refine aa.ab fun K95 hK95=>?_
            refine aa.ab fun K96 hK96=>?_
            refine aa.region ?_
            simp only[go_sem]
            refine hK96 _ ?_;clear hK96 K96
            refine aa.cond rfl (fun c121=>?_) (fun c121=>?_)
            ·(
             try simp only[dD] at c121
             refine aa.ab fun K97 hK97=>?_
             refine aa.region ?_
             simp only[go_sem]
             refine hK97 _ ?_;clear hK97 K97
             refine aa.dy [0,1,2,3,4] [Z0,some [aX b m],some (aT b m),some [an x],some [an x]] [b.ids.length] 5 (by decide) il hup (Nat.le_refl _) (iy rfl rfl rfl rfl) gZ ⟨rfl,trivial⟩ (Nat.le_refl _) ?_
             refine aa.ret ?_
             try simp only[go_sem]
             clear hK95 K95
             (exact hK _ _ _ b _ m (IT (by assumption) (by assumption) (by assumption) (by assumption) (id:=x.ord) (if_neg (by assumption)) (by assumption) (by assumption) (by assumption) (by assumption) (by assumption) (by assumption) (by assumption) (by omega)) rfl rfl rfl))
            ·(
             try simp only[dD] at c121
             refine aa.skip ?_
             refine hK95 _ ?_;clear hK95 K95
             refine aa.ab fun K98 hK98=>?_
             have hx9:=hy (by omega)
             subst hx9
             refine aa.region ?_
             simp only[go_sem]
             refine hK98 _ ?_;clear hK98 K98
             refine aa.ab fun K99 hK99=>?_
             refine aa.region ?_
             simp only[go_sem]
             refine hK99 _ ?_;clear hK99 K99
             refine aa.dy [0,1,2,3,4] [Z0,some [aX ⟨(dj b.af x.ord).1,b.ai,b.ids,b.clock,b.bad⟩ m],some (aT ⟨(dj b.af x.ord).1,b.ai,b.ids,b.clock,b.bad⟩ m),some [an x],some [an x]] [b.ids.length] 5 (by decide) il hup (Nat.le_refl _) (iy rfl rfl rfl rfl) gZ ⟨rfl,trivial⟩ (Nat.le_refl _) ?_
             refine aa.ret ?_
             try simp only[go_sem]
             (exact hK _ _ _ _ _ m (VJ (by assumption) (by assumption) (by assumption) (by assumption) (id:=x.ord) (if_neg (by assumption)) (by assumption) (by assumption) (by assumption) (by assumption) (by assumption) (by assumption) (by assumption) (by omega)) rfl rfl rfl)))))))))))))
theorem Aa{b:Bk}{x:Ex}(h:b.bad≠0∨256≤b.ids.length):bM b x=(b,4):=by unfold bM;rw[if_pos h]
theorem Mo{b:Bk}{x:Ex}(h0:b.bad=0)(h1:¬256≤b.ids.length)(h:kF b.ids x.id=true):bM b x=(b,2):=by unfold bM;rw[if_neg (by simp[h0];omega),if_pos h]
theorem WK{b b2:Bk}{x:Ex}{e:Int}(h0:b.bad=0)(h1:¬256≤b.ids.length)(h:kF b.ids x.id=false)(hb:bK ⟨b.af,b.ai,b.ids++[x.id],b.clock,b.bad⟩ x=(b2,e))(he:¬e=0):bM b x=(⟨b2.af,b2.ai,b2.ids,b2.clock,e⟩,3):=by
 unfold bM;rw[if_neg (by simp[h0];omega),if_neg (by simp[h])]
 have hb':bK { b with ids:=b.ids++[x.id] } x=(b2,e):=hb
 simp only[hb']
 rw[if_pos he]
theorem PX{b b2:Bk}{x:Ex}{e:Int}(h0:b.bad=0)(h1:¬256≤b.ids.length)(h:kF b.ids x.id=false)(hb:bK ⟨b.af,b.ai,b.ids++[x.id],b.clock,b.bad⟩ x=(b2,e))(he:e=0):bM b x=(⟨b2.af,b2.ai,b2.ids,x.time,b2.bad⟩,1):=by
 unfold bM;rw[if_neg (by simp[h0];omega),if_neg (by simp[h])]
 have hb':bK { b with ids:=b.ids++[x.id] } x=(b2,e):=hb
 simp only[hb']
 rw[if_neg (by simp[he])]
theorem qH:∀i,i≠2→i<4→ch [0,1,2,3] i=some i:=by
 intro i h1 h2
 have:i=0∨i=1∨i=3:=by omega
 rcases this with rfl|rfl|rfl<;>rfl
theorem rl{os ids y1 y2:AV}{k c m:Nat}{l:List Dn}{x:Ex}{rest:List (Option (List AV))}(h0:os.bV (ch [0,1,2,3])=os)(hi:ids.bV (ch [0,1,2,3])=ids)(h1:y1.bV (ch [0,1,2,3])=y1)(h2:y2.bV (ch [0,1,2,3])=y2):
 iP (Z0::some [.agg [os,.mu 2 9 0 k c,ids,y1,y2]]::some (l.map bQ++spare 9 m)::some [an x]::rest) [0,1,2,3]=[Z0,some [.agg [os,.mu 2 9 0 k c,ids,y1,y2]],some (l.map bQ++spare 9 m),some [an x]]:=by
 show[Z0,some [.agg [os.bV _,.mu 2 9 0 k c,ids.bV _,y1.bV _,y2.bV _]],some ((l.map bQ++spare 9 m).map _),some [an x]]=_
 rw[nm,h0,hi,h1,h2]
theorem FL(l:List Bs)(s:Bs):l.map str++[str s]=(l++[s]).map str:=by simp
theorem aa.XT{E:Env}{c:Code}{Q:Exit→St→Prop}{tmps tmps' up:List AV}{own' rest:List (Option (List AV))}{tk tk':List Nat}{gl:Nat→Option (List AV)}{n:Nat}(hup:up.all (kp n)=true)(hn:n≤own'.length)(h0:1≤tk'.length)(hb:iq own'.length tk'.length own'=true)(h1:jj own'.length tk'.length tmps tmps')(hk:iN tk tk')
 (hw:aa E c Q ⟨tmps',own',tk',gl,none,up⟩):aa E c Q ⟨tmps,own'++rest,tk,gl,none,up⟩:=
 aa.weaken (t:=⟨tmps',own',tk',gl,none,up⟩) ⟨h1,u7 hb,hk,rfl,rfl,rfl,List.all_eq_true.2 fun x hx=>sI hn h0 (List.all_eq_true.1 hup x hx)⟩ hw
set_option maxRecDepth 100000 in
theorem GV{ops:Array Oper}{l:List Oper}{Q:Exit→St→Prop}{tmps up:List AV}{gl:Nat→Option (List AV)}{b:Bk}{x:Ex}{m:Nat}{dst:Option Tmp}{x0 x1:Operand}{tys:Array TypeId}{ty:TypeId}{pos:String}{after:Array Edge}
 (hx0:St.ev ⟨tmps,[Z0,some [aX b m],some (aT b m),some [an x]],[b.ids.length],gl,none,up⟩ x0= .ptr 1 0 0) (hx1:St.ev ⟨tmps,[Z0,some [aX b m],some (aT b m),some [an x]],[b.ids.length],gl,none,up⟩ x1=an x)
 (hx:dh x=true) (htf:∀f∈b.ai,0≤f.time∧f.time≤4611686018427387904) (hi:b.ids.length≤1000000) (ho:b.af.length≤1000000) (hf:b.ai.length≤1000000) (hup:(tmps++up).all (kp 4)=true)
 (h:∀(b':Bk) (e:Int) (m':Nat),bM b x=(b',e)→aj E ops l Q (St.put ⟨tmps,[Z0,some [aX b' m'],some (aT b' m'),some [an x]],[b'.ids.length],gl,none,up⟩ dst (i64 e))):
 aj E ops (⟨dst,.call ⟨.value (.func 108),#[x0,x1],tys⟩,ty,pos,after,none⟩::l) Q ⟨tmps,[Z0,some [aX b m],some (aT b m),some [an x]],[b.ids.length],gl,none,up⟩:=by
 refine aj.call (caps:=[]) (rs:=[.tmp 4]) Tryz.func108 rfl Tryz.ntmps108 rfl (by kernel_rfl) rfl rfl ?_
 show aa E _ _ ⟨([St.ev ⟨tmps,[Z0,some [aX b m],some (aT b m),some [an x]],[b.ids.length],gl,none,up⟩ x0,St.ev ⟨tmps,[Z0,some [aX b m],some (aT b m),some [an x]],[b.ids.length],gl,none,up⟩ x1]++[])++List.replicate (51-2) (.v undef),[Z0,some [aX b m],some (aT b m),some [an x]],[b.ids.length],gl,none,tmps++up⟩
 rw[hx0,hx1]
 have hK:∀(tm:List AV) (ow:List (Option (List AV))) (tk:List Nat) (b':Bk) (e:Int) (m':Nat),bM b x=(b',e)→ow=[Z0,some [aX b' m'],some (aT b' m'),some [an x]]→tk=[b'.ids.length]→tm[4]?=some (i64 e)→bG E.P [.tmp 4] ⟨tmps,[Z0,some [aX b m],some (aT b m),some [an x]],[b.ids.length],gl,none,up⟩ (fun s z=>aj E ops l Q (s.put dst z)) .ret ⟨tm,ow,tk,gl,none,tmps++up⟩:=by
  intro tm ow tk b' e m' hb' how htk h4
  subst how;subst htk
  refine⟨rfl,?_⟩
  have:St.ev ⟨tm,[Z0,some [aX b' m'],some (aT b' m'),some [an x]],[b'.ids.length],gl,none,tmps++up⟩ (.tmp 4)=i64 e:=by simp[St.ev,List.getD_eq_getElem?_getD,h4]
  show aj E ops l Q (St.put _ dst (gI [St.ev _ (.tmp 4)]))
  rw[this]
  exact h b' e m' hb'
 generalize bG E.P [.tmp 4] ⟨tmps,[Z0,some [aX b m],some (aT b m),some [an x]],[b.ids.length],gl,none,up⟩ (fun s z=>aj E ops l Q (s.put dst z))=Q' at hK ⊢
 generalize tmps++up=up' at hup hK ⊢
 clear h hx0 hx1
 refine aa.ab fun K1 hK1=>?_
 refine aa.region ?_
 simp only[go_sem]
 refine hK1 _ ?_;clear hK1 K1
 refine aa.ab fun K2 hK2=>?_
 refine aa.ab fun K3 hK3=>?_
 refine aa.region ?_
 simp only[go_sem]
 repeat'(first|(refine aH.split (fun h=>?_) (fun h=>?_)<;>simp only[h,go_sem]<;>try simp only[dD] at h)|((with_reducible refine And.intro ?_ ?_);(focus(((simp;done))));(try simp only[hb,go_sem])))
 all_goals(
  refine hK3 _ ?_;clear hK3 K3
  refine aa.cond rfl (fun c18=>?_) (fun c18=>?_)
  ·(
    try simp only[dD] at c18
    refine aa.ab fun K4 hK4=>?_
    refine aa.region ?_
    simp only[go_sem]
    refine hK4 _ ?_;clear hK4 K4
    refine aa.dy [0,1,2,3] [Z0,some [aX b m],some (aT b m),some [an x]] [b.ids.length] 4 (by decide) qH hup (Nat.le_refl _) (rl rfl rfl rfl rfl) oK ⟨rfl,trivial⟩ (Nat.le_refl _) ?_
    refine aa.ret ?_
    try simp only[go_sem]
    clear hK2 K2
    first
    |exact hK _ _ _ b _ m (Aa (.inl (by assumption))) rfl rfl rfl
    |exact hK _ _ _ b _ m (Aa (.inr (by omega))) rfl rfl rfl)
  ·first|exact Bool.noConfusion c18|(
    try simp only[dD] at c18
    refine aa.skip ?_
    refine hK2 _ ?_;clear hK2 K2
    refine aa.ab fun K5 hK5=>?_
    refine aa.ab fun K6 hK6=>?_
    refine aa.bc [0,1,2,3,4,5,6] [] (by kernel_rfl) (by kernel_rfl) rfl ?_
    simp only[go_sem]
    repeat'((refine ah.one (QQ b.ids x.id (by omega)) (by kernel_rfl) rfl ?_;simp only[go_sem]))
    refine hK6 _ ?_;clear hK6 K6
    refine aa.cond rfl (fun c25=>?_) (fun c25=>?_)
    ·(
      try simp only[dD] at c25
      refine aa.ab fun K7 hK7=>?_
      refine aa.region ?_
      simp only[go_sem]
      refine hK7 _ ?_;clear hK7 K7
      refine aa.dy [0,1,2,3] [Z0,some [aX b m],some (aT b m),some [an x]] [b.ids.length] 4 (by decide) qH hup (Nat.le_refl _) (rl rfl rfl rfl rfl) oK ⟨rfl,trivial⟩ (Nat.le_refl _) ?_
      refine aa.ret ?_
      try simp only[go_sem]
      clear hK5 K5
      (exact hK _ _ _ b _ m (Mo (by omega) (by omega) (by assumption)) rfl rfl rfl))
    ·(
      try simp only[dD] at c25
      refine aa.skip ?_
      refine hK5 _ ?_;clear hK5 K5
      refine aa.ab fun K8 hK8=>?_
      refine aa.bc [0,1,2,3,4,5,6,7,8,9,10,11] [] (by kernel_rfl) (by kernel_rfl) rfl ?_
      simp only[go_sem]
      repeat'(((with_reducible refine And.intro ?_ ?_);(focus((omega)));(try simp only[hb,go_sem])))
      refine hK8 _ ?_;clear hK8 K8
      refine aa.ab fun K9 hK9=>?_
      refine aa.ab fun K10 hK10=>?_
      rw[FL b.ids x.id]
      refine aa.XT (tmps':=[.ptr 1 0 0,.any,.any,.ptr 4 0 0,.any,.any,.any,.any,.any,.any,.any,.any,.any,.any,.any,.any,.any,.any,.any,.any,.any,.any,.any,.any,.any,.any,.any,.any,.any,.any,.any,.any,.any,.any,.any,.any,.any,.any,.any,.any,.any,.any,.any,.any,.any,.any,.any,.any,.any,.any,.any]) (own':=[Z0,some [aX ⟨b.af,b.ai,b.ids++[x.id],b.clock,b.bad⟩ m],some (aT ⟨b.af,b.ai,b.ids++[x.id],b.clock,b.bad⟩ m),some [an x],some [an x]]) (rest:=[]) (tk':=[(b.ids++[x.id]).length]) hup (Nat.le_of_ble_eq_true rfl) (Nat.le_refl _) gZ ⟨.inr ⟨rfl,rfl⟩,.inl rfl,.inl rfl,.inr ⟨rfl,rfl⟩,.inl rfl,.inl rfl,.inl rfl,.inl rfl,.inl rfl,.inl rfl,.inl rfl,.inl rfl,.inl rfl,.inl rfl,.inl rfl,.inl rfl,.inl rfl,.inl rfl,.inl rfl,.inl rfl,.inl rfl,.inl rfl,.inl rfl,.inl rfl,.inl rfl,.inl rfl,.inl rfl,.inl rfl,.inl rfl,.inl rfl,.inl rfl,.inl rfl,.inl rfl,.inl rfl,.inl rfl,.inl rfl,.inl rfl,.inl rfl,.inl rfl,.inl rfl,.inl rfl,.inl rfl,.inl rfl,.inl rfl,.inl rfl,.inl rfl,.inl rfl,.inl rfl,.inl rfl,.inl rfl,.inl rfl,trivial⟩ ⟨by simp,trivial⟩ ?_
      refine aa.bq ?_
      refine aj.app (l1:=[_,_]) (l2:=_::_) ?_
      simp only[go_sem]
      rw[show b.ids.length+1=(b.ids++[x.id]).length by simp]
      refine KU (b:=⟨b.af,b.ai,b.ids++[x.id],b.clock,b.bad⟩) (x:=x) (m:=m) rfl rfl hx htf ho hf (nw (by decide) rfl hup) ?_
      intro b2 e2 m2 hb2
      refine aj.of ?_
      simp only[go_sem]
      refine hK10 _ ?_;clear hK10 K10
      refine aa.ab fun K11 hK11=>?_
      refine aa.region ?_
      simp only[go_sem]
      refine hK11 _ ?_;clear hK11 K11
      refine aa.cond rfl (fun c41=>?_) (fun c41=>?_)
      ·(
        try simp only[dD] at c41
        refine aa.ab fun K12 hK12=>?_
        refine aa.region ?_
        simp only[go_sem]
        refine hK12 _ ?_;clear hK12 K12
        refine aa.ab fun K13 hK13=>?_
        refine aa.region ?_
        simp only[go_sem]
        refine hK13 _ ?_;clear hK13 K13
        refine aa.dy [0,1,2,3] [Z0,some [aX ⟨b2.af,b2.ai,b2.ids,b2.clock,e2⟩ m2],some (aT ⟨b2.af,b2.ai,b2.ids,b2.clock,e2⟩ m2),some [an x]] [b2.ids.length] 4 (by decide) qH hup (Nat.le_refl _) (rl rfl rfl rfl rfl) oK ⟨rfl,trivial⟩ (Nat.le_refl _) ?_
        refine aa.ret ?_
        try simp only[go_sem]
        clear hK9 K9
        (exact hK _ _ _ _ _ m2 (WK (by omega) (by omega) (by assumption) hb2 (by assumption)) rfl rfl rfl))
      ·(
        try simp only[dD] at c41
        refine aa.skip ?_
        refine hK9 _ ?_;clear hK9 K9
        refine aa.ab fun K14 hK14=>?_
        refine aa.region ?_
        simp only[go_sem]
        refine hK14 _ ?_;clear hK14 K14
        refine aa.ab fun K15 hK15=>?_
        refine aa.region ?_
        simp only[go_sem]
        refine hK15 _ ?_;clear hK15 K15
        refine aa.dy [0,1,2,3] [Z0,some [aX ⟨b2.af,b2.ai,b2.ids,x.time,b2.bad⟩ m2],some (aT ⟨b2.af,b2.ai,b2.ids,x.time,b2.bad⟩ m2),some [an x]] [b2.ids.length] 4 (by decide) qH hup (Nat.le_refl _) (rl rfl rfl rfl rfl) oK ⟨rfl,trivial⟩ (Nat.le_refl _) ?_
        refine aa.ret ?_
        try simp only[go_sem]
        (exact hK _ _ _ _ _ m2 (PX (by omega) (by omega) (by assumption) hb2 (by omega)) rfl rfl rfl)))))
theorem XX(x:Ex):ae E 107 [an x] (fun r t=>r=bl (dh x)∧t=[]):=by
 refine ae.av (n:=57) (rs:=[.tmp 2]) Tryz.func107 rfl Tryz.ntmps107 rfl ?_
 repeat'(first
 |refine aa.ab fun K hK=>?_
 |(refine aa.region ?_;simp only[go_sem])
 |(refine hK _ ?_;clear hK K)
 |refine aa.block ?_
 |refine aa.cond rfl (fun c=>?_) (fun c=>?_)<;>first|exact Bool.noConfusion c|(try simp only[dD] at c)
 |refine aa.skip ?_
 |(refine ah.one (SY _) (by kernel_rfl) rfl ?_;simp only[go_sem])
 |(refine ah.one (FU _) (by kernel_rfl) rfl ?_;simp only[go_sem])
 |(refine ah.one (W6 _) (by kernel_rfl) rfl ?_;simp only[go_sem])
 |(refine aH.split (fun h=>?_) (fun h=>?_)<;>simp only[h,go_sem]<;>(try simp only[dD] at h))
 |(
  refine aa.ret ?_
  refine az.is ?_;simp only[go_sem,aB,aE,aF,aA,aC,aD]<;>(simp_all[dh])))
end Go.Proofs.YtajeeghgiilhiaaGreat
end
