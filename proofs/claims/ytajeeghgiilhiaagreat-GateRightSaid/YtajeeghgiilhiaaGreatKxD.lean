/- Texts of one chain, put together (Lc). -/
import Derived.Test.YtajeeghgiilhiaaGreatKxC
import Derived.ProofKit
import Derived.Lib.UnsafeStr
import Derived.Test.YtajeeghgiilhiaaGreatKxA
set_option linter.unusedVariables false
set_option linter.unusedSimpArgs false
set_option maxHeartbeats 16000000
set_option maxRecDepth 8000
section
namespace Go.Abs
open Go Go.RowKit
def aL(q:Option Bool)(E:Env)(ops:Array Oper)(o:Oper)(l:List Oper)(st:St)(K:St→Prop):Prop:=
 ∃b,q=some b∧(b=true→ee E o st fun s=>cI E ops l s K)∧(b=false→cI E ops l (st.put o.dst (.v undef)) K)
def cY(F:(AV→Prop)→Prop)(E:Env)(ops:Array Oper)(d:Option Tmp)(l:List Oper)(st:St)(K:St→Prop):Prop:=F fun y=>cI E ops l (st.put d y) K
def eU(F:(St→AV→Prop)→Prop)(E:Env)(ops:Array Oper)(d:Option Tmp)(l:List Oper)(K:St→Prop):Prop:=F fun s y=>cI E ops l (s.put d y) K
def ga(F:(St→Prop)→Prop)(E:Env)(ops:Array Oper)(d:Option Tmp)(l:List Oper)(K:St→Prop):Prop:=F fun s=>cI E ops l (s.put d (.v undef)) K
def ah(E:Env)(ops:Array Oper)(f:AV)(xs:List AV)(d:Option Tmp)(l:List Oper)(st:St)(K:St→Prop):Prop:=oX E st f xs fun s y=>cI E ops l (s.put d y) K
def dF(E:Env)(ops:Array Oper)(o:Oper)(l:List Oper)(st:St)(K:St→Prop):Prop:=ee E o st fun s=>cI E ops l s K
def tK(u:Option TypeDesc)(E:Env)(ops:Array Oper)(o:Oper)(s d:TypeId)(x:Operand)(l:List Oper)(st:St)(K:St→Prop):Prop:=
 match u with
 |some (.slice _)=>eU (fun k=>sO E.P s d (st.ev x) st k) E ops o.dst l K
 |_=>cY (fun k=>nR E.P s d (st.ev x) k) E ops o.dst l st K
@[congr] theorem cY.congr{F G:(AV→Prop)→Prop}{E:Env}{ops:Array Oper}{d:Option Tmp}{l:List Oper}{st:St}{K:St→Prop}(h:∀k,F k=G k):cY F E ops d l st K=cY G E ops d l st K:=by rw[funext h]
@[congr] theorem eU.congr{F G:(St→AV→Prop)→Prop}{E:Env}{ops:Array Oper}{d:Option Tmp}{l:List Oper}{K:St→Prop}(h:∀k,F k=G k):eU F E ops d l K=eU G E ops d l K:=by rw[funext h]
@[congr] theorem ga.congr{F G:(St→Prop)→Prop}{E:Env}{ops:Array Oper}{d:Option Tmp}{l:List Oper}{K:St→Prop}(h:∀k,F k=G k):ga F E ops d l K=ga G E ops d l K:=by rw[funext h]
section
variable{E:Env}{ops:Array Oper}{o:Oper}{d:Option Tmp}{l:List Oper}{st:St}{K:St→Prop}
@[go_sem] theorem ZG:cI E ops [] st K=K st:=rfl
@[go_sem] theorem ZU:cI E ops (o::l) st K=aL (eF ops o st) E ops o l st K:=rfl
@[go_sem] theorem aL.yes:aL (some true) E ops o l st K=dF E ops o l st K:=by simp[aL,dF]
@[go_sem] theorem aL.no:aL (some false) E ops o l st K=cI E ops l (st.put o.dst (.v undef)) K:=by simp[aL]
theorem aL.split{b:Bool}(h1:b=true→dF E ops o l st K)(h2:b=false→cI E ops l (st.put o.dst (.v undef)) K):aL (some b) E ops o l st K:=⟨b,rfl,h1,h2⟩
theorem aL.cc{b:Bool}(h1:b=true→cI E ops l (st.put o.dst (.v undef)) K)(h2:b=false→dF E ops o l st K):aL (some (!b)) E ops o l st K:=⟨!b,rfl,fun h=>h2 (by simpa using h),fun h=>h1 (by simpa using h)⟩
@[go_sem] theorem cY.at{x:AV}:cY (fun k=>k x) E ops d l st K=cI E ops l (st.put d x) K:=rfl
@[go_sem] theorem cY.and{p:Prop}{F:(AV→Prop)→Prop}:cY (fun k=>p∧F k) E ops d l st K=(p∧cY F E ops d l st K):=rfl
@[go_sem] theorem cY.ex{α:Type}{F:α→(AV→Prop)→Prop}:cY (fun k=>∃x,F x k) E ops d l st K=(∃x,cY (F x) E ops d l st K):=rfl
@[go_sem] theorem cY.all{p:Bool→Prop}{g:Bool→AV}:cY (fun k=>∀b,p b→k (g b)) E ops d l st K=(∀b,p b→cI E ops l (st.put d (g b)) K):=rfl
@[go_sem] theorem cY.none:cY (fun _=>False) E ops d l st K=False:=rfl
@[go_sem] theorem eU.at{s:St}{x:AV}:eU (fun k=>k s x) E ops d l K=cI E ops l (s.put d x) K:=rfl
@[go_sem] theorem eU.and{p:Prop}{F:(St→AV→Prop)→Prop}:eU (fun k=>p∧F k) E ops d l K=(p∧eU F E ops d l K):=rfl
@[go_sem] theorem eU.ex{α:Type}{F:α→(St→AV→Prop)→Prop}:eU (fun k=>∃x,F x k) E ops d l K=(∃x,eU (F x) E ops d l K):=rfl
@[go_sem] theorem eU.none:eU (fun _=>False) E ops d l K=False:=rfl
@[go_sem] theorem ga.at{s:St}:ga (fun k=>k s) E ops d l K=cI E ops l (s.put d (.v undef)) K:=rfl
@[go_sem] theorem ga.and{p:Prop}{F:(St→Prop)→Prop}:ga (fun k=>p∧F k) E ops d l K=(p∧ga F E ops d l K):=rfl
@[go_sem] theorem ga.ex{α:Type}{F:α→(St→Prop)→Prop}:ga (fun k=>∃x,F x k) E ops d l K=(∃x,ga (F x) E ops d l K):=rfl
@[go_sem] theorem ga.none:ga (fun _=>False) E ops d l K=False:=rfl
theorem ah.of{g:FuncId}{caps xs ys:List AV}{R:AV→List Nat→Prop}(hc:ai E g ys R)(hb:au E.P g=true)(hy:lX (xs++caps)=some ys)
 (h:∀r t,R r t→cI E ops l (St.put { st with tk:=st.tk++t } d (r.shift st.tk.length)) K):ah E ops (.fn g caps) xs d l st K:=⟨hb,.inl ⟨ys,hy,R,hc,h⟩⟩
theorem ah.snap{g:FuncId}{caps xs ys:List AV}{R:AV→List Nat→Prop}(hc:ai E g ys R)(hb:au E.P g=true)(hr:st.bZ=none)(hy:iE (iT st.own) (xs++caps) ys)
 (h:∀r t,R r t→kr t r∧cI E ops l (St.put { st with tk:=st.tk++t } d (r.shift st.tk.length)) K):ah E ops (.fn g caps) xs d l st K:=⟨hb,.inr ⟨hr,ys,hy,R,hc,.inl h⟩⟩
theorem ah.take{g:FuncId}{caps xs ys:List AV}{R:AV→List Nat→Prop}(hc:ai E g ys R)(hb:au E.P g=true)(hr:st.bZ=none)(hy:iE (iT st.own) (xs++caps) ys)
 (h:∀r tks,R r tks→∃t k es,r= .sl (some t) k es∧tks[t]?=some es.length∧(∀e∈es,e.leaves.length=k∧∀y∈e.leaves,∃z,y= .v z)∧
   ∀m,cI E ops l (St.put { st with own:=st.own++[some (es++spare k m)] } d (.mu st.own.length k 0 es.length (es.length+m))) K):ah E ops (.fn g caps) xs d l st K:=⟨hb,.inr ⟨hr,ys,hy,R,hc,.inr h⟩⟩
theorem ah.one{g:FuncId}{caps xs ys:List AV}{x:AV}(hc:ai E g ys fun r t=>r=x∧t=[])(hb:au E.P g=true)(hy:lX (xs++caps)=some ys)
 (h:cI E ops l (st.put d (x.shift st.tk.length)) K):ah E ops (.fn g caps) xs d l st K:=ah.of hc hb hy fun r t ⟨h1,h2⟩=>by
 subst h1;subst h2
 rw[List.append_nil];exact h
variable{ty:TypeId}{pos:String}{after:Array Edge}{guard:Option (Nat×Bool)}
@[go_sem] theorem Zx{t:TypeId}:dF E ops ⟨d,.alloc t,ty,pos,after,guard⟩ l st K=eU (fun k=>iX E.P t d st k) E ops d l K:=rfl
@[go_sem] theorem ZO{t:TypeId}{x:Operand}:dF E ops ⟨d,.box t x,ty,pos,after,guard⟩ l st K=eU (fun k=>r7 (st.ev x) st k) E ops d l K:=rfl
@[go_sem] theorem ZR{t:TypeId}{x y:Operand}:dF E ops ⟨d,.store t x y,ty,pos,after,guard⟩ l st K=ga (fun k=>oW E.P t (st.ev x) (st.ev y) st k) E ops d l K:=rfl
@[go_sem] theorem Zg{t:TypeId}{n:Nat}{ps:Array (Nat×Operand)}:dF E ops ⟨d,.buildSlice t n ps,ty,pos,after,guard⟩ l st K=eU (fun k=>qf E.P t n (fX st ps) st k) E ops d l K:=rfl
@[go_sem] theorem Y9{s t:TypeId}{x:Operand}:dF E ops ⟨d,.convert s t x,ty,pos,after,guard⟩ l st K=tK (E.P.underlying t) E ops ⟨d,.convert s t x,ty,pos,after,guard⟩ s t x l st K:=by
 simp only[dF,ee,tK]
 generalize E.P.underlying t=u
 cases u with
 |none=>rfl
 |some u=>cases u<;>rfl
@[go_sem] theorem ZM{t tx:TypeId}{x y:Operand}:dF E ops ⟨d,.call ⟨.builtin .append,#[x,y],#[t,tx]⟩,ty,pos,after,guard⟩ l st K=eU (fun k=>pK E.P t tx (st.ev x) (st.ev y) st k) E ops d l K:=rfl
@[go_sem] theorem ZZ{f:Operand}{xs:Array Operand}{ts:Array TypeId}:dF E ops ⟨d,.call ⟨.value f,xs,ts⟩,ty,pos,after,guard⟩ l st K=ah E ops (st.ev f) (xs.toList.map st.ev) d l st K:=rfl
@[go_sem] theorem ZD{xs:Array Operand}{ts:Array TypeId}:dF E ops ⟨d,.call ⟨.builtin .len,xs,ts⟩,ty,pos,after,guard⟩ l st K=cY (fun k=>cR E.P st (.call ⟨.builtin .len,xs,ts⟩) k) E ops d l st K:=rfl
@[go_sem] theorem ZF{xs:Array Operand}{ts:Array TypeId}:dF E ops ⟨d,.call ⟨.builtin .min,xs,ts⟩,ty,pos,after,guard⟩ l st K=cY (fun k=>cR E.P st (.call ⟨.builtin .min,xs,ts⟩) k) E ops d l st K:=rfl
@[go_sem] theorem Zm{xs:Array Operand}{ts:Array TypeId}:dF E ops ⟨d,.call ⟨.builtin .max,xs,ts⟩,ty,pos,after,guard⟩ l st K=cY (fun k=>cR E.P st (.call ⟨.builtin .max,xs,ts⟩) k) E ops d l st K:=rfl
@[go_sem] theorem ZA{x:Operand}:dF E ops ⟨d,.move x,ty,pos,after,guard⟩ l st K=cY (fun k=>cR E.P st (.move x) k) E ops d l st K:=rfl
@[go_sem] theorem aai{x:Operand}:dF E ops ⟨d,.assign x,ty,pos,after,guard⟩ l st K=cY (fun k=>cR E.P st (.assign x) k) E ops d l st K:=rfl
@[go_sem] theorem Zj{x y z:Operand}:dF E ops ⟨d,.pick x y z,ty,pos,after,guard⟩ l st K=cY (fun k=>cR E.P st (.pick x y z) k) E ops d l st K:=rfl
@[go_sem] theorem ZN{t:TypeId}{x:Operand}:dF E ops ⟨d,.load t x,ty,pos,after,guard⟩ l st K=cY (fun k=>cR E.P st (.load t x) k) E ops d l st K:=rfl
@[go_sem] theorem ZS{x:Operand}:dF E ops ⟨d,.nilCheck x,ty,pos,after,guard⟩ l st K=cY (fun k=>cR E.P st (.nilCheck x) k) E ops d l st K:=rfl
@[go_sem] theorem ZQ{b:BinOp}{t:TypeId}{x y:Operand}{u:TypeId}:dF E ops ⟨d,.binOp b t x y u,ty,pos,after,guard⟩ l st K=cY (fun k=>cR E.P st (.binOp b t x y u) k) E ops d l st K:=rfl
@[go_sem] theorem Zh{u:UnOp}{t:TypeId}{x:Operand}:dF E ops ⟨d,.unOp u t x,ty,pos,after,guard⟩ l st K=cY (fun k=>cR E.P st (.unOp u t x) k) E ops d l st K:=rfl
@[go_sem] theorem ZL{t:TypeId}{x:Operand}{lo hi mx:Option Operand}:dF E ops ⟨d,.slice t x lo hi mx,ty,pos,after,guard⟩ l st K=cY (fun k=>cR E.P st (.slice t x lo hi mx) k) E ops d l st K:=rfl
@[go_sem] theorem Zt{t:TypeId}{x:Operand}{f:Nat}:dF E ops ⟨d,.fieldAddr t x f,ty,pos,after,guard⟩ l st K=cY (fun k=>cR E.P st (.fieldAddr t x f) k) E ops d l st K:=rfl
@[go_sem] theorem Zp{t:TypeId}{x:Operand}{f:Nat}:dF E ops ⟨d,.field t x f,ty,pos,after,guard⟩ l st K=cY (fun k=>cR E.P st (.field t x f) k) E ops d l st K:=rfl
@[go_sem] theorem Y8{t:TypeId}{x i:Operand}:dF E ops ⟨d,.indexAddr t x i,ty,pos,after,guard⟩ l st K=cY (fun k=>cR E.P st (.indexAddr t x i) k) E ops d l st K:=rfl
@[go_sem] theorem Zs{t:TypeId}{x i:Operand}:dF E ops ⟨d,.index t x i,ty,pos,after,guard⟩ l st K=cY (fun k=>cR E.P st (.index t x i) k) E ops d l st K:=rfl
@[go_sem] theorem ZX{x:Operand}{i:Nat}:dF E ops ⟨d,.extract x i,ty,pos,after,guard⟩ l st K=cY (fun k=>cR E.P st (.extract x i) k) E ops d l st K:=rfl
@[go_sem] theorem Zn{t:TypeId}{ps:Array (Nat×Operand)}:dF E ops ⟨d,.build t ps,ty,pos,after,guard⟩ l st K=cY (fun k=>cR E.P st (.build t ps) k) E ops d l st K:=rfl
@[go_sem] theorem Z1{t:TypeId}{x:Operand}:dF E ops ⟨d,.makeInterface t x,ty,pos,after,guard⟩ l st K=cY (fun k=>cR E.P st (.makeInterface t x) k) E ops d l st K:=rfl
@[go_sem] theorem aae{f:Fn}{a b:Array Operand}:dF E ops ⟨d,.makeFunc f a b,ty,pos,after,guard⟩ l st K=cY (fun k=>cR E.P st (.makeFunc f a b) k) E ops d l st K:=rfl
end
theorem OY{i:Nat}{E:Env}{ops:Array Oper}{st:St}{K:St→Prop}{p:cW}{o:Oper}(h:ops[i]?=some o):
 eu E ops K (.take i p) st=∃b,eF ops o st=some b∧(b=true→ee E o st fun s=>eu E ops K p s)∧(b=false→eu E ops K p (st.put o.dst (.v undef))):=by
 show bJ E ops i (eu E ops K p) st=_
 unfold bJ;rw[h]
theorem pM{E:Env}{ops:Array Oper}{i:Nat}{C:St→Prop}{st:St}:bJ E ops i C st=cI E ops (ops[i]?).toList st C:=by
 unfold bJ
 cases ops[i]?<;>rfl
@[go_sem] theorem ZY{E:Env}{ops:Array Oper}{st:St}{K:St→Prop}:eu E ops K .done st=K st:=rfl
@[go_sem] theorem ZW{E:Env}{ops:Array Oper}{st:St}{K:St→Prop}{i:Nat}{p:cW}:eu E ops K (.take i p) st=cI E ops (ops[i]?).toList st (eu E ops K p):=pM
@[go_sem] theorem aab{E:Env}{ops:Array Oper}{st:St}{K:St→Prop}{p:cW}:eu E ops K (.fork p) st=eu E ops K p st:=rfl
@[go_sem] theorem aac{E:Env}{ops:Array Oper}{st:St}{K:St→Prop}{i:Nat}{p r:cW}:eu E ops K (.alt i p r) st=(cI E ops (ops[i]?).toList st (eu E ops K p)∧eu E ops K r st):=by
 rw[←pM];rfl
@[go_sem] theorem ZB{E:Env}{ops:Array Oper}{st:St}{K:St→Prop}:eu E ops K .ends st=True:=rfl
attribute [go_sem] and_self lx St.dY iV Option.toList_some Option.toList_none
def cW.ofList:List Nat→cW
 |[]=> .done
 |i::is=> .take i (cW.ofList is)
def pH:List Oper→Nat→Option Oper
 |[],_=>none
 |x::_,0=>some x
 |_::xs,n+1=>pH xs n
theorem yq:∀(l:List Oper) (n:Nat),pH l n=l[n]?
 |[],_=>by simp[pH]
 |_::_,0=>rfl
 |_::xs,n+1=>by simp[pH,yq xs n]
def nJ(ops:List Oper):List Nat→Option (List Oper)
 |[]=>some []
 |i::is=>match pH ops i,nJ ops is with
  |some o,some l=>some (o::l)
  |_,_=>none
theorem ui{E:Env}{ops:List Oper}{K:St→Prop}:∀{is:List Nat} {l:List Oper} {st:St},nJ ops is=some l→cI E ops.toArray l st K→eu E ops.toArray K (cW.ofList is) st
 |[],l,st,h,hl=>by
  simp only[nJ,Option.some.injEq] at h;subst h;exact hl
 |i::is,l,st,h,hl=>by
  simp only[nJ] at h
  split at h
  ·rename_i o l' h1 h2
   simp only[Option.some.injEq] at h;subst h
   show eu E ops.toArray K (.take i (cW.ofList is)) st
   rw[yq] at h1
   rw[OY (o:=o) (by simpa using h1)]
   obtain⟨b,h3,h4,h5⟩:=hl
   exact⟨b,h3,fun hb=>oT (h4 hb) fun s hs=>ui h2 hs,fun hb=>ui h2 (h5 hb)⟩
  ·simp at h
theorem aa.Wx{E:Env}{st:St}{id:Nat}{l:List Oper}{Q:Exit→St→Prop}(is:List Nat)(anc:List (List Nat))(ds:List Tmp)(hm:E.P.follows .mixedOrders=true)
 (hx:(gD l.toArray anc&&iB E.P l.toArray anc true (cW.ofList is) (Array.replicate l.toArray.size false) l.toArray.size)=true) (hd:ds.Nodup) {l':List Oper} (hl:nJ l is=some l') (h:cI E l.toArray l' (st.dY ds) (lx (Q .normal))):aa E (.region id l.toArray true) Q st:=
 aa.uI (cW.ofList is) anc ds hm hx hd (ui hl h)
theorem De(b:Bool):(b==true)=b:=by cases b<;>rfl
theorem OW(b:Bool):(b==false)=!b:=by cases b<;>rfl
attribute [go_sem] De OW Option.getD_some Option.getD_none List.getElem?_nil Nat.succ_eq_add_one
def aM{α:Type}(f:Option α)(p:α→Prop):Prop:=∃y,f=some y∧p y
@[congr] theorem aM.congr{α:Type}{f g:Option α}{p:α→Prop}(h:f=g):aM f p=aM g p:=by rw[h]
@[go_sem] theorem aM.some{α:Type}{a:α}{p:α→Prop}:aM (some a) p=p a:=by simp[aM]
@[go_sem] theorem aM.none{α:Type}{p:α→Prop}:aM (none:Option α) p=False:=by simp[aM]
@[go_sem ↓] theorem Zr{α:Type}{f:Option α}{p:α→Prop}:(∃y,f=Option.some y∧p y)=aM f p:=rfl
def lq{α:Type}(f:Option (Option α))(p:α→Prop):Prop:=∃y,f=some (some y)∧p y
@[congr] theorem lq.congr{α:Type}{f g:Option (Option α)}{p:α→Prop}(h:f=g):lq f p=lq g p:=by rw[h]
@[go_sem] theorem lq.some{α:Type}{a:α}{p:α→Prop}:lq (some (some a)) p=p a:=by simp[lq]
@[go_sem ↓] theorem Z2{α:Type}{f:Option (Option α)}{p:α→Prop}:(∃y,f=Option.some (Option.some y)∧p y)=lq f p:=rfl
theorem IM{k:IntKind}{n:Int}:(AV.v (.int k n)=AV.v .nilIface)=False:=by simp
theorem Q8{b:Bool}:(AV.v (.bool b)=AV.v .nilIface)=False:=by simp
theorem Ib{s:ByteArray}:(AV.v (.string s)=AV.v .nilIface)=False:=by simp
theorem IY{cs:List AV}:(AV.agg cs=AV.v .nilIface)=False:=by simp
theorem YK:(AV.aQ=AV.v .nilIface)=False:=by simp
theorem W8{t:Option Nat}{k:Nat}{es:List AV}:(AV.sl t k es=AV.v .nilIface)=False:=by simp
theorem WB{t:TypeId}{v:Value}:(AV.v (.iface t v)=AV.v .nilIface)=False:=by simp
theorem YG{i j k:Nat}:(AV.ptr i j k=AV.v .nilIface)=False:=by simp
theorem L6{x:Value}:(∃z,Operand.const x=Operand.const z)=True:=by simp
theorem Ge{α:Type}{a:α}{p:α→Prop}:(∃y,some (some a)=some (some y)∧p y)↔p a:=by simp
@[go_sem] theorem ZK{α:Type}{a:α}:(∃y,some a=some y)=True:=by simp
theorem Jx{P:Program}{t:TypeId}{id idx off:Nat}{x:AV}{st:St}{K:St→Prop}:oW P t (.ptr id idx off) x st K↔
 ∃n,bK P t=some n∧∃es,st.own[id]?=some (some es)∧∃e,es[idx]?=some e∧x.plain=true∧x.leaves.all AV.fb=true∧x.leaves.length=n∧off+n≤e.leaves.length∧
  K { st with own:=st.own.set id (some (es.set idx (oM e off x))) }:=by
 constructor
 ·rintro⟨n,es,e,h1,h2,h3,h4⟩;exact⟨n,h1,es,h2,e,h3,h4⟩
 ·rintro⟨n,h1,es,h2,e,h3,h4⟩;exact⟨n,es,e,h1,h2,h3,h4⟩
attribute [go_sem] nw tK IM Q8 Ib IY YK W8 WB YG L6 Ge Jx Bool.not_not Nat.reduceEqDiff Nat.reduceMul Int.reduceToNat Int.reduceLE Int.reduceLT Nat.reduceLeDiff Int.cast_ofNat_Int
 Nat.one_ne_zero Int.reduceNeg Nat.succ_ne_zero Int.reduceEq Int.reduceNe Bool.false_eq_true Bool.true_eq_false Int.reduceAdd Int.reduceSub Int.zero_le_ofNat Int.toNat_zero Nat.zero_mul Nat.mul_one Nat.zero_le Nat.reduceLT
 Bool.not_eq_true' Bool.not_eq_false'
end Go.Abs
namespace Go.Abs
open Go Go.RowKit
def tT:List Nat→List AV→List AV
 |[],l=>l
 |i::is,l=>tT is (l.set i .any)
def tM:List (Nat×AV)→List AV→List AV
 |[],l=>l
 |p::ps,l=>tM ps (l.set p.1 p.2)
def St.at(st:St)(hv:List Nat)(ps:List (Nat×AV))(own:List (Option (List AV)))(tk:List Nat):St:={ st with tmps:=tM ps (tT hv st.tmps),own:=own,tk:=tk }
theorem aa.nI{E:Env}{Q:Exit→St→Prop}{st:St}{ι:Type}{c:Code}(hv:List Nat)(ps:ι→List (Nat×AV))(I:ι→Prop)(μ:ι→Nat)(i:ι)
 (hw0:st.Wk (st.at hv (ps i) st.own st.tk)) (hI:I i)
 (round:∀i,I i→aa E c (jc (fun s'=>∃j,s'.Wk (st.at hv (ps j) st.own st.tk)∧I j∧μ j<μ i) Q) (st.at hv (ps i) st.own st.tk)):aa E (.loop c) Q st:=
 aa.yX (fun i=>st.at hv (ps i) st.own st.tk) I μ i hw0 hI round
theorem aa.I7{E:Env}{Q:Exit→St→Prop}{st:St}{ι:Type}{c:Code}(hv:List Nat)(ps:ι→List (Nat×AV))(own:ι→List (Option (List AV)))(tk:ι→List Nat)(I:ι→Prop)(μ:ι→Nat)(i:ι)
 (hw0:st.Wk (st.at hv (ps i) (own i) (tk i))) (hI:I i)
 (round:∀i,I i→aa E c (jc (fun s'=>∃j,s'.Wk (st.at hv (ps j) (own j) (tk j))∧I j∧μ j<μ i) Q) (st.at hv (ps i) (own i) (tk i))):aa E (.loop c) Q st:=
 aa.yX (fun i=>st.at hv (ps i) (own i) (tk i)) I μ i hw0 hI round
theorem PA{no nt:Nat}:jN no nt [] []=True:=rfl
theorem Mt{no nt:Nat}{x y:AV}{xs ys:List AV}:jN no nt (x::xs) (y::ys)=((y= .any∨(y=x∧x.bO no nt=true))∧jN no nt xs ys):=rfl
theorem WS{no nt:Nat}{xs:List (Option (List AV))}:iA no nt xs []=True:=by cases xs<;>rfl
theorem Oc{no nt:Nat}{x y:Option (List AV)}{xs ys:List (Option (List AV))}:iA no nt (x::xs) (y::ys)=((y=none∨(y=x∧∀es,x=some es→∀e∈es,∀z∈e.leaves,z.bO no nt=true))∧iA no nt xs ys):=rfl
theorem QB{xs:List Nat}:jw xs []=True:=by cases xs<;>rfl
theorem TZ{x y:Nat}{xs ys:List Nat}:jw (x::xs) (y::ys)=(y=x∧jw xs ys):=rfl
theorem Ul{no nt:Nat}{x:List AV}:(∀es,some x=some es→∀e∈es,∀z∈e.leaves,z.bO no nt=true)=(x.all fun e=>e.leaves.all fun z=>z.bO no nt):=by
 simp[List.all_eq_true]
theorem PK{no nt:Nat}:(∀es,(none:Option (List AV))=some es→∀e∈es,∀z∈e.leaves,z.bO no nt=true)=True:=by simp
attribute [go_sem] St.at tT tM St.Wk PA Mt WS Oc QB TZ Ul PK true_or or_true AV.bO AV.de AV.eh Bool.and_self
theorem Dr{c a b:Bool}:(bif c then AV.v (.bool a) else AV.v (.bool b))=AV.v (.bool (bif c then a else b)):=by cases c<;>rfl
theorem R0{c a:Bool}:(bif c then a else false)=(c&&a):=by cases c<;>rfl
theorem C6{c b:Bool}:(bif c then true else b)=(c||b):=by cases c<;>rfl
attribute [go_sem] Dr R0 C6 Bool.and_false Bool.false_and Bool.or_true Bool.true_or Bool.or_false Bool.false_or
theorem av{x:Int}(h1:-9223372036854775808≤x)(h2:x≤9223372036854775807):IntKind.i64.wrap x=x:=by
 rw[IntKind.wrap_i64];omega
end Go.Abs
namespace Go.Abs
open Go Go.RowKit Go.ChangeShapes
section
variable{H:Type}{enc:TypeId×Value→H}{P:Program}
theorem xS(hl:laidOutB P=true){W W':World}(hB:Go.RowKit.Below W.heap.size W W'):∀{ts:List TypeId} {vs:List Value} {ds:List (DataW H)} {ps:List MemPlace},
 (ts.all fun t=>P.readableRec t&&decide (t<P.types.size))=true→(∀x∈ps,x.block<W.heap.size)→DataW.TrodAll enc P W 0 (fun _=>true) true ts vs ds ps→
 DataW.TrodAll enc P W' 0 (fun b=>decide (b<W.heap.size)) true ts vs ds ps
 |[],[],[],ps,_,_,h=>h
 |t::ts,v::vs,d::ds,ps,hr,hlt,h=>by
  obtain⟨p,q,h1,h2,rfl⟩:=h
  simp only[List.all_cons,Bool.and_eq_true,decide_eq_true_eq] at hr
  exact⟨p,q,Go.RowKit.Below.trod hl hr.1.1 hr.1.2 h1 hB (fun x hx=>hlt x (List.mem_append_left _ hx)),xS hl hB hr.2 (fun x hx=>hlt x (List.mem_append_right _ hx)) h2,rfl⟩
 |[],_::_,_,_,_,_,h=>by cases h
 |[],[],_::_,_,_,_,h=>by cases h
 |_::_,[],_,_,_,_,h=>by cases h
 |_::_,_::_,[],_,_,_,h=>by cases h
theorem El{f:Func}{s:ChangeSpec}{apart fresh:Bool}{W W':World}{args:Array Value}{ds gs:List (DataW H)}{before:List MemPlace}{tb:TypeId}
 (hl:laidOutB P=true) (hr:(f.params.toList.all fun t=>P.readableRec t&&decide (t<P.types.size))=true) (hv:s.vars=[]) (ht:f.resultTypes= #[tb]) (hb:P.underlying tb=some .bool)
 (hW:DataW.Whole enc P f.params.toList s.vars apart W args.toList ds gs before) (hB:Go.RowKit.Below W.heap.size W W') (hfn:s.fn H (ds++gs)={ results:=[.lit (.bool true)],args:=ds,vars:=gs }):
 s.post enc P f apart fresh false false W args (.bool true) W':=by
 have hW':=hW
 obtain⟨p,q,hA,hV,rfl,_,_⟩:=hW
 rw[hv] at hV
 obtain⟨rfl,rfl⟩:=trodVars_none hV
 refine⟨ds,[],p++[],[],p,[],hW',?_,?_,?_,hB.frame _,fun h=>by cases h⟩
 ·rw[hfn,ht]
  exact⟨[],[],shut_bool hb true,rfl,rfl⟩
 ·rw[hfn]
  exact xS hl hB hr (fun x hx=>hW'.lt x (by simpa using hx)) hA
 ·rw[hfn]
  rw[hv];rfl
end
end Go.Abs
namespace Go.Abs
open Go Go.RowKit Go.ChangeShapes Go.WideShapes
def gm(w:World):Im:=fun b o=>w.cell? ⟨b,o,none⟩
structure jJ(im:Im)(ls:List AV)(cs:List Value):Prop where
 len:cs.length=ls.length
 at':∀(i:Nat) (x:AV) (v:Value),ls[i]?=some x→cs[i]?=some v→aX im x v∧v.oneCell'=true∧x.leaves=[x]
def Reads{H:Type}(enc:TypeId×Value→H)(P:Program)(t:TypeId)(k:Nat)(S:List AV→Prop):Prop:=
 ∀(w:World) (base:Nat) (spare:Nat→Bool) (held:Bool) (fuel:Nat) (cs:List Value) (x:DataW H×List MemPlace),DataW.trod enc P w base spare held fuel t cs=some x→∃ls,S ls∧ls.length=k∧jJ (gm w) ls cs
section
variable{H:Type}{enc:TypeId×Value→H}{P:Program}{t:TypeId}
theorem jJ.one{im:Im}{x:AV}{v:Value}(h:aX im x v)(h1:v.oneCell'=true)(h2:x.leaves=[x]):jJ im [x] [v]:=by
 refine⟨rfl,fun i y u e1 e2=>?_⟩
 cases i with
 |zero=>simp only[List.getElem?_cons_zero,Option.some.injEq] at e1 e2;subst e1;subst e2;exact⟨h,h1,h2⟩
 |succ i=>simp at e1
theorem dK{kd:IntKind}(ht:P.underlying t=some (.int kd)):Reads enc P t 1 fun ls=>∃n,(Lit.int kd n).wf=true∧ls=[.v (.int kd n)]:=fun w base spare held fuel cs x h=>by
 obtain⟨n,rfl,_,hw⟩:=DataW.trod_int ht h
 exact⟨_,⟨n,hw,rfl⟩,rfl,.one (.v _) rfl rfl⟩
theorem ka(ht:P.underlying t=some .bool):Reads enc P t 1 fun ls=>∃b:Bool,ls=[bl b]:=fun w base spare held fuel cs x h=>by
 obtain⟨b,rfl,_⟩:=DataW.trod_bool ht h
 exact⟨_,⟨b,rfl⟩,rfl,.one (.v _) rfl rfl⟩
theorem eQ(ht:P.underlying t=some .string):Reads enc P t 1 fun ls=>∃l:List UInt8,l.length≤maxLen∧ls=[str l]:=fun w base spare held fuel cs x h=>by
 obtain⟨s,rfl,_,hw⟩:=DataW.trod_string ht h
 have e:(⟨s.data.toList.toArray⟩:ByteArray)=s:=by cases s;simp
 refine⟨[str s.data.toList],⟨s.data.toList,by simpa using hw,rfl⟩,rfl,.one ?_ rfl rfl⟩
 have h0:aX (gm w) (.v (.string s)) (.string s):= .v _
 rw[←e] at h0 ⊢
 simpa using h0
def jr:Bool→List AV→AV
 |true,ls=> .agg ls
 |false,ls=>ls.headD .any
theorem V6{ag:Bool}{ls:List AV}{im:Im}{cs:List Value}(h:jJ im ls cs)(hk:ag=false→ls.length=1):(jr ag ls).leaves=ls:=by
 cases ag with
 |true=>rfl
 |false=>
  obtain⟨x,rfl⟩:∃x,ls=[x]:=by
   cases ls with
   |nil=>simp at hk
   |cons x l=>cases l with
    |nil=>exact⟨x,rfl⟩
    |cons=>simp at hk
  have hc:∃v,cs=[v]:=by
   have:=h.len
   cases cs with
   |nil=>simp at this
   |cons v l=>cases l with
    |nil=>exact⟨v,rfl⟩
    |cons=>simp at this
  obtain⟨v,rfl⟩:=hc
  exact(h.at' 0 x v rfl rfl).2.2
theorem Cn{α:Type}{Q:Nat→α→Prop}:∀(n:Nat),(∀i,i<n→∃p,Q i p)→∃L:List α,L.length=n∧∀(i:Nat) (p:α),L[i]?=some p→Q i p
 |0,_=>⟨[],rfl,by simp⟩
 |m+1,h=>by
  obtain⟨L,hL,hL2⟩:=Cn m (fun i hi=>h i ab)
  obtain⟨q,g⟩:=h m ab
  refine⟨L++[q],by simp[hL],fun i p hp=>?_⟩
  rcases na _ _ _ _ hp with⟨_,hp⟩|⟨hi,hp⟩
  ·exact hL2 i p hp
  ·have:i=m:=by
    have:=(List.getElem?_eq_some_iff.1 hp).1
    simp at this
    omega
   subst this
   rw[hL] at hp
   simp at hp
   subst hp
   exact g
theorem oE{e:TypeId}{k:Nat}{S:List AV→Prop}(ag:Bool)(ht:P.underlying t=some (.slice e))(hc:P.cellsOf e=k)(hk:0<k)(hag:ag=false→k=1)(he:Reads enc P e k S):
 Reads enc P t 1 fun ls=>ls=[.aQ]∨∃es:List AV,es.length≤maxLen∧(∀x∈es,∃l,S l∧x=jr ag l)∧ls=[.sl none k es]:=fun w base spare held fuel cs x h=>by
 rcases DataW.trod_slice ht h with⟨rfl,_⟩|⟨a,len,cap,elems,rest,n,_,rfl,_,hb,hl,hm,hlen,hel,_⟩
 ·exact⟨_,.inl rfl,rfl,.one .aQ rfl rfl⟩
 ·
  have h1:∀i,i<len→∃ls cs,S ls∧ls.length=k∧jJ (gm w) ls cs∧∀j,j<k→w.cell? ((a.add (i*k)).add j)=cs[j]?:=fun i hi=>by
   have h2:=hel i hi
   rw[hc] at h2
   have h3:i<elems.length:=by omega
   rw[List.getElem?_eq_getElem h3] at h2
   cases hcs:w.cells? base (a.add (i*k)) k with
   |none=>rw[hcs] at h2;simp at h2
   |some cs=>
    rw[hcs] at h2
    obtain⟨ls,g1,g2,g3⟩:=he w base spare held n cs _ h2
    exact⟨ls,cs,g1,g2,g3,(World.cells?_some hcs).2.2⟩
  have h4:=Cn (Q:=fun i p=>S p.1∧p.1.length=k∧jJ (gm w) p.1 p.2∧∀j,j<k→w.cell? ((a.add (i*k)).add j)=p.2[j]?) len (fun i hi=>let⟨ls,cs,g⟩:=h1 i hi;⟨(ls,cs),g⟩)
  obtain⟨L,hL,hL2⟩:=h4
  refine⟨[.sl none k (L.map fun p=>jr ag p.1)],.inr ⟨_,by simp[hL];omega,?_,rfl⟩,rfl,.one ?_ rfl rfl⟩
  ·intro x hx
   obtain⟨p,hp,rfl⟩:=List.mem_map.1 hx
   obtain⟨i,hi⟩:=List.mem_iff_getElem?.1 hp
   exact⟨p.1,(hL2 i p hi).1,rfl⟩
  ·have hln:∀(i:Nat) (p:List AV×List Value),L[i]?=some p→(jr ag p.1).leaves=p.1:=fun i p hp=>V6 (hL2 i p hp).2.2.1 (fun e=>by rw[(hL2 i p hp).2.1];exact hag e)
   by_cases h0:len=0
   ·have hnil:L=[]:=List.eq_nil_of_length_eq_zero ab
    subst hnil;subst h0
    exact .dw k (some a) cap
   ·
    have hspot:a.spot=none:=by
     obtain⟨p,hp⟩:∃p,L[0]?=some p:=⟨L[0]' ab,List.getElem?_eq_getElem _⟩
     obtain⟨_,g2,g3,g4⟩:=hL2 0 p hp
     have g5:=g4 0 hk
     have g6:0<p.2.length:=by rw[g3.len,g2];exact hk
     rw[List.getElem?_eq_getElem g6] at g5
     have:=World.cell?_spot g5
     simpa[Addr.add] using this
    obtain⟨b,off,spot⟩:=a
    simp only at hspot;subst hspot
    have:=aX.sl (im:=gm w) k (L.map fun p=>jr ag p.1) b off cap (fun i j=>(((L[i]?).bind fun p=>p.2[j]?).getD undef)) (by simp[hL];exact hl) ?_ ?_ ?_ ?_
    ·simpa[hL] using this
    ·intro i e he
     rw[List.getElem?_map] at he
     cases hp:L[i]? with
     |none=>simp[hp] at he
     |some p=>simp only[hp,Option.map_some,Option.some.injEq] at he;subst he;rw[hln i p hp];exact(hL2 i p hp).2.1
    all_goals
     intro i e j c he hc'
     rw[List.getElem?_map] at he
     cases hp:L[i]? with
     |none=>simp[hp] at he
     |some p=>
      simp only[hp,Option.map_some,Option.some.injEq] at he;subst he
      rw[hln i p hp] at hc'
      obtain⟨_,g2,g3,g4⟩:=hL2 i p hp
      have hj:j<k:=by rw[←g2];exact(List.getElem?_eq_some_iff.1 hc').1
      have hj2:j<p.2.length:=by rw[g3.len];exact(List.getElem?_eq_some_iff.1 hc').1
      have g5:=g4 j hj
      rw[List.getElem?_eq_getElem hj2] at g5
      have g6:=g3.at' j c _ hc' (List.getElem?_eq_getElem hj2)
      simp only[Option.bind_some,List.getElem?_eq_getElem hj2,Option.getD_some]
      first
       |exact g6.1
       |exact g6.2.1
       |(have e1:(Addr.add ⟨b,off,none⟩ (i*k)).add j=⟨b,off+i*k+j,none⟩:=by rw[add_plain,add_plain]
         rw[e1] at g5;exact g5)
theorem jJ.app{im:Im}{a b:List AV}{cs ds:List Value}(h:jJ im a cs)(k:jJ im b ds):jJ im (a++b) (cs++ds):=by
 refine⟨by simp[h.len,k.len],fun i x v h1 h2=>?_⟩
 rcases na _ _ _ _ h1 with⟨l1,h1⟩|⟨l1,h1⟩
 ·rw[List.getElem?_append_left (by rw[h.len];exact l1)] at h2
  exact h.at' i x v h1 h2
 ·rw[List.getElem?_append_right (by rw[h.len];exact l1),h.len] at h2
  exact k.at' _ x v h1 h2
def q6{H:Type}(enc:TypeId×Value→H)(P:Program)(fl:List Field)(off:Nat)(S:List AV→Prop)(total:Nat):Prop:=
 ∀(w:World) (base:Nat) (spare:Nat→Bool) (held:Bool) (n:Nat) (cs:List Value),cs.length=total→
  (∀f∈fl,∃y,DataW.trod enc P w base spare held n f.type ((cs.drop f.offset).take (P.cellsOf f.type))=some y)→∃ls,S ls∧ls.length+off=total∧jJ (gm w) ls (cs.drop off)
theorem kM(total:Nat):q6 enc P [] total (fun ls=>ls=[]) total:=fun w base spare held n cs hl _=>
 ⟨[],rfl,by simp,by rw[List.drop_eq_nil_of_le ab];exact⟨rfl,by simp⟩⟩
theorem bE{f:Field}{fl:List Field}{off k total:Nat}{Sf Sr:List AV→Prop}(hf:Reads enc P f.type k Sf)(hc:P.cellsOf f.type=k)(ho:f.offset=off)(hr:q6 enc P fl (off+k) Sr total):
 q6 enc P (f::fl) off (fun ls=>∃a b,Sf a∧Sr b∧ls=a++b) total:=fun w base spare held n cs hl h=>by
 obtain⟨y,hy⟩:=h f (List.mem_cons_self ..)
 rw[ho,hc] at hy
 obtain⟨a,a1,a2,a3⟩:=hf w base spare held n _ y hy
 obtain⟨b,b1,b2,b3⟩:=hr w base spare held n cs hl (fun g hg=>h g (List.mem_cons_of_mem _ hg))
 refine⟨a++b,⟨a,b,a1,b1,rfl⟩,by simp;omega,?_⟩
 have e:cs.drop off=(cs.drop off).take k++cs.drop (off+k):=by rw[←List.drop_drop,List.take_append_drop]
 rw[e]
 exact a3.app b3
theorem km{fs:Array Field}{fl:List Field}{S:List AV→Prop}{total:Nat}(ht:P.underlying t=some (.struct fs))(hl:fs.toList=fl)(hc:P.cellsOf t=total)(h:q6 enc P fl 0 S total):Reads enc P t total S:=fun w base spare held fuel cs x hx=>by
 obtain⟨xs,n,_,_,h1,h2,h3⟩:=DataW.trod_struct ht hx
 subst hl
 obtain⟨ls,g1,g2,g3⟩:=h w base spare held n cs (h1.trans hc) (fun f hf=>by
  obtain⟨i,hi⟩:=List.mem_iff_getElem?.1 hf
  have hi2:fs[i]?=some f:=by simpa using hi
  have hlt:i<xs.length:=by rw[h2];exact(Array.getElem?_eq_some_iff.1 hi2).1
  exact⟨xs[i],by rw[h3 i f hi2,List.getElem?_eq_getElem hlt]⟩)
 exact⟨ls,g1,by omega,by simpa using g3⟩
section
variable{w:World}{base:Nat}{spare:Nat→Bool}{held:Bool}{r:Reach}{b0:Nat}{v:Value}{d:DataW H}{ps:List MemPlace}
theorem LN{S:List AV→Prop}(hc:v.cells.toList=[v])(hR:Reads enc P t 1 S)(hd:DataW.Trod enc P w base spare held t v d ps):∃x,S [x]∧aX (gm w) x v:=by
 obtain⟨fuel,hf⟩:=hd
 rw[hc] at hf
 obtain⟨ls,h1,h2,h3⟩:=hR _ _ _ _ _ _ _ hf
 obtain⟨x,rfl⟩:∃x,ls=[x]:=by
  cases ls with
  |nil=>simp at h2
  |cons x l=>cases l with
   |nil=>exact⟨x,rfl⟩
   |cons=>simp at h2
 exact⟨x,h1,(h3.at' 0 x v rfl rfl).1⟩
theorem Aq{kd:IntKind}(ht:P.underlying t=some (.int kd))(hv:Value.okWide P w r b0 t v)(hd:DataW.Trod enc P w base spare held t v d ps):∃n,(Lit.int kd n).wf=true∧aX (gm w) (.v (.int kd n)) v:=by
 obtain⟨n,rfl⟩:=okWide_int ht hv
 obtain⟨x,⟨m,h1,h2⟩,h3⟩:=LN (by simp[Value.cells]) (dK ht) hd
 simp only[List.cons.injEq,and_true] at h2;subst h2
 exact⟨m,h1,h3⟩
theorem zx{fs:Array Field}{k:Nat}{S:List AV→Prop}(ht:P.underlying t=some (.struct fs))(hR:Reads enc P t k S)(hv:Value.okWide P w r b0 t v)(hd:DataW.Trod enc P w base spare held t v d ps):∃ls,S ls∧aX (gm w) (.agg ls) v:=by
 obtain⟨cs,rfl,hsz⟩:=okWide_struct ht hv
 obtain⟨fuel,hf⟩:=hd
 obtain⟨ls,h1,h2,h3⟩:=hR _ _ _ _ _ _ _ hf
 refine⟨ls,h1,?_⟩
 have:=aX.agg (im:=gm w) ls cs.toList (by simpa[Value.cells] using h3.len) (fun i c u e1 e2=>(h3.at' i c u e1 (by simpa[Value.cells] using e2)).1)
 simpa using this
end
end
theorem Iv{im:Im}:kF im [] []:=⟨rfl,by simp⟩
theorem qZ{im:Im}{x:AV}{v:Value}{xs:List AV}{vs:List Value}(h:aX im x v)(k:kF im xs vs):kF im (x::xs) (v::vs):=by
 refine⟨by simp[k.1],fun i y u h1 h2=>?_⟩
 cases i with
 |zero=>simp only[List.getElem?_cons_zero,Option.some.injEq] at h1 h2;subst h1;subst h2;exact h
 |succ i=>exact k.2 i y u (by simpa using h1) (by simpa using h2)
theorem GU{E:Env}{f:FuncId}{xs:List AV}{args:Array Value}{W:World}(hok:E.ok W)(hg:ln E (gm W))(h:ai E f xs fun r t=>r=bl true∧t=[])(hp:kF (gm W) xs args.toList):
 Calls E.P f args W fun e W'=>e= .returned (.bool true)∧Go.RowKit.Below W.heap.size W W':=by
 have:=h W (gm W) args.toList hok hg (fun b o x e=>e) hp
 refine(show Calls E.P f args.toList.toArray W _ from this).mono ?_
 rintro e W' ⟨v,r,tks,im',rfl,hB,_,_,_,_,hv,rfl,_⟩
 cases hv.bD
 exact⟨rfl,hB.toBelow⟩
end Go.Abs
namespace Go.Abs
open Go Go.RowKit
theorem FU{α β:Type}{f:α→β}{l:List α}{n:Nat}:(l.map f).take n=(l.take n).map f:=List.map_take.symm
theorem XK{α β:Type}{f:α→β}{l:List α}{n:Nat}:(l.map f).drop n=(l.drop n).map f:=List.map_drop.symm
theorem Yv{α β:Type}{f:α→β}{l m:List α}:l.map f++m.map f=(l++m).map f:=List.map_append.symm
theorem I3{α β:Type}{f:α→β}{l:List α}:(l.map f).length=l.length:=List.length_map f
theorem Sc{α β:Type}{f:α→β}{l:List α}{i:Nat}:(l.map f)[i]?=(l[i]?).map f:=List.getElem?_map
theorem zX(b:UInt8):u8 b= .v (.int .u8 b.toNat):=rfl
theorem KQ{l:List UInt8}{n:Int}(h0:0≤n)(h1:n<256):l.map u8++[.v (.int .u8 n)]=(l++[UInt8.ofNat n.toNat]).map u8:=by
 rw[List.map_append]
 congr 1
 have:((UInt8.ofNat n.toNat).toNat:Int)=n:=by simp;omega
 simp only[List.map_cons,List.map_nil,zX,this]
theorem RJ{l:List UInt8}{b:UInt8}:l.map u8++[.v (.int .u8 b.toNat)]=(l++[b]).map u8:=by
 rw[List.map_append];rfl
theorem Sb{A B:List UInt8}:((⟨A.toArray⟩:ByteArray)=⟨B.toArray⟩)=(A=B):=by
 simp only[ByteArray.mk.injEq,eq_iff_iff]
 exact⟨fun h=>by simpa using h,fun h=>by rw[h]⟩
theorem Un{A:List UInt8}:(⟨A.toArray⟩:ByteArray).data.toList=A:=rfl
theorem aM.nth{α β:Type}{l:List α}{i:Nat}{f:α→β}{p:β→Prop}(h:i<l.length)(hp:∀b,l[i]?=Option.some b→p (f b)):aM ((l[i]?).map f) p:=by
 obtain⟨b,hb⟩:∃b,l[i]?=Option.some b:=⟨_,List.getElem?_eq_getElem h⟩
 exact⟨f b,by rw[hb];rfl,hp b hb⟩
theorem aM.oU{β:Type}{l:List β}{i:Nat}{p:β→Prop}(h:i<l.length)(hp:∀b,l[i]?=Option.some b→p b):aM (l[i]?) p:=by
 obtain⟨b,hb⟩:∃b,l[i]?=Option.some b:=⟨_,List.getElem?_eq_getElem h⟩
 exact⟨b,hb,hp b hb⟩
theorem Hy{A:List UInt8}{i:Nat}:(A.toArray)[i]?=A[i]?:=by simp
theorem toNat_cast{n:Nat}:((n:Int)).toNat=n:=rfl
theorem Qm{n:Nat}:(0≤(n:Int))=True:=by simp
section
variable{E:Env}{ops:Array Oper}{d:Option Tmp}{l:List Oper}{st:St}{K:St→Prop}
@[go_sem] theorem cY.get{α:Type}{o:Option α}{F:α→(AV→Prop)→Prop}:cY (fun k=>aM o fun y=>F y k) E ops d l st K=aM o (fun y=>cY (F y) E ops d l st K):=rfl
@[go_sem] theorem eU.get{α:Type}{o:Option α}{F:α→(St→AV→Prop)→Prop}:eU (fun k=>aM o fun y=>F y k) E ops d l K=aM o (fun y=>eU (F y) E ops d l K):=rfl
@[go_sem] theorem ga.get{α:Type}{o:Option α}{F:α→(St→Prop)→Prop}:ga (fun k=>aM o fun y=>F y k) E ops d l K=aM o (fun y=>ga (F y) E ops d l K):=rfl
end
attribute [go_sem] FU XK Yv I3 Sc zX KQ RJ Sb Un Hy toNat_cast Qm List.length_append List.length_map Option.map_some Option.map_none
section
variable{E:Env}{f:FuncId}{R:AV→List Nat→Prop}
theorem yA{im:Im}:∀{xs vs:List Value},kF im (xs.map .v) vs→vs=xs
 |[],vs,h=>List.eq_nil_of_length_eq_zero (by simpa using h.1)
 |x::xs,vs,h=>by
  cases vs with
  |nil=>have:=h.1;simp at this
  |cons v vs=>
   have h0:=h.2 0 (.v x) v rfl rfl
   cases h0
   have:=yA (im:=im) (xs:=xs) (vs:=vs) ⟨by have:=h.1;simpa using this,fun i y u h1 h2=>h.2 (i+1) y u (by simpa using h1) (by simpa using h2)⟩
   rw[this]
theorem ai.FD{xs:List Value}{S:Value→Prop}(h:∀w,E.ok w→Calls E.P f xs.toArray w fun e w'=>(∃v,e= .returned v∧S v)∧w'=w)(hR:∀v,S v→∃r,(∀im,aX im r v)∧R r []):ai E f (xs.map .v) R:=by
 intro w im vs hok hg him hpw
 rw[yA hpw]
 refine(h w hok).mono ?_
 rintro e w' ⟨⟨v,rfl,hs⟩,rfl⟩
 obtain⟨r,h1,h2⟩:=hR v hs
 exact⟨v,r,[],im,rfl,Below.refl _ _,.refl _,fun _ _ _=>rfl,him,⟨by simp,by simp⟩,.base (h1 im),h2⟩
end
end Go.Abs
namespace Go.Abs
open Go Go.RowKit
end Go.Abs
namespace Go.Abs
open Go Go.RowKit
end Go.Abs
namespace Go.Abs
theorem aM.gj{α:Type}{o:Option α}{b:α}{p:α→Prop}(h:o=Option.some b)(hp:p b):aM o p:=⟨b,h,hp⟩
theorem aM.bG{α β:Type}{o:Option α}{b:α}{f:α→β}{p:β→Prop}(h:o=Option.some b)(hp:p (f b)):aM (o.map f) p:=⟨f b,by rw[h];rfl,hp⟩
end Go.Abs
namespace Go.Abs
open Go Go.RowKit
def uG(s:AV)(k n:Nat)(xs:List AV)(st:St)(K:St→AV→Prop):Prop:=
 match s with
  |.sl (some tk) q es=>q=k∧st.tk[tk]?=some es.length∧es.length+xs.length≤4611686018427387904∧(es.length+xs.length)*n≤140737488355328∧
    K { st with tk:=st.tk.set tk (es.length+xs.length) } (.sl (some tk) k (es++xs))
  |.aQ=>xs.length≤4611686018427387904∧xs.length*n≤140737488355328∧K { st with tk:=st.tk++[xs.length] } (.sl (some st.tk.length) k xs)
  |.mu id q off len cap=>q=k∧off=0∧xs≠[]∧len+xs.length≤4611686018427387904∧(len+xs.length)*n≤140737488355328∧
    lq st.own[id]? fun l=>len≤l.length∧cap=l.length∧
    ∀m,K { st with own:=st.own.set id none++[some (l.take len++xs++spare k m)] } (.mu st.own.length k 0 (len+xs.length) (len+xs.length+m))
  |_=>False
@[go_sem] theorem aaf{P:Program}{t tx:TypeId}{s x:AV}{st:St}{K:St→AV→Prop}:pK P t tx s x st K =
   (eI P tx=true∧aM (dd P t) fun p=>aM (iu x p.2.1) fun xs=>uG s p.2.1 p.2.2 xs st K):=by
 simp only[pK,aM,uG,eq_iff_iff]
 constructor
 ·rintro⟨h0,e,k,n,xs,h1,h2,h3⟩;exact⟨h0,(e,k,n),h1,xs,h2,h3⟩
 ·rintro⟨h0,⟨e,k,n⟩,h1,xs,h2,h3⟩;exact⟨h0,e,k,n,xs,h1,h2,h3⟩
attribute [go_sem] uG
end Go.Abs
namespace Go.Abs
open Go Go.RowKit
@[go_sem] theorem Zo{P:Program}{t:TypeId}{len:Nat}{ps:List (Nat×AV)}{st:St}{K:St→AV→Prop}:qf P t len ps st K =
   (aM (dd P t) fun p=>ps.length=len∧idxFrom 0 ps=true∧len*p.2.1≤16777216∧aM (mE p.2.1 ps) fun ys=>K { st with tk:=st.tk++[ys.length] } (.sl (some st.tk.length) p.2.1 ys)):=by
 simp only[qf,aM,eq_iff_iff]
 constructor
 ·rintro⟨e,k,n,ys,h1,h2,h3,h4,h5,h6⟩;exact⟨(e,k,n),h1,h2,h3,h4,ys,h5,h6⟩
 ·rintro⟨⟨e,k,n⟩,h1,h2,h3,h4,ys,h5,h6⟩;exact⟨e,k,n,ys,h1,h2,h3,h4,h5,h6⟩
end Go.Abs
namespace Go.Abs
open Go Go.RowKit
@[go_sem] theorem aak{P:Program}{t:TypeId}{s:ByteArray}{lo hi:Option AV}{k:AV→Prop}:jA P t (.v (.string s)) lo hi k =
   (P.underlying t=some .string∧aM (dU lo 0) fun l=>aM (dU hi s.data.toList.length) fun h=>0≤l∧l≤h∧h≤(s.data.toList.length:Int)∧k (.v (.string ⟨(l7 lo hi s.data.toList).toArray⟩))):=by
 simp only[jA,aM,eq_iff_iff]
 constructor
 ·rintro⟨h0,l,h,h1,h2,h3⟩;exact⟨h0,l,h1,h,h2,h3⟩
 ·rintro⟨h0,l,h1,h,h2,h3⟩;exact⟨h0,l,h,h1,h2,h3⟩
@[go_sem] theorem Z8{P:Program}{t:TypeId}{t':Option Nat}{q:Nat}{es:List AV}{lo hi:Option AV}{k:AV→Prop}:jA P t (.sl t' q es) lo hi k =
   ((∃e,P.underlying t=some (.slice e)∧bK P e=some q)∧aM (dU lo 0) fun l=>aM (dU hi es.length) fun h=>0≤l∧l≤h∧h≤(es.length:Int)∧k (.sl (vZ lo t') q (l7 lo hi es))):=by
 simp only[jA,aM,eq_iff_iff]
 constructor
 ·rintro⟨h0,l,h,h1,h2,h3⟩;exact⟨h0,l,h1,h,h2,h3⟩
 ·rintro⟨h0,l,h1,h,h2,h3⟩;exact⟨h0,l,h,h1,h2,h3⟩
@[go_sem] theorem Y7{P:Program}{t:TypeId}{lo hi:Option AV}{k:AV→Prop}:jA P t .aQ lo hi k =
   ((∃e n,P.underlying t=some (.slice e)∧bK P e=some n)∧dU lo 0=some 0∧dU hi 0=some 0∧k .aQ):=rfl
@[go_sem] theorem Y6{P:Program}{t:TypeId}{id q off len cap:Nat}{lo hi:Option AV}{k:AV→Prop}:jA P t (.mu id q off len cap) lo hi k =
   ((∃e n,P.underlying t=some (.slice e)∧bK P e=some n)∧lo=none∧aM (dU hi len) fun h=>0≤h∧h≤(len:Int)∧k (.mu id q off h.toNat cap)):=rfl
@[go_sem] theorem aan{P:Program}{t:TypeId}{cs:List AV}{lo hi:Option AV}{k:AV→Prop}:jA P t (.bV cs) lo hi k =
   (∃L e,P.underlying t=some (.array L e)∧bK P e=some 1∧lo=none∧aM (dU hi L) fun h=>0≤h∧h≤(cs.length:Int)∧h≤(L:Int)∧(∀c∈cs,c.leaves=[c])∧k (.sl none 1 (cs.take h.toNat))):=rfl
theorem YY{e:TypeId}{p:TypeId→Prop}:(∃x,some (TypeDesc.slice e)=some (TypeDesc.slice x)∧p x)=p e:=by simp
theorem Db{e:TypeId}{p:TypeId→Nat→Prop}:(∃x n,some (TypeDesc.slice e)=some (TypeDesc.slice x)∧p x n)=∃n,p e n:=by simp
theorem Fu{α β:Type}{p:α×β}:(p.1,p.2)=p:=rfl
attribute [go_sem] Fu YY Db
end Go.Abs
namespace Go.Abs
open Go Go.RowKit
section
variable{P:Program}{t:TypeId}{k:Bool→Prop}
@[go_sem] theorem aal{a b:Bool}:gw P t (.v (.bool a)) (.v (.bool b)) k=(P.underlying t=some .bool∧k (decide (a=b))):=rfl
@[go_sem] theorem Z3:gw P t .aQ .aQ k=((∃e,P.underlying t=some (.slice e))∧k true):=rfl
@[go_sem] theorem aaa{x:Option Nat}{y:Nat}{es:List AV}:gw P t (.sl x y es) .aQ k=((∃e,P.underlying t=some (.slice e))∧∀b,(es≠[]→b=false)→k b):=rfl
@[go_sem] theorem Ze{x:Option Nat}{y:Nat}{es:List AV}:gw P t .aQ (.sl x y es) k=((∃e,P.underlying t=some (.slice e))∧∀b,(es≠[]→b=false)→k b):=rfl
@[go_sem] theorem Zf{i x y z u:Nat}:gw P t (.mu i x y z u) .aQ k=((∃e,P.underlying t=some (.slice e))∧∀b,(z≠0→b=false)→k b):=rfl
@[go_sem] theorem ZC:gw P t (.v .nilIface) (.v .nilIface) k=((∃ms,P.underlying t=some (.interface ms))∧k true):=rfl
@[go_sem] theorem Zk{x:TypeId}{y:Value}:gw P t (.v (.iface x y)) (.v .nilIface) k=((∃ms,P.underlying t=some (.interface ms))∧k false):=rfl
@[go_sem] theorem Zd{xs ys:List AV}:gw P t (.agg xs) (.agg ys) k=(aM (lv P t) fun ks=>aM (cT ks xs ys) k):=by
 simp only[gw,aM,eq_iff_iff]
 constructor
 ·rintro⟨ks,b,h1,h2,h3⟩;exact⟨ks,h1,b,h2,h3⟩
 ·rintro⟨ks,h1,b,h2,h3⟩;exact⟨ks,b,h1,h2,h3⟩
end
end Go.Abs
namespace Go.Abs
theorem dD:(∀(p:Prop) [Decidable p],(decide p=true)=p)∧(∀(p:Prop) [Decidable p],(decide p=false)=¬p)∧(∀b:Bool,((!b)=true)=(b=false))∧(∀b:Bool,((!b)=false)=(b=true))∧
 (∀a b:Bool,((a||b)=true)=(a=true∨b=true))∧(∀a b:Bool,((a&&b)=true)=(a=true∧b=true))∧(∀a b:Bool,((a||b)=false)=(a=false∧b=false))∧
 (∀a b:Bool,((a&&b)=false)=(a=true→b=false))∧((!true)=false)∧((!false)=true)∧((true=false)=False)∧((false=true)=False)∧(∀(α:Type) (a b:α),(a≠b)=¬(a=b)):=
 ⟨fun p _=>by simp,fun p _=>by simp,by decide,by decide,by decide,by decide,by decide,by decide,rfl,rfl,by simp,by simp,fun _ _ _=>rfl⟩
end Go.Abs
namespace Go.Abs
open Go Go.RowKit
def bR(P:Program)(rs:List ResultVar)(st:St)(K:St→AV→Prop):Exit→St→Prop
 |.normal,s|.ret,s=>s.up=st.tmps++st.up∧jg P s rs fun l=>K { s with tmps:=st.tmps,up:=st.up } (gW l)
 |_,_=>False
def an(E:Env)(ops:Array Oper)(l:List Oper)(Q:Exit→St→Prop)(st:St):Prop:=
 ∀(w0:World) (im0:dt) (cx:Ctx) (a:Act) (w:World),E.ok w0→lF E im0→Rel w0 im0 cx st a w→wpList E.P ops (fun e a' w'=>gS w0 im0 (Q e) a' w') l a w
section
variable{E:Env}{Q:Exit→St→Prop}{st:St}{ops:Array Oper}{l l1 l2:List Oper}
theorem aa.bA{id:Nat}(h:an E l.toArray l Q st):aa E (.region id l.toArray false) Q st:=fun w0 im0 cx a w h0 hG r=>wp_region_lit (h w0 im0 cx a w h0 hG r)
theorem an.of(h:cI E ops l st (Q .normal)):an E ops l Q st:=fun w0 im0 cx a w h0 hG r=>sJ h0 hG (K:=Q .normal) (fun _ _ hh=>hh) l r h
theorem tj{w0:World}{im0:dt}(h0:E.ok w0)(hG:lF E im0){K:St→Prop}{R:Exit→Act→World→Prop}(hQ:∀a w,gS w0 im0 K a w→wpList E.P ops R l2 a w):
 ∀(l:List Oper) {c:Ctx} {st:St} {a:Act} {w:World},Rel w0 im0 c st a w→cI E ops l st K→wpList E.P ops R (l++l2) a w
 |[],c,st,a,w,r,h=>hQ _ _ ⟨c,st,r,h⟩
 |o::rest,c,st,a,w,r,h=>by
  obtain⟨q,hq,h1,h2⟩:=h
  have hw:=wx r hq
  rw[List.cons_append]
  refine wpList_step (fun K' hK'=>?_)
  cases q with
  |true=>
   rw[if_pos hw]
   refine Oper.wp_mono (fun a' w' hh=>?_) (tX (Q:=R) h0 hG r (h1 rfl))
   obtain⟨c',st',r',h'⟩:=hh
   exact hK' _ _ (tj h0 hG hQ rest r' h')
  |false=>
   rw[if_neg (by rw[hw];exact Bool.false_ne_true)]
   exact hK' _ _ (tj h0 hG hQ rest (r.put o.dst (.base (.v undef))) (h2 rfl))
theorem an.app(h:cI E ops l1 st (an E ops l2 Q)):an E ops (l1++l2) Q st:=fun w0 im0 cx a w h0 hG r=>
 tj h0 hG (K:=an E ops l2 Q) (fun a' w' hh=>by obtain⟨c,s,r',k⟩:=hh;exact k w0 im0 c a' w' h0 hG r') l1 r h
theorem an.call{g:FuncId}{fn:Func}{body:Code}{n:Nat}{rs:List ResultVar}{caps:List AV}{dst:Option Tmp}{f:Operand}{xs:Array Operand}{tys:Array TypeId}{ty:TypeId}{pos:String}{after:Array Edge}
 (hf:E.P.funcs[g]?=some fn) (hb:fn.body=some body) (hn:fn.ntmps=n) (hr:fn.results.toList=rs) (hc:au E.P g=true) (he:st.ev f= .fn g caps) (hrsv:st.bZ=none)
 (h:aa E body (bR E.P rs st fun s z=>an E ops l Q (s.put dst z)) { st with tmps:=(xs.toList.map st.ev++caps)++List.replicate (n-(xs.toList.map st.ev++caps).length) (.v undef),up:=st.tmps++st.up }):
 an E ops (⟨dst,.call ⟨.value f,xs,tys⟩,ty,pos,after,none⟩::l) Q st:=by
 intro w0 im0 cx a w h0 hG r
 subst hn;subst hr
 refine wpList_step (fun K' hK'=>?_)
 have hw:Region.wanted ⟨dst,.call ⟨.value f,xs,tys⟩,ty,pos,after,none⟩ (yielded ops a.tmps)=true:=rfl
 rw[if_pos hw]
 have hv:=r.ev f
 rw[he] at hv
 obtain⟨us,hfe,hnu,hpu⟩:=hv.hZ
 have hargs:Pw cx (xs.toList.map st.ev++caps) (xs.toList.map a.eval++us):=by
  refine⟨by simp[hnu],fun i x v h1 h2=>?_⟩
  rcases ia _ _ _ _ h1 with⟨l1,h1⟩|⟨l1,h1⟩
  ·rw[List.getElem?_append_left (by simpa using l1)] at h2
   rw[List.getElem?_map] at h1 h2
   cases hc:xs.toList[i]? with
   |none=>simp[hc] at h1
   |some z=>simp only[hc,Option.map_some,Option.some.injEq] at h1 h2;subst h1;subst h2;exact r.ev z
  ·rw[List.getElem?_append_right (by simpa using l1)] at h2
   have:(xs.toList.map a.eval).length=(xs.toList.map st.ev).length:=by simp
   rw[this] at h2
   exact hpu _ _ _ h1 h2
 have hrun:(execOp a.eval ⟨dst,.call ⟨.value f,xs,tys⟩,ty,pos,after,none⟩).run E.P w= .ok (.enter g (xs.toList.map a.eval++us).toArray) w:=by
  unfold au at hc
  simp only[hf,Bool.and_eq_true,Bool.not_eq_true'] at hc
  obtain⟨hn1,hn2⟩:=hc
  have hbn:fn.body.isNone=false:=by rw[hb];rfl
  have harr:Array.map a.eval xs++us.toArray=(xs.toList.map a.eval++us).toArray:=by
   apply Array.ext'
   simp
  have he':a.eval f= .func (.func g) #[] us.toArray:=hfe
  simp only[execOp,resolve,he',Deferred.ofValue,Sem.run_bind,Sem.run_pure,Result.andThen_ok,invoke,callFunc,run_program,hf,hn1,Bool.false_eq_true,if_false,hbn,Array.empty_append,harr]
 unfold Oper.wp
 rw[hrun]
 simp only[Oper.upon]
 generalize hvs:xs.toList.map a.eval++us=vs at *
 generalize hys:xs.toList.map st.ev++caps=ys at *
 have hrel:Rel w0 ⟨im0.im,a.tmps.toList++im0.ex,im0.dr⟩ cx { st with tmps:=ys++List.replicate (fn.ntmps-ys.length) (.v undef),up:=st.tmps++st.up } { tmps:=vs.toArray++Array.replicate (fn.ntmps-vs.toArray.size) undef,defers:=[] } w:=by
  refine⟨⟨rfl,r.defers.2⟩,by simp[hargs.1],?_,r.below,r.di,r.dq,r.cu,r.ca,r.own,r.cA,r.tail,r.tok,r.apart,r.dB,⟨?_,?_⟩,r.hole⟩
  ·intro i x v h1 h2
   rcases ia _ _ _ _ h1 with⟨l1,h1⟩|⟨l1,h1⟩
   ·have:i<vs.length:=by rw[hargs.1];exact l1
    rw[Array.getElem?_append_left (by simpa using this)] at h2
    exact hargs.2 i x v h1 (by simpa using h2)
   ·have hlen:vs.length=ys.length:=hargs.1
    rw[Array.getElem?_append_right (by simp;omega)] at h2
    have e1:x= .v undef:=by
     have:=List.mem_of_getElem? h1
     simp only[List.mem_replicate] at this
     exact this.2
    have e2:v=undef:=by
     have:=Array.mem_of_getElem? h2
     simp only[Array.mem_replicate] at this
     exact this.2
    subst e1;subst e2
    exact .base (.v _)
  ·show(a.tmps.toList++im0.ex).length=(st.tmps++st.up).length
   rw[List.length_append,List.length_append,r.up.1,Array.length_toList,r.size]
  ·intro i x v h1 h2
   have h1:(st.tmps++st.up)[i]?=some x:=h1
   have h2:(a.tmps.toList++im0.ex)[i]?=some v:=h2
   rcases ia _ _ _ _ h1 with⟨l1,h1⟩|⟨l1,h1⟩
   ·rw[List.getElem?_append_left (by rw[Array.length_toList,r.size];exact l1)] at h2
    exact r.tmps i x v h1 (by simpa using h2)
   ·rw[List.getElem?_append_right (by rw[Array.length_toList,r.size];exact l1),Array.length_toList,r.size] at h2
    exact r.up.2 _ x v h1 h2
 have hsz:vs.toArray.size=vs.length:=by simp
 refine(calls_of_wp (R:=fun e w'=>∃v,e= .returned v∧K' (a.put dst v) w') hf hb ?_).mono ?_
 ·refine wp_mono (h w0 ⟨im0.im,a.tmps.toList++im0.ex,im0.dr⟩ _ _ w h0 hG hrel) fun e a' w' hh=>?_
  obtain⟨c',st',r',q⟩:=hh
  have fin:(st'.up=st.tmps++st.up∧jg E.P st' fn.results.toList fun l'=>an E ops l Q (St.put { st' with tmps:=st.tmps,up:=st.up } dst (gW l')))→
   a'.defers=[]∧∃v,(results fn a'.tmps).run E.P w'= .ok v w'∧∃v',Ending.returned v= .returned v'∧K' (a.put dst v') w':=by
   rintro⟨hup,q⟩
   obtain⟨l',us',h1,h2,h3⟩:=lg r' q
   refine⟨r'.defers.1,_,CK h1,_,rfl,hK' _ _ ?_⟩
   have hup1:=r'.up.1
   have hup2:=r'.up.2
   rw[hup] at hup1 hup2
   have hup2':∀(i:Nat) (x:AV) (v:Value),(st.tmps++st.up)[i]?=some x→(a.tmps.toList++im0.ex)[i]?=some v→VR c' x v:=hup2
   have rb:Rel w0 im0 c' { st' with tmps:=st.tmps,up:=st.up } a w':=by
    refine⟨r.defers,r.size,fun i x v e1 e2=>?_,r'.below,r'.di,r'.dq,r'.cu,r'.ca,r'.own,r'.cA,r'.tail,r'.tok,r'.apart,r'.dB,⟨r.up.1,fun i x v e1 e2=>?_⟩,r'.hole⟩
    ·have e1:st.tmps[i]?=some x:=e1
     have hlt:i<st.tmps.length:=(List.getElem?_eq_some_iff.1 e1).1
     refine hup2' i x v ?_ ?_
     ·rw[List.getElem?_append_left hlt];exact e1
     ·rw[List.getElem?_append_left (by rw[Array.length_toList,r.size];exact hlt)];simpa using e2
    ·have e1:st.up[i]?=some x:=e1
     refine hup2' (st.tmps.length+i) x v ?_ ?_
     ·rw[List.getElem?_append_right ab]
      rw[Nat.add_sub_cancel_left];exact e1
     ·rw[List.getElem?_append_right (by rw[Array.length_toList,r.size];omega),Array.length_toList,r.size,Nat.add_sub_cancel_left];exact e2
   refine h3 w0 im0 c' _ w' h0 hG (rb.put dst ?_)
   cases l' with
   |nil=>
    have:us'=[]:=List.eq_nil_of_length_eq_zero h2.1
    subst this
    exact .aC [] [] rfl aD
   |cons x l'=>cases l' with
    |nil=>
     cases us' with
     |nil=>have:=h2.1;simp at this
     |cons u us'=>
      have:us'=[]:=List.eq_nil_of_length_eq_zero (by have:=h2.1;simpa using this)
      subst this
      exact h2.2 0 x u rfl rfl
    |cons z l'=>
     have hl2:us'.length=(x::z::l').length:=h2.1
     rw[if_neg (by rw[hl2];simp)]
     exact .aC _ us' h2.1 h2.2
  cases e<;>simp only[bR] at q<;>first|exact q.elim|skip
  case normal=>exact fin q
  case ret=>exact fin q
 ·rintro e w' ⟨v,rfl,hk⟩;exact hk
end
end Go.Abs
namespace Go.Abs
open Go Go.RowKit
end Go.Abs
namespace Go.Abs
open Go Go.RowKit
section
variable{w0:World}{im0:dt}{c:Ctx}{st:St}{a:Act}{w:World}
def gT(im:Im)(w:World)(g n:Nat):Im:=fun b o=>if b=g then(if o<n then w.cell? ⟨g,o,none⟩ else none) else im b o
theorem Rel.sm(r:Rel w0 im0 c st a w){id g k:Nat}{es:List AV}(h1:c.β[id]?=some (some (g,k)))(h2:st.own[id]?=some (some es)){es':List AV}{n:Nat}(hes:es'=es.take n)(hc:∀e∈es',∀x∈e.leaves,x.dW=some x):
 ∃c',c.le c'∧c'.β=c.β∧c'.tk=c.tk∧(∀o,es'.length*k≤o→c'.im g o=none)∧Rel w0 im0 c' { st with own:=st.own.set id none } a w∧∃cv:Nat→Nat→Value,
  (∀(i:Nat) (e:AV),es'[i]?=some e→e.leaves.length=k)∧
  (∀(i:Nat) (e:AV) (j:Nat) (y:AV),es'[i]?=some e→e.leaves[j]?=some y→c'.im g (i*k+j)=some (cv i j))∧
  (∀(i:Nat) (e:AV) (j:Nat) (y:AV),es'[i]?=some e→e.leaves[j]?=some y→(cv i j).oneCell'=true)∧
  ∀(i:Nat) (e:AV) (j:Nat) (y:AV),es'[i]?=some e→e.leaves[j]?=some y→aX c'.im y (cv i j):=by
 have ho:=r.own id g k es h1 h2
 obtain⟨cs,ty,lo,hi,hblk,_,hsz,hlv,hcell⟩:=ho.bc
 have hsub:∀(i:Nat) (e:AV),es'[i]?=some e→es[i]?=some e:=fun i e he=>by
  rw[hes,List.getElem?_take] at he
  split at he
  ·exact he
  ·simp at he
 have hle:c.im.le (gT c.im w g (es'.length*k)):=by
  intro b o v hv
  unfold gT
  rw[if_neg (fun e=>by subst e;rw[ho.im o] at hv;simp at hv)]
  exact hv
 have hcle:c.le ⟨c.β,c.tk,gT c.im w g (es'.length*k)⟩:=⟨fun _ _ h=>h,fun t T h=>⟨T,h,rfl,.inl rfl⟩,hle⟩
 have hgo:∀b o,b≠g→gT c.im w g (es'.length*k) b o=c.im b o:=fun b o hb=>by unfold gT;rw[if_neg hb]
 refine⟨⟨c.β,c.tk,gT c.im w g (es'.length*k)⟩,hcle,rfl,rfl,fun o ho'=>?_,?_,fun i j=>cs.getD (i*k+j) undef,fun i e he=>hlv i e (hsub i e he),?_,?_,?_⟩
 ·show gT c.im w g (es'.length*k) g o=none
  unfold gT
  rw[if_pos rfl,if_neg ab]
 ·refine⟨r.defers,r.size,fun i x v e1 e2=>(r.tmps i x v e1 e2).mono hcle,r.below,r.di.trans hle,fun b o hb=>?_,fun b o x hx=>?_,by simp[r.ca],fun i g' k' es2 e1 e2=>?_,r.cA,r.tail,fun t T b e1 e2=>?_,?_,fun g' cs' h=>(r.dB g' cs' h).mono hle,⟨r.up.1,fun i x v e1 e2=>(r.up.2 i x v e1 e2).mono hcle⟩,r.hole⟩
  ·show gT c.im w g (es'.length*k) b o=_
   rw[hgo b o (fun e=>by have:=ho.new;omega)];exact r.dq b o hb
  ·have hx:gT c.im w g (es'.length*k) b o=some x:=hx
   unfold gT at hx
   split at hx
   ·rename_i hb;subst hb
    split at hx
    ·exact hx
    ·simp at hx
   ·exact r.cu b o x hx
  ·have e2:(st.own.set id none)[i]?=some (some es2):=e2
   rw[List.getElem?_set] at e2
   by_cases hi':id=i
   ·subst hi';rw[if_pos rfl] at e2;split at e2<;>simp at e2
   ·rw[if_neg hi'] at e2
    have hne:=r.apart.oo i id g' k' g k es2 es e1 h1 e2 h2 (Ne.symm hi')
    exact(r.own i g' k' es2 e1 e2).mono hcle (fun o=>by show gT c.im w g (es'.length*k) g' o=none;rw[hgo g' o hne];exact(r.own i g' k' es2 e1 e2).im o) rfl
  ·have ht:=r.tok t T b e1 e2
   have hne:=r.apart.ot id t g k es T b h1 h2 e1 e2
   exact⟨ht.new,ht.room,fun o ho'=>by show gT c.im w g (es'.length*k) b o=none;rw[hgo b o (Ne.symm hne)];exact ht.im o ho',ht.bc⟩
  ·have conv:∀{i:Nat} {e:List AV},(st.own.set id none)[i]?=some (some e)→st.own[i]?=some (some e):=by
    intro i e he
    rw[List.getElem?_set] at he
    by_cases hi':id=i
    ·subst hi';rw[if_pos rfl] at he;split at he<;>simp at he
    ·rw[if_neg hi'] at he;exact he
   exact⟨fun i j g1 k1 g2 k2 e1 e2 a1 a2 a3 a4 hij=>r.apart.oo i j g1 k1 g2 k2 e1 e2 a1 a2 (conv a3) (conv a4) hij,fun i t g1 k1 e1 T b a1 a2 a3 a4=>r.apart.ot i t g1 k1 e1 T b a1 (conv a2) a3 a4,r.apart.tt⟩
 ·intro i e j y he hy
  have hlt:i*k+j<es'.length*k:=lZ (bN he) (by rw[←hlv i e (hsub i e he)];exact bN hy)
  show gT c.im w g (es'.length*k) g (i*k+j)=_
  unfold gT
  rw[if_pos rfl,if_pos hlt]
  obtain⟨v,hv,_⟩:=hcell i e j y (hsub i e he) hy
  simp[World.cell?,hblk,hv,Array.getD_eq_getD_getElem?]
 ·intro i e j y he hy
  obtain⟨v,hv,_,h1⟩:=hcell i e j y (hsub i e he) hy
  simp only[Array.getD_eq_getD_getElem?,hv,Option.getD_some]
  rcases h1 with rfl|h1
  ·have:=hc e (List.mem_of_getElem? he) _ (List.mem_of_getElem? hy)
   simp[AV.dW] at this
  ·exact h1
 ·intro i e j y he hy
  obtain⟨v,hv,hvr,h1⟩:=hcell i e j y (hsub i e he) hy
  simp only[Array.getD_eq_getD_getElem?,hv,Option.getD_some]
  exact((pA hvr (hc e (List.mem_of_getElem? he) y (List.mem_of_getElem? hy))).1).mono hle
end
section
variable{E:Env}{c:Code}{Q:Exit→St→Prop}{s:St}
theorem Rel.po{w0:World}{im0:dt}{c:Ctx}{st:St}{a:Act}{w:World}(r:Rel w0 im0 c st a w){i:Nat}{y:AV}(h:∀v,a.tmps[i]?=some v→VR c y v):Rel w0 im0 c { st with tmps:=st.tmps.set i y } a w:=by
 refine⟨r.defers,by simp[r.size],fun j x v h1 h2=>?_,r.below,r.di,r.dq,r.cu,r.ca,r.own,r.cA,r.tail,r.tok,r.apart,r.dB,r.up,r.hole⟩
 have h1:(st.tmps.set i y)[j]?=some x:=h1
 rw[List.getElem?_set] at h1
 by_cases hj:i=j
 ·subst hj
  rw[if_pos rfl] at h1
  split at h1
  ·simp only[Option.some.injEq] at h1;subst h1;exact h v h2
  ·simp at h1
 ·rw[if_neg hj] at h1;exact r.tmps j x v h1 h2
theorem Rel.ma{w0:World}{im0:dt}{c:Ctx}{st:St}{a:Act}{w:World}(r:Rel w0 im0 c st a w)(id:Nat):Rel w0 im0 c { st with own:=st.own.set id none } a w:=by
 have conv:∀{i:Nat} {e:List AV},(st.own.set id none)[i]?=some (some e)→st.own[i]?=some (some e):=by
  intro i e he
  rw[List.getElem?_set] at he
  by_cases hi':id=i
  ·subst hi';rw[if_pos rfl] at he;split at he<;>simp at he
  ·rw[if_neg hi'] at he;exact he
 exact⟨r.defers,r.size,r.tmps,r.below,r.di,r.dq,r.cu,by simp[r.ca],fun i g k es h1 h2=>r.own i g k es h1 (conv h2),r.cA,r.tail,r.tok,
  ⟨fun i j g1 k1 g2 k2 e1 e2 a1 a2 a3 a4 hij=>r.apart.oo i j g1 k1 g2 k2 e1 e2 a1 a2 (conv a3) (conv a4) hij,fun i t g1 k1 e1 T b a1 a2 a3 a4=>r.apart.ot i t g1 k1 e1 T b a1 (conv a2) a3 a4,r.apart.tt⟩,r.dB,r.up,r.hole⟩
end
end Go.Abs
end
