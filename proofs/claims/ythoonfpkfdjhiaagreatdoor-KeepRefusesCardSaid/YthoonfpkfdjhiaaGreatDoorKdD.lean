/- Texts of one chain, put together (Lc, Ld). -/
import Derived.Test.YthoonfpkfdjhiaaGreatDoorKdC
import Derived.ProofKit
import Derived.Lib.UnsafeStr
import Derived.Test.YthoonfpkfdjhiaaGreatDoorKdA
set_option linter.unusedVariables false
set_option linter.unusedSimpArgs false
set_option maxHeartbeats 16000000
set_option maxRecDepth 8000
section
namespace Go.az
open Go Go.RowKit
def aP(q:Option Bool)(E:Env)(ops:Array Oper)(o:Oper)(l:List Oper)(st:St)(K:St→Prop):Prop:=
 ∃b,q=some b∧(b=true→eh E o st fun s=>cD E ops l s K)∧(b=false→cD E ops l (st.put o.dst (.v undef)) K)
def cQ(F:(AV→Prop)→Prop)(E:Env)(ops:Array Oper)(d:Option Tmp)(l:List Oper)(st:St)(K:St→Prop):Prop:=F fun y=>cD E ops l (st.put d y) K
def eQ(F:(St→AV→Prop)→Prop)(E:Env)(ops:Array Oper)(d:Option Tmp)(l:List Oper)(K:St→Prop):Prop:=F fun s y=>cD E ops l (s.put d y) K
def fO(F:(St→Prop)→Prop)(E:Env)(ops:Array Oper)(d:Option Tmp)(l:List Oper)(K:St→Prop):Prop:=F fun s=>cD E ops l (s.put d (.v undef)) K
def ak(E:Env)(ops:Array Oper)(f:AV)(xs:List AV)(d:Option Tmp)(l:List Oper)(st:St)(K:St→Prop):Prop:=oH E st f xs fun s y=>cD E ops l (s.put d y) K
def dy(E:Env)(ops:Array Oper)(o:Oper)(l:List Oper)(st:St)(K:St→Prop):Prop:=eh E o st fun s=>cD E ops l s K
def tM(u:Option TypeDesc)(E:Env)(ops:Array Oper)(o:Oper)(s d:TypeId)(x:Operand)(l:List Oper)(st:St)(K:St→Prop):Prop:=
 match u with
 |some (.slice _)=>eQ (fun k=>rG E.P s d (st.ev x) st k) E ops o.dst l K
 |_=>cQ (fun k=>oI E.P s d (st.ev x) k) E ops o.dst l st K
@[congr] theorem cQ.congr{F G:(AV→Prop)→Prop}{E:Env}{ops:Array Oper}{d:Option Tmp}{l:List Oper}{st:St}{K:St→Prop}(h:∀k,F k=G k):cQ F E ops d l st K=cQ G E ops d l st K:=by rw[funext h]
@[congr] theorem eQ.congr{F G:(St→AV→Prop)→Prop}{E:Env}{ops:Array Oper}{d:Option Tmp}{l:List Oper}{K:St→Prop}(h:∀k,F k=G k):eQ F E ops d l K=eQ G E ops d l K:=by rw[funext h]
@[congr] theorem fO.congr{F G:(St→Prop)→Prop}{E:Env}{ops:Array Oper}{d:Option Tmp}{l:List Oper}{K:St→Prop}(h:∀k,F k=G k):fO F E ops d l K=fO G E ops d l K:=by rw[funext h]
section
variable{E:Env}{ops:Array Oper}{o:Oper}{d:Option Tmp}{l:List Oper}{st:St}{K:St→Prop}
@[go_sem] theorem abU:cD E ops [] st K=K st:=rfl
@[go_sem] theorem abT:cD E ops (o::l) st K=aP (eE ops o st) E ops o l st K:=rfl
@[go_sem] theorem aP.yes:aP (some true) E ops o l st K=dy E ops o l st K:=by simp[aP,dy]
@[go_sem] theorem aP.no:aP (some false) E ops o l st K=cD E ops l (st.put o.dst (.v undef)) K:=by simp[aP]
theorem aP.split{b:Bool}(h1:b=true→dy E ops o l st K)(h2:b=false→cD E ops l (st.put o.dst (.v undef)) K):aP (some b) E ops o l st K:=⟨b,rfl,h1,h2⟩
theorem aP.dk{b:Bool}(h1:b=true→cD E ops l (st.put o.dst (.v undef)) K)(h2:b=false→dy E ops o l st K):aP (some (!b)) E ops o l st K:=⟨!b,rfl,fun h=>h2 (by simpa using h),fun h=>h1 (by simpa using h)⟩
@[go_sem] theorem cQ.at{x:AV}:cQ (fun k=>k x) E ops d l st K=cD E ops l (st.put d x) K:=rfl
@[go_sem] theorem cQ.and{p:Prop}{F:(AV→Prop)→Prop}:cQ (fun k=>p∧F k) E ops d l st K=(p∧cQ F E ops d l st K):=rfl
@[go_sem] theorem cQ.ex{α:Type}{F:α→(AV→Prop)→Prop}:cQ (fun k=>∃x,F x k) E ops d l st K=(∃x,cQ (F x) E ops d l st K):=rfl
@[go_sem] theorem cQ.all{p:Bool→Prop}{g:Bool→AV}:cQ (fun k=>∀b,p b→k (g b)) E ops d l st K=(∀b,p b→cD E ops l (st.put d (g b)) K):=rfl
@[go_sem] theorem cQ.none:cQ (fun _=>False) E ops d l st K=False:=rfl
@[go_sem] theorem eQ.at{s:St}{x:AV}:eQ (fun k=>k s x) E ops d l K=cD E ops l (s.put d x) K:=rfl
@[go_sem] theorem eQ.and{p:Prop}{F:(St→AV→Prop)→Prop}:eQ (fun k=>p∧F k) E ops d l K=(p∧eQ F E ops d l K):=rfl
@[go_sem] theorem eQ.ex{α:Type}{F:α→(St→AV→Prop)→Prop}:eQ (fun k=>∃x,F x k) E ops d l K=(∃x,eQ (F x) E ops d l K):=rfl
@[go_sem] theorem eQ.none:eQ (fun _=>False) E ops d l K=False:=rfl
@[go_sem] theorem fO.at{s:St}:fO (fun k=>k s) E ops d l K=cD E ops l (s.put d (.v undef)) K:=rfl
@[go_sem] theorem fO.and{p:Prop}{F:(St→Prop)→Prop}:fO (fun k=>p∧F k) E ops d l K=(p∧fO F E ops d l K):=rfl
@[go_sem] theorem fO.ex{α:Type}{F:α→(St→Prop)→Prop}:fO (fun k=>∃x,F x k) E ops d l K=(∃x,fO (F x) E ops d l K):=rfl
@[go_sem] theorem fO.none:fO (fun _=>False) E ops d l K=False:=rfl
theorem ak.of{g:FuncId}{caps xs ys:List AV}{R:AV→List Nat→Prop}(hc:ai E g ys R)(hb:ar E.P g=true)(hy:me (xs++caps)=some ys)
 (h:∀r t,R r t→cD E ops l (St.put { st with tk:=st.tk++t } d (r.shift st.tk.length)) K):ak E ops (.fn g caps) xs d l st K:=⟨hb,.inl ⟨ys,hy,R,hc,h⟩⟩
theorem ak.snap{g:FuncId}{caps xs ys:List AV}{R:AV→List Nat→Prop}(hc:ai E g ys R)(hb:ar E.P g=true)(hr:st.bR=none)(hy:ij (iH st.own) (xs++caps) ys)
 (h:∀r t,R r t→j9 t r∧cD E ops l (St.put { st with tk:=st.tk++t } d (r.shift st.tk.length)) K):ak E ops (.fn g caps) xs d l st K:=⟨hb,.inr ⟨hr,ys,hy,R,hc,.inl h⟩⟩
theorem ak.take{g:FuncId}{caps xs ys:List AV}{R:AV→List Nat→Prop}(hc:ai E g ys R)(hb:ar E.P g=true)(hr:st.bR=none)(hy:ij (iH st.own) (xs++caps) ys)
 (h:∀r tks,R r tks→∃t k es,r= .sl (some t) k es∧tks[t]?=some es.length∧(∀e∈es,e.leaves.length=k∧∀y∈e.leaves,∃z,y= .v z)∧
   ∀m,cD E ops l (St.put { st with own:=st.own++[some (es++spare k m)] } d (.mu st.own.length k 0 es.length (es.length+m))) K):ak E ops (.fn g caps) xs d l st K:=⟨hb,.inr ⟨hr,ys,hy,R,hc,.inr h⟩⟩
theorem ak.one{g:FuncId}{caps xs ys:List AV}{x:AV}(hc:ai E g ys fun r t=>r=x∧t=[])(hb:ar E.P g=true)(hy:me (xs++caps)=some ys)
 (h:cD E ops l (st.put d (x.shift st.tk.length)) K):ak E ops (.fn g caps) xs d l st K:=ak.of hc hb hy fun r t ⟨h1,h2⟩=>by
 subst h1;subst h2
 rw[List.append_nil];exact h
variable{ty:TypeId}{pos:String}{after:Array Edge}{guard:Option (Nat×Bool)}
@[go_sem] theorem aco{t:TypeId}:dy E ops ⟨d,.alloc t,ty,pos,after,guard⟩ l st K=eQ (fun k=>iE E.P t d st k) E ops d l K:=rfl
@[go_sem] theorem acs{t:TypeId}{x:Operand}:dy E ops ⟨d,.box t x,ty,pos,after,guard⟩ l st K=eQ (fun k=>rE (st.ev x) st k) E ops d l K:=rfl
@[go_sem] theorem acN{t:TypeId}{x y:Operand}:dy E ops ⟨d,.store t x y,ty,pos,after,guard⟩ l st K=fO (fun k=>oK E.P t (st.ev x) (st.ev y) st k) E ops d l K:=rfl
@[go_sem] theorem acI{t:TypeId}{n:Nat}{ps:Array (Nat×Operand)}:dy E ops ⟨d,.buildSlice t n ps,ty,pos,after,guard⟩ l st K=eQ (fun k=>qg E.P t n (fS st ps) st k) E ops d l K:=rfl
@[go_sem] theorem acw{s t:TypeId}{x:Operand}:dy E ops ⟨d,.convert s t x,ty,pos,after,guard⟩ l st K=tM (E.P.underlying t) E ops ⟨d,.convert s t x,ty,pos,after,guard⟩ s t x l st K:=by
 simp only[dy,eh,tM]
 generalize E.P.underlying t=u
 cases u with
 |none=>rfl
 |some u=>cases u<;>rfl
@[go_sem] theorem acp{t tx:TypeId}{x y:Operand}:dy E ops ⟨d,.call ⟨.builtin .append,#[x,y],#[t,tx]⟩,ty,pos,after,guard⟩ l st K=eQ (fun k=>p8 E.P t tx (st.ev x) (st.ev y) st k) E ops d l K:=rfl
@[go_sem] theorem acv{f:Operand}{xs:Array Operand}{ts:Array TypeId}:dy E ops ⟨d,.call ⟨.value f,xs,ts⟩,ty,pos,after,guard⟩ l st K=ak E ops (st.ev f) (xs.toList.map st.ev) d l st K:=rfl
@[go_sem] theorem acC{xs:Array Operand}{ts:Array TypeId}:dy E ops ⟨d,.call ⟨.builtin .len,xs,ts⟩,ty,pos,after,guard⟩ l st K=cQ (fun k=>cI E.P st (.call ⟨.builtin .len,xs,ts⟩) k) E ops d l st K:=rfl
@[go_sem] theorem acH{xs:Array Operand}{ts:Array TypeId}:dy E ops ⟨d,.call ⟨.builtin .min,xs,ts⟩,ty,pos,after,guard⟩ l st K=cQ (fun k=>cI E.P st (.call ⟨.builtin .min,xs,ts⟩) k) E ops d l st K:=rfl
@[go_sem] theorem acG{xs:Array Operand}{ts:Array TypeId}:dy E ops ⟨d,.call ⟨.builtin .max,xs,ts⟩,ty,pos,after,guard⟩ l st K=cQ (fun k=>cI E.P st (.call ⟨.builtin .max,xs,ts⟩) k) E ops d l st K:=rfl
@[go_sem] theorem acJ{x:Operand}:dy E ops ⟨d,.move x,ty,pos,after,guard⟩ l st K=cQ (fun k=>cI E.P st (.move x) k) E ops d l st K:=rfl
@[go_sem] theorem acq{x:Operand}:dy E ops ⟨d,.assign x,ty,pos,after,guard⟩ l st K=cQ (fun k=>cI E.P st (.assign x) k) E ops d l st K:=rfl
@[go_sem] theorem acL{x y z:Operand}:dy E ops ⟨d,.pick x y z,ty,pos,after,guard⟩ l st K=cQ (fun k=>cI E.P st (.pick x y z) k) E ops d l st K:=rfl
@[go_sem] theorem acD{t:TypeId}{x:Operand}:dy E ops ⟨d,.load t x,ty,pos,after,guard⟩ l st K=cQ (fun k=>cI E.P st (.load t x) k) E ops d l st K:=rfl
@[go_sem] theorem acK{x:Operand}:dy E ops ⟨d,.nilCheck x,ty,pos,after,guard⟩ l st K=cQ (fun k=>cI E.P st (.nilCheck x) k) E ops d l st K:=rfl
@[go_sem] theorem acr{b:BinOp}{t:TypeId}{x y:Operand}{u:TypeId}:dy E ops ⟨d,.binOp b t x y u,ty,pos,after,guard⟩ l st K=cQ (fun k=>cI E.P st (.binOp b t x y u) k) E ops d l st K:=rfl
@[go_sem] theorem acO{u:UnOp}{t:TypeId}{x:Operand}:dy E ops ⟨d,.unOp u t x,ty,pos,after,guard⟩ l st K=cQ (fun k=>cI E.P st (.unOp u t x) k) E ops d l st K:=rfl
@[go_sem] theorem acM{t:TypeId}{x:Operand}{lo hi mx:Option Operand}:dy E ops ⟨d,.slice t x lo hi mx,ty,pos,after,guard⟩ l st K=cQ (fun k=>cI E.P st (.slice t x lo hi mx) k) E ops d l st K:=rfl
@[go_sem] theorem acz{t:TypeId}{x:Operand}{f:Nat}:dy E ops ⟨d,.fieldAddr t x f,ty,pos,after,guard⟩ l st K=cQ (fun k=>cI E.P st (.fieldAddr t x f) k) E ops d l st K:=rfl
@[go_sem] theorem acy{t:TypeId}{x:Operand}{f:Nat}:dy E ops ⟨d,.field t x f,ty,pos,after,guard⟩ l st K=cQ (fun k=>cI E.P st (.field t x f) k) E ops d l st K:=rfl
@[go_sem] theorem acB{t:TypeId}{x i:Operand}:dy E ops ⟨d,.indexAddr t x i,ty,pos,after,guard⟩ l st K=cQ (fun k=>cI E.P st (.indexAddr t x i) k) E ops d l st K:=rfl
@[go_sem] theorem acA{t:TypeId}{x i:Operand}:dy E ops ⟨d,.index t x i,ty,pos,after,guard⟩ l st K=cQ (fun k=>cI E.P st (.index t x i) k) E ops d l st K:=rfl
@[go_sem] theorem acx{x:Operand}{i:Nat}:dy E ops ⟨d,.extract x i,ty,pos,after,guard⟩ l st K=cQ (fun k=>cI E.P st (.extract x i) k) E ops d l st K:=rfl
@[go_sem] theorem acu{t:TypeId}{ps:Array (Nat×Operand)}:dy E ops ⟨d,.build t ps,ty,pos,after,guard⟩ l st K=cQ (fun k=>cI E.P st (.build t ps) k) E ops d l st K:=rfl
@[go_sem] theorem acF{t:TypeId}{x:Operand}:dy E ops ⟨d,.makeInterface t x,ty,pos,after,guard⟩ l st K=cQ (fun k=>cI E.P st (.makeInterface t x) k) E ops d l st K:=rfl
@[go_sem] theorem acE{f:Fn}{a b:Array Operand}:dy E ops ⟨d,.makeFunc f a b,ty,pos,after,guard⟩ l st K=cQ (fun k=>cI E.P st (.makeFunc f a b) k) E ops d l st K:=rfl
end
theorem DC{i:Nat}{E:Env}{ops:Array Oper}{st:St}{K:St→Prop}{p:cK}{o:Oper}(h:ops[i]?=some o):
 et E ops K (.take i p) st=∃b,eE ops o st=some b∧(b=true→eh E o st fun s=>et E ops K p s)∧(b=false→et E ops K p (st.put o.dst (.v undef))):=by
 show bH E ops i (et E ops K p) st=_
 unfold bH;rw[h]
theorem ql{E:Env}{ops:Array Oper}{i:Nat}{C:St→Prop}{st:St}:bH E ops i C st=cD E ops (ops[i]?).toList st C:=by
 unfold bH
 cases ops[i]?<;>rfl
@[go_sem] theorem ab9{E:Env}{ops:Array Oper}{st:St}{K:St→Prop}:et E ops K .done st=K st:=rfl
@[go_sem] theorem acd{E:Env}{ops:Array Oper}{st:St}{K:St→Prop}{i:Nat}{p:cK}:et E ops K (.take i p) st=cD E ops (ops[i]?).toList st (et E ops K p):=ql
@[go_sem] theorem acb{E:Env}{ops:Array Oper}{st:St}{K:St→Prop}{p:cK}:et E ops K (.fork p) st=et E ops K p st:=rfl
@[go_sem] theorem ab8{E:Env}{ops:Array Oper}{st:St}{K:St→Prop}{i:Nat}{p r:cK}:et E ops K (.alt i p r) st=(cD E ops (ops[i]?).toList st (et E ops K p)∧et E ops K r st):=by
 rw[←ql];rfl
@[go_sem] theorem aca{E:Env}{ops:Array Oper}{st:St}{K:St→Prop}:et E ops K .ends st=True:=rfl
attribute [go_sem] and_self lh St.ky iO Option.toList_some Option.toList_none
def cK.ofList:List Nat→cK
 |[]=> .done
 |i::is=> .take i (cK.ofList is)
def qS:List Oper→Nat→Option Oper
 |[],_=>none
 |x::_,0=>some x
 |_::xs,n+1=>qS xs n
theorem Au:∀(l:List Oper) (n:Nat),qS l n=l[n]?
 |[],_=>by simp[qS]
 |_::_,0=>rfl
 |_::xs,n+1=>by simp[qS,Au xs n]
def pI(ops:List Oper):List Nat→Option (List Oper)
 |[]=>some []
 |i::is=>match qS ops i,pI ops is with
  |some o,some l=>some (o::l)
  |_,_=>none
theorem ue{E:Env}{ops:List Oper}{K:St→Prop}:∀{is:List Nat} {l:List Oper} {st:St},pI ops is=some l→cD E ops.toArray l st K→et E ops.toArray K (cK.ofList is) st
 |[],l,st,h,hl=>by
  simp only[pI,Option.some.injEq] at h;subst h;exact hl
 |i::is,l,st,h,hl=>by
  simp only[pI] at h
  split at h
  ·rename_i o l' h1 h2
   simp only[Option.some.injEq] at h;subst h
   show et E ops.toArray K (.take i (cK.ofList is)) st
   rw[Au] at h1
   rw[DC (o:=o) (by simpa using h1)]
   obtain⟨b,h3,h4,h5⟩:=hl
   exact⟨b,h3,fun hb=>oU (h4 hb) fun s hs=>ue h2 hs,fun hb=>ue h2 (h5 hb)⟩
  ·simp at h
theorem aa.Wa{E:Env}{st:St}{id:Nat}{l:List Oper}{Q:Exit→St→Prop}(is:List Nat)(anc:List (List Nat))(ds:List Tmp)(hm:E.P.follows .mixedOrders=true)
 (hx:(gy l.toArray anc&&iv E.P l.toArray anc true (cK.ofList is) (Array.replicate l.toArray.size false) l.toArray.size)=true) (hd:ds.Nodup) {l':List Oper} (hl:pI l is=some l') (h:cD E l.toArray l' (st.ky ds) (lh (Q .normal))):aa E (.region id l.toArray true) Q st:=
 aa.vZ (cK.ofList is) anc ds hm hx hd (ue hl h)
theorem EA(b:Bool):(b==true)=b:=by cases b<;>rfl
theorem Ez(b:Bool):(b==false)=!b:=by cases b<;>rfl
attribute [go_sem] EA Ez Option.getD_some Option.getD_none List.getElem?_nil Nat.succ_eq_add_one
def aQ{α:Type}(f:Option α)(p:α→Prop):Prop:=∃y,f=some y∧p y
@[congr] theorem aQ.congr{α:Type}{f g:Option α}{p:α→Prop}(h:f=g):aQ f p=aQ g p:=by rw[h]
@[go_sem] theorem aQ.some{α:Type}{a:α}{p:α→Prop}:aQ (some a) p=p a:=by simp[aQ]
@[go_sem] theorem aQ.none{α:Type}{p:α→Prop}:aQ (none:Option α) p=False:=by simp[aQ]
@[go_sem ↓] theorem acQ{α:Type}{f:Option α}{p:α→Prop}:(∃y,f=Option.some y∧p y)=aQ f p:=rfl
def lf{α:Type}(f:Option (Option α))(p:α→Prop):Prop:=∃y,f=some (some y)∧p y
@[congr] theorem lf.congr{α:Type}{f g:Option (Option α)}{p:α→Prop}(h:f=g):lf f p=lf g p:=by rw[h]
@[go_sem] theorem lf.some{α:Type}{a:α}{p:α→Prop}:lf (some (some a)) p=p a:=by simp[lf]
@[go_sem ↓] theorem acR{α:Type}{f:Option (Option α)}{p:α→Prop}:(∃y,f=Option.some (Option.some y)∧p y)=lf f p:=rfl
theorem TW{k:IntKind}{n:Int}:(AV.v (.int k n)=AV.v .nilIface)=False:=by simp
theorem TT{b:Bool}:(AV.v (.bool b)=AV.v .nilIface)=False:=by simp
theorem T0{s:ByteArray}:(AV.v (.string s)=AV.v .nilIface)=False:=by simp
theorem TS{cs:List AV}:(AV.agg cs=AV.v .nilIface)=False:=by simp
theorem TX:(AV.aw=AV.v .nilIface)=False:=by simp
theorem TZ{t:Option Nat}{k:Nat}{es:List AV}:(AV.sl t k es=AV.v .nilIface)=False:=by simp
theorem TV{t:TypeId}{v:Value}:(AV.v (.iface t v)=AV.v .nilIface)=False:=by simp
theorem TY{i j k:Nat}:(AV.ptr i j k=AV.v .nilIface)=False:=by simp
theorem LR{x:Value}:(∃z,Operand.const x=Operand.const z)=True:=by simp
theorem LY{α:Type}{a:α}{p:α→Prop}:(∃y,some (some a)=some (some y)∧p y)↔p a:=by simp
@[go_sem] theorem aci{α:Type}{a:α}:(∃y,some a=some y)=True:=by simp
theorem CS{P:Program}{t:TypeId}{id idx off:Nat}{x:AV}{st:St}{K:St→Prop}:oK P t (.ptr id idx off) x st K↔
 ∃n,bf P t=some n∧∃es,st.own[id]?=some (some es)∧∃e,es[idx]?=some e∧x.plain=true∧x.leaves.all AV.eo=true∧x.leaves.length=n∧off+n≤e.leaves.length∧
  K { st with own:=st.own.set id (some (es.set idx (eZ e off x))) }:=by
 constructor
 ·rintro⟨n,es,e,h1,h2,h3,h4⟩;exact⟨n,h1,es,h2,e,h3,h4⟩
 ·rintro⟨n,h1,es,h2,e,h3,h4⟩;exact⟨n,es,e,h1,h2,h3,h4⟩
attribute [go_sem] kg tM TW TT T0 TS TX TZ TV TY LR LY CS Bool.not_not Nat.reduceEqDiff Nat.reduceMul Int.reduceToNat Int.reduceLE Int.reduceLT Nat.reduceLeDiff Int.cast_ofNat_Int
 Nat.one_ne_zero Int.reduceNeg Nat.succ_ne_zero Int.reduceEq Int.reduceNe Bool.false_eq_true Bool.true_eq_false Int.reduceAdd Int.reduceSub Int.zero_le_ofNat Int.toNat_zero Nat.zero_mul Nat.mul_one Nat.zero_le Nat.reduceLT
 Bool.not_eq_true' Bool.not_eq_false'
end Go.az
namespace Go.az
open Go Go.RowKit
def uZ:List Nat→List AV→List AV
 |[],l=>l
 |i::is,l=>uZ is (l.set i .any)
def vT:List (Nat×AV)→List AV→List AV
 |[],l=>l
 |p::ps,l=>vT ps (l.set p.1 p.2)
def St.at(st:St)(hv:List Nat)(ps:List (Nat×AV))(own:List (Option (List AV)))(tk:List Nat):St:={ st with tmps:=vT ps (uZ hv st.tmps),own:=own,tk:=tk }
theorem aa.mE{E:Env}{Q:Exit→St→Prop}{st:St}{ι:Type}{c:Code}(hv:List Nat)(ps:ι→List (Nat×AV))(I:ι→Prop)(μ:ι→Nat)(i:ι)
 (hw0:st.Wk (st.at hv (ps i) st.own st.tk)) (hI:I i)
 (round:∀i,I i→aa E c (jf (fun s'=>∃j,s'.Wk (st.at hv (ps j) st.own st.tk)∧I j∧μ j<μ i) Q) (st.at hv (ps i) st.own st.tk)):aa E (.loop c) Q st:=
 aa.z7 (fun i=>st.at hv (ps i) st.own st.tk) I μ i hw0 hI round
theorem aa.vr{E:Env}{Q:Exit→St→Prop}{st:St}{ι:Type}{c:Code}(hv:List Nat)(ps:ι→List (Nat×AV))(own:ι→List (Option (List AV)))(tk:ι→List Nat)(I:ι→Prop)(μ:ι→Nat)(i:ι)
 (hw0:st.Wk (st.at hv (ps i) (own i) (tk i))) (hI:I i)
 (round:∀i,I i→aa E c (jf (fun s'=>∃j,s'.Wk (st.at hv (ps j) (own j) (tk j))∧I j∧μ j<μ i) Q) (st.at hv (ps i) (own i) (tk i))):aa E (.loop c) Q st:=
 aa.z7 (fun i=>st.at hv (ps i) (own i) (tk i)) I μ i hw0 hI round
theorem abb{no nt:Nat}:jL no nt [] []=True:=rfl
theorem aba{no nt:Nat}{x y:AV}{xs ys:List AV}:jL no nt (x::xs) (y::ys)=((y= .any∨(y=x∧x.br no nt=true))∧jL no nt xs ys):=rfl
theorem aa9{no nt:Nat}{xs:List (Option (List AV))}:gh no nt xs []=True:=by cases xs<;>rfl
theorem aa8{no nt:Nat}{x y:Option (List AV)}{xs ys:List (Option (List AV))}:gh no nt (x::xs) (y::ys)=((y=none∨(y=x∧∀es,x=some es→∀e∈es,∀z∈e.leaves,z.br no nt=true))∧gh no nt xs ys):=rfl
theorem aa7{xs:List Nat}:jj xs []=True:=by cases xs<;>rfl
theorem aa6{x y:Nat}{xs ys:List Nat}:jj (x::xs) (y::ys)=(y=x∧jj xs ys):=rfl
theorem aa5{no nt:Nat}{x:List AV}:(∀es,some x=some es→∀e∈es,∀z∈e.leaves,z.br no nt=true)=(x.all fun e=>e.leaves.all fun z=>z.br no nt):=by
 simp[List.all_eq_true]
theorem aa4{no nt:Nat}:(∀es,(none:Option (List AV))=some es→∀e∈es,∀z∈e.leaves,z.br no nt=true)=True:=by simp
attribute [go_sem] St.at uZ vT St.Wk abb aba aa9 aa8 aa7 aa6 aa5 aa4 true_or or_true AV.br AV.ei AV.gN Bool.and_self
theorem ET{c a b:Bool}:(bif c then AV.v (.bool a) else AV.v (.bool b))=AV.v (.bool (bif c then a else b)):=by cases c<;>rfl
theorem EU{c a:Bool}:(bif c then a else false)=(c&&a):=by cases c<;>rfl
theorem EV{c b:Bool}:(bif c then true else b)=(c||b):=by cases c<;>rfl
attribute [go_sem] ET EU EV Bool.and_false Bool.false_and Bool.or_true Bool.true_or Bool.or_false Bool.false_or
theorem aN{x:Int}(h1:-9223372036854775808≤x)(h2:x≤9223372036854775807):IntKind.i64.wrap x=x:=by
 rw[IntKind.wrap_i64];omega
end Go.az
namespace Go.az
open Go Go.RowKit Go.ChangeShapes
section
variable{H:Type}{enc:TypeId×Value→H}{P:Program}
theorem Cq(hl:laidOutB P=true){W W':World}(hB:Go.RowKit.Below W.heap.size W W'):∀{ts:List TypeId} {vs:List Value} {ds:List (DataW H)} {ps:List MemPlace},
 (ts.all fun t=>P.readableRec t&&decide (t<P.types.size))=true→(∀x∈ps,x.block<W.heap.size)→DataW.TrodAll enc P W 0 (fun _=>true) true ts vs ds ps→
 DataW.TrodAll enc P W' 0 (fun b=>decide (b<W.heap.size)) true ts vs ds ps
 |[],[],[],ps,_,_,h=>h
 |t::ts,v::vs,d::ds,ps,hr,hlt,h=>by
  obtain⟨p,q,h1,h2,rfl⟩:=h
  simp only[List.all_cons,Bool.and_eq_true,decide_eq_true_eq] at hr
  exact⟨p,q,Go.RowKit.Below.trod hl hr.1.1 hr.1.2 h1 hB (fun x hx=>hlt x (List.mem_append_left _ hx)),Cq hl hB hr.2 (fun x hx=>hlt x (List.mem_append_right _ hx)) h2,rfl⟩
 |[],_::_,_,_,_,_,h=>by cases h
 |[],[],_::_,_,_,_,h=>by cases h
 |_::_,[],_,_,_,_,h=>by cases h
 |_::_,_::_,[],_,_,_,h=>by cases h
theorem RE{f:Func}{s:ChangeSpec}{apart fresh:Bool}{W W':World}{args:Array Value}{ds gs:List (DataW H)}{before:List MemPlace}{tb:TypeId}
 (hl:laidOutB P=true) (hr:(f.params.toList.all fun t=>P.readableRec t&&decide (t<P.types.size))=true) (hv:s.vars=[]) (ht:f.resultTypes= #[tb]) (hb:P.underlying tb=some .bool)
 (hW:DataW.Whole enc P f.params.toList s.vars apart W args.toList ds gs before) (hB:Go.RowKit.Below W.heap.size W W') (hfn:s.fn H (ds++gs)={ results:=[.lit (.bool true)],args:=ds,vars:=gs }):
 s.post enc P f apart fresh false false W args (.bool true) W':=by
 have hW':=hW
 obtain⟨p,q,hA,hV,rfl,_,_⟩:=hW
 rw[hv] at hV
 obtain⟨rfl,rfl⟩:=trodVars_none hV
 refine⟨ds,[],p++[],[],p,[],hW',?_,?_,?_,hB.frame _,fun h=>by cases h⟩
 ·rw[hfn,ht]
  exact⟨[],[],shut_bool hb true,rfl,rfl⟩
 ·rw[hfn]
  exact Cq hl hB hr (fun x hx=>hW'.lt x (by simpa using hx)) hA
 ·rw[hfn]
  rw[hv];rfl
end
end Go.az
namespace Go.az
open Go Go.RowKit Go.ChangeShapes Go.WideShapes
def gv(w:World):Im:=fun b o=>w.cell? ⟨b,o,none⟩
structure jJ(im:Im)(ls:List AV)(cs:List Value):Prop where
 len:cs.length=ls.length
 at':∀(i:Nat) (x:AV) (v:Value),ls[i]?=some x→cs[i]?=some v→aT im x v∧v.oneCell'=true∧x.leaves=[x]
def Reads{H:Type}(enc:TypeId×Value→H)(P:Program)(t:TypeId)(k:Nat)(S:List AV→Prop):Prop:=
 ∀(w:World) (base:Nat) (spare:Nat→Bool) (held:Bool) (fuel:Nat) (cs:List Value) (x:DataW H×List MemPlace),DataW.trod enc P w base spare held fuel t cs=some x→∃ls,S ls∧ls.length=k∧jJ (gv w) ls cs
section
variable{H:Type}{enc:TypeId×Value→H}{P:Program}{t:TypeId}
theorem jJ.one{im:Im}{x:AV}{v:Value}(h:aT im x v)(h1:v.oneCell'=true)(h2:x.leaves=[x]):jJ im [x] [v]:=by
 refine⟨rfl,fun i y u e1 e2=>?_⟩
 cases i with
 |zero=>simp only[List.getElem?_cons_zero,Option.some.injEq] at e1 e2;subst e1;subst e2;exact⟨h,h1,h2⟩
 |succ i=>simp at e1
theorem dU{kd:IntKind}(ht:P.underlying t=some (.int kd)):Reads enc P t 1 fun ls=>∃n,(Lit.int kd n).wf=true∧ls=[.v (.int kd n)]:=fun w base spare held fuel cs x h=>by
 obtain⟨n,rfl,_,hw⟩:=DataW.trod_int ht h
 exact⟨_,⟨n,hw,rfl⟩,rfl,.one (.v _) rfl rfl⟩
theorem mP(ht:P.underlying t=some .bool):Reads enc P t 1 fun ls=>∃b:Bool,ls=[bl b]:=fun w base spare held fuel cs x h=>by
 obtain⟨b,rfl,_⟩:=DataW.trod_bool ht h
 exact⟨_,⟨b,rfl⟩,rfl,.one (.v _) rfl rfl⟩
theorem eN(ht:P.underlying t=some .string):Reads enc P t 1 fun ls=>∃l:List UInt8,l.length≤maxLen∧ls=[str l]:=fun w base spare held fuel cs x h=>by
 obtain⟨s,rfl,_,hw⟩:=DataW.trod_string ht h
 have e:(⟨s.data.toList.toArray⟩:ByteArray)=s:=by cases s;simp
 refine⟨[str s.data.toList],⟨s.data.toList,by simpa using hw,rfl⟩,rfl,.one ?_ rfl rfl⟩
 have h0:aT (gv w) (.v (.string s)) (.string s):= .v _
 rw[←e] at h0 ⊢
 simpa using h0
def lC:Bool→List AV→AV
 |true,ls=> .agg ls
 |false,ls=>ls.headD .any
theorem LF{ag:Bool}{ls:List AV}{im:Im}{cs:List Value}(h:jJ im ls cs)(hk:ag=false→ls.length=1):(lC ag ls).leaves=ls:=by
 cases ag with
 |true=>rfl
 |false=>
  obtain⟨x,rfl⟩:∃x,ls=[x]:=by
   cases ls with
   |nil=>simp at hk
   |cons x l=>cases l with
    |nil=>exact⟨x,rfl⟩
    |cons=>simp at hk
  have hc:∃v,cs=[v]:=by
   have:=h.len
   cases cs with
   |nil=>simp at this
   |cons v l=>cases l with
    |nil=>exact⟨v,rfl⟩
    |cons=>simp at this
  obtain⟨v,rfl⟩:=hc
  exact(h.at' 0 x v rfl rfl).2.2
theorem y8{α:Type}{Q:Nat→α→Prop}:∀(n:Nat),(∀i,i<n→∃p,Q i p)→∃L:List α,L.length=n∧∀(i:Nat) (p:α),L[i]?=some p→Q i p
 |0,_=>⟨[],rfl,by simp⟩
 |m+1,h=>by
  obtain⟨L,hL,hL2⟩:=y8 m (fun i hi=>h i ab)
  obtain⟨q,g⟩:=h m ab
  refine⟨L++[q],by simp[hL],fun i p hp=>?_⟩
  rcases qD _ _ _ _ hp with⟨_,hp⟩|⟨hi,hp⟩
  ·exact hL2 i p hp
  ·have:i=m:=by
    have:=(List.getElem?_eq_some_iff.1 hp).1
    simp at this
    omega
   subst this
   rw[hL] at hp
   simp at hp
   subst hp
   exact g
theorem V5{e:TypeId}{k:Nat}{S:List AV→Prop}(ag:Bool)(ht:P.underlying t=some (.slice e))(hc:P.cellsOf e=k)(hk:0<k)(hag:ag=false→k=1)(he:Reads enc P e k S):
 Reads enc P t 1 fun ls=>ls=[.aw]∨∃es:List AV,es.length≤maxLen∧(∀x∈es,∃l,S l∧x=lC ag l)∧ls=[.sl none k es]:=fun w base spare held fuel cs x h=>by
 rcases DataW.trod_slice ht h with⟨rfl,_⟩|⟨a,len,cap,elems,rest,n,_,rfl,_,hb,hl,hm,hlen,hel,_⟩
 ·exact⟨_,.inl rfl,rfl,.one .aw rfl rfl⟩
 ·
  have h1:∀i,i<len→∃ls cs,S ls∧ls.length=k∧jJ (gv w) ls cs∧∀j,j<k→w.cell? ((a.add (i*k)).add j)=cs[j]?:=fun i hi=>by
   have h2:=hel i hi
   rw[hc] at h2
   have h3:i<elems.length:=by omega
   rw[List.getElem?_eq_getElem h3] at h2
   cases hcs:w.cells? base (a.add (i*k)) k with
   |none=>rw[hcs] at h2;simp at h2
   |some cs=>
    rw[hcs] at h2
    obtain⟨ls,g1,g2,g3⟩:=he w base spare held n cs _ h2
    exact⟨ls,cs,g1,g2,g3,(World.cells?_some hcs).2.2⟩
  have h4:=y8 (Q:=fun i p=>S p.1∧p.1.length=k∧jJ (gv w) p.1 p.2∧∀j,j<k→w.cell? ((a.add (i*k)).add j)=p.2[j]?) len (fun i hi=>let⟨ls,cs,g⟩:=h1 i hi;⟨(ls,cs),g⟩)
  obtain⟨L,hL,hL2⟩:=h4
  refine⟨[.sl none k (L.map fun p=>lC ag p.1)],.inr ⟨_,by simp[hL];omega,?_,rfl⟩,rfl,.one ?_ rfl rfl⟩
  ·intro x hx
   obtain⟨p,hp,rfl⟩:=List.mem_map.1 hx
   obtain⟨i,hi⟩:=List.mem_iff_getElem?.1 hp
   exact⟨p.1,(hL2 i p hi).1,rfl⟩
  ·have hln:∀(i:Nat) (p:List AV×List Value),L[i]?=some p→(lC ag p.1).leaves=p.1:=fun i p hp=>LF (hL2 i p hp).2.2.1 (fun e=>by rw[(hL2 i p hp).2.1];exact hag e)
   by_cases h0:len=0
   ·have hnil:L=[]:=List.eq_nil_of_length_eq_zero ab
    subst hnil;subst h0
    exact .de k (some a) cap
   ·
    have hspot:a.spot=none:=by
     obtain⟨p,hp⟩:∃p,L[0]?=some p:=⟨L[0]' ab,List.getElem?_eq_getElem _⟩
     obtain⟨_,g2,g3,g4⟩:=hL2 0 p hp
     have g5:=g4 0 hk
     have g6:0<p.2.length:=by rw[g3.len,g2];exact hk
     rw[List.getElem?_eq_getElem g6] at g5
     have:=World.cell?_spot g5
     simpa[Addr.add] using this
    obtain⟨b,off,spot⟩:=a
    simp only at hspot;subst hspot
    have:=aT.sl (im:=gv w) k (L.map fun p=>lC ag p.1) b off cap (fun i j=>(((L[i]?).bind fun p=>p.2[j]?).getD undef)) (by simp[hL];exact hl) ?_ ?_ ?_ ?_
    ·simpa[hL] using this
    ·intro i e he
     rw[List.getElem?_map] at he
     cases hp:L[i]? with
     |none=>simp[hp] at he
     |some p=>simp only[hp,Option.map_some,Option.some.injEq] at he;subst he;rw[hln i p hp];exact(hL2 i p hp).2.1
    all_goals
     intro i e j c he hc'
     rw[List.getElem?_map] at he
     cases hp:L[i]? with
     |none=>simp[hp] at he
     |some p=>
      simp only[hp,Option.map_some,Option.some.injEq] at he;subst he
      rw[hln i p hp] at hc'
      obtain⟨_,g2,g3,g4⟩:=hL2 i p hp
      have hj:j<k:=by rw[←g2];exact(List.getElem?_eq_some_iff.1 hc').1
      have hj2:j<p.2.length:=by rw[g3.len];exact(List.getElem?_eq_some_iff.1 hc').1
      have g5:=g4 j hj
      rw[List.getElem?_eq_getElem hj2] at g5
      have g6:=g3.at' j c _ hc' (List.getElem?_eq_getElem hj2)
      simp only[Option.bind_some,List.getElem?_eq_getElem hj2,Option.getD_some]
      first
       |exact g6.1
       |exact g6.2.1
       |(have e1:(Addr.add ⟨b,off,none⟩ (i*k)).add j=⟨b,off+i*k+j,none⟩:=by rw[add_plain,add_plain]
         rw[e1] at g5;exact g5)
theorem jJ.app{im:Im}{a b:List AV}{cs ds:List Value}(h:jJ im a cs)(k:jJ im b ds):jJ im (a++b) (cs++ds):=by
 refine⟨by simp[h.len,k.len],fun i x v h1 h2=>?_⟩
 rcases qD _ _ _ _ h1 with⟨l1,h1⟩|⟨l1,h1⟩
 ·rw[List.getElem?_append_left (by rw[h.len];exact l1)] at h2
  exact h.at' i x v h1 h2
 ·rw[List.getElem?_append_right (by rw[h.len];exact l1),h.len] at h2
  exact k.at' _ x v h1 h2
def rP{H:Type}(enc:TypeId×Value→H)(P:Program)(fl:List Field)(off:Nat)(S:List AV→Prop)(total:Nat):Prop:=
 ∀(w:World) (base:Nat) (spare:Nat→Bool) (held:Bool) (n:Nat) (cs:List Value),cs.length=total→
  (∀f∈fl,∃y,DataW.trod enc P w base spare held n f.type ((cs.drop f.offset).take (P.cellsOf f.type))=some y)→∃ls,S ls∧ls.length+off=total∧jJ (gv w) ls (cs.drop off)
theorem mO(total:Nat):rP enc P [] total (fun ls=>ls=[]) total:=fun w base spare held n cs hl _=>
 ⟨[],rfl,by simp,by rw[List.drop_eq_nil_of_le ab];exact⟨rfl,by simp⟩⟩
theorem bK{f:Field}{fl:List Field}{off k total:Nat}{Sf Sr:List AV→Prop}(hf:Reads enc P f.type k Sf)(hc:P.cellsOf f.type=k)(ho:f.offset=off)(hr:rP enc P fl (off+k) Sr total):
 rP enc P (f::fl) off (fun ls=>∃a b,Sf a∧Sr b∧ls=a++b) total:=fun w base spare held n cs hl h=>by
 obtain⟨y,hy⟩:=h f (List.mem_cons_self ..)
 rw[ho,hc] at hy
 obtain⟨a,a1,a2,a3⟩:=hf w base spare held n _ y hy
 obtain⟨b,b1,b2,b3⟩:=hr w base spare held n cs hl (fun g hg=>h g (List.mem_cons_of_mem _ hg))
 refine⟨a++b,⟨a,b,a1,b1,rfl⟩,by simp;omega,?_⟩
 have e:cs.drop off=(cs.drop off).take k++cs.drop (off+k):=by rw[←List.drop_drop,List.take_append_drop]
 rw[e]
 exact a3.app b3
theorem mQ{fs:Array Field}{fl:List Field}{S:List AV→Prop}{total:Nat}(ht:P.underlying t=some (.struct fs))(hl:fs.toList=fl)(hc:P.cellsOf t=total)(h:rP enc P fl 0 S total):Reads enc P t total S:=fun w base spare held fuel cs x hx=>by
 obtain⟨xs,n,_,_,h1,h2,h3⟩:=DataW.trod_struct ht hx
 subst hl
 obtain⟨ls,g1,g2,g3⟩:=h w base spare held n cs (h1.trans hc) (fun f hf=>by
  obtain⟨i,hi⟩:=List.mem_iff_getElem?.1 hf
  have hi2:fs[i]?=some f:=by simpa using hi
  have hlt:i<xs.length:=by rw[h2];exact(Array.getElem?_eq_some_iff.1 hi2).1
  exact⟨xs[i],by rw[h3 i f hi2,List.getElem?_eq_getElem hlt]⟩)
 exact⟨ls,g1,by omega,by simpa using g3⟩
section
variable{w:World}{base:Nat}{spare:Nat→Bool}{held:Bool}{r:Reach}{b0:Nat}{v:Value}{d:DataW H}{ps:List MemPlace}
theorem DM{S:List AV→Prop}(hc:v.cells.toList=[v])(hR:Reads enc P t 1 S)(hd:DataW.Trod enc P w base spare held t v d ps):∃x,S [x]∧aT (gv w) x v:=by
 obtain⟨fuel,hf⟩:=hd
 rw[hc] at hf
 obtain⟨ls,h1,h2,h3⟩:=hR _ _ _ _ _ _ _ hf
 obtain⟨x,rfl⟩:∃x,ls=[x]:=by
  cases ls with
  |nil=>simp at h2
  |cons x l=>cases l with
   |nil=>exact⟨x,rfl⟩
   |cons=>simp at h2
 exact⟨x,h1,(h3.at' 0 x v rfl rfl).1⟩
theorem xt{e:TypeId}{k:Nat}{S:List AV→Prop}(ag:Bool)(ht:P.underlying t=some (.slice e))(hc:P.cellsOf e=k)(hk:0<k)(hag:ag=false→k=1)(he:Reads enc P e k S)
 (hv:Value.okWide P w r b0 t v) (hd:DataW.Trod enc P w base spare held t v d ps):∃x,aT (gv w) x v∧(x= .aw∨∃es:List AV,es.length≤maxLen∧(∀y∈es,∃l,S l∧y=lC ag l)∧x= .sl none k es):=by
 obtain⟨a0,len,cap,rfl⟩:=okWide_slice ht hv
 obtain⟨x,h2,h3⟩:=DM (by simp[Value.cells]) (V5 ag ht hc hk hag he) hd
 refine⟨x,h3,?_⟩
 rcases h2 with h2|⟨es,h4,h5,h2⟩<;>simp only[List.cons.injEq,and_true] at h2
 ·exact .inl h2
 ·exact .inr ⟨es,h4,h5,h2⟩
theorem DN{fs:Array Field}{k:Nat}{S:List AV→Prop}(ht:P.underlying t=some (.struct fs))(hR:Reads enc P t k S)(hv:Value.okWide P w r b0 t v)(hd:DataW.Trod enc P w base spare held t v d ps):∃ls,S ls∧aT (gv w) (.agg ls) v:=by
 obtain⟨cs,rfl,hsz⟩:=okWide_struct ht hv
 obtain⟨fuel,hf⟩:=hd
 obtain⟨ls,h1,h2,h3⟩:=hR _ _ _ _ _ _ _ hf
 refine⟨ls,h1,?_⟩
 have:=aT.agg (im:=gv w) ls cs.toList (by simpa[Value.cells] using h3.len) (fun i c u e1 e2=>(h3.at' i c u e1 (by simpa[Value.cells] using e2)).1)
 simpa using this
end
end
theorem VI{im:Im}:ji im [] []:=⟨rfl,by simp⟩
theorem VH{im:Im}{x:AV}{v:Value}{xs:List AV}{vs:List Value}(h:aT im x v)(k:ji im xs vs):ji im (x::xs) (v::vs):=by
 refine⟨by simp[k.1],fun i y u h1 h2=>?_⟩
 cases i with
 |zero=>simp only[List.getElem?_cons_zero,Option.some.injEq] at h1 h2;subst h1;subst h2;exact h
 |succ i=>exact k.2 i y u (by simpa using h1) (by simpa using h2)
theorem Fz{E:Env}{f:FuncId}{xs:List AV}{args:Array Value}{W:World}(hok:E.ok W)(hg:lr E (gv W))(h:ai E f xs fun r t=>r=bl true∧t=[])(hp:ji (gv W) xs args.toList):
 Calls E.P f args W fun e W'=>e= .returned (.bool true)∧Go.RowKit.Below W.heap.size W W':=by
 have:=h W (gv W) args.toList hok hg (fun b o x e=>e) hp
 refine(show Calls E.P f args.toList.toArray W _ from this).mono ?_
 rintro e W' ⟨v,r,tks,im',rfl,hB,_,_,_,_,hv,rfl,_⟩
 cases hv.bc
 exact⟨rfl,hB.toBelow⟩
end Go.az
namespace Go.az
open Go Go.RowKit
theorem Ti{α β:Type}{f:α→β}{l:List α}{n:Nat}:(l.map f).take n=(l.take n).map f:=List.map_take.symm
theorem Te{α β:Type}{f:α→β}{l:List α}{n:Nat}:(l.map f).drop n=(l.drop n).map f:=List.map_drop.symm
theorem Td{α β:Type}{f:α→β}{l m:List α}:l.map f++m.map f=(l++m).map f:=List.map_append.symm
theorem Tg{α β:Type}{f:α→β}{l:List α}:(l.map f).length=l.length:=List.length_map f
theorem Tf{α β:Type}{f:α→β}{l:List α}{i:Nat}:(l.map f)[i]?=(l[i]?).map f:=List.getElem?_map
theorem wO(b:UInt8):u8 b= .v (.int .u8 b.toNat):=rfl
theorem DE{l:List UInt8}{n:Int}(h0:0≤n)(h1:n<256):l.map u8++[.v (.int .u8 n)]=(l++[UInt8.ofNat n.toNat]).map u8:=by
 rw[List.map_append]
 congr 1
 have:((UInt8.ofNat n.toNat).toNat:Int)=n:=by simp;omega
 simp only[List.map_cons,List.map_nil,wO,this]
theorem DF{l:List UInt8}{b:UInt8}:l.map u8++[.v (.int .u8 b.toNat)]=(l++[b]).map u8:=by
 rw[List.map_append];rfl
theorem EE{A B:List UInt8}:((⟨A.toArray⟩:ByteArray)=⟨B.toArray⟩)=(A=B):=by
 simp only[ByteArray.mk.injEq,eq_iff_iff]
 exact⟨fun h=>by simpa using h,fun h=>by rw[h]⟩
theorem EF{A:List UInt8}:(⟨A.toArray⟩:ByteArray).data.toList=A:=rfl
theorem aQ.nth{α β:Type}{l:List α}{i:Nat}{f:α→β}{p:β→Prop}(h:i<l.length)(hp:∀b,l[i]?=Option.some b→p (f b)):aQ ((l[i]?).map f) p:=by
 obtain⟨b,hb⟩:∃b,l[i]?=Option.some b:=⟨_,List.getElem?_eq_getElem h⟩
 exact⟨f b,by rw[hb];rfl,hp b hb⟩
theorem aQ.mH{β:Type}{l:List β}{i:Nat}{p:β→Prop}(h:i<l.length)(hp:∀b,l[i]?=Option.some b→p b):aQ (l[i]?) p:=by
 obtain⟨b,hb⟩:∃b,l[i]?=Option.some b:=⟨_,List.getElem?_eq_getElem h⟩
 exact⟨b,hb,hp b hb⟩
theorem DO{A:List UInt8}{i:Nat}:(A.toArray)[i]?=A[i]?:=by simp
theorem toNat_cast{n:Nat}:((n:Int)).toNat=n:=rfl
theorem TU{n:Nat}:(0≤(n:Int))=True:=by simp
section
variable{E:Env}{ops:Array Oper}{d:Option Tmp}{l:List Oper}{st:St}{K:St→Prop}
@[go_sem] theorem cQ.get{α:Type}{o:Option α}{F:α→(AV→Prop)→Prop}:cQ (fun k=>aQ o fun y=>F y k) E ops d l st K=aQ o (fun y=>cQ (F y) E ops d l st K):=rfl
@[go_sem] theorem eQ.get{α:Type}{o:Option α}{F:α→(St→AV→Prop)→Prop}:eQ (fun k=>aQ o fun y=>F y k) E ops d l K=aQ o (fun y=>eQ (F y) E ops d l K):=rfl
@[go_sem] theorem fO.get{α:Type}{o:Option α}{F:α→(St→Prop)→Prop}:fO (fun k=>aQ o fun y=>F y k) E ops d l K=aQ o (fun y=>fO (F y) E ops d l K):=rfl
end
attribute [go_sem] Ti Te Td Tg Tf wO DE DF EE EF DO toNat_cast TU List.length_append List.length_map Option.map_some Option.map_none
section
variable{E:Env}{f:FuncId}{R:AV→List Nat→Prop}
theorem vU{im:Im}:∀{xs vs:List Value},ji im (xs.map .v) vs→vs=xs
 |[],vs,h=>List.eq_nil_of_length_eq_zero (by simpa using h.1)
 |x::xs,vs,h=>by
  cases vs with
  |nil=>have:=h.1;simp at this
  |cons v vs=>
   have h0:=h.2 0 (.v x) v rfl rfl
   cases h0
   have:=vU (im:=im) (xs:=xs) (vs:=vs) ⟨by have:=h.1;simpa using this,fun i y u h1 h2=>h.2 (i+1) y u (by simpa using h1) (by simpa using h2)⟩
   rw[this]
theorem ai.vD{xs:List Value}{S:Value→Prop}(h:∀w,E.ok w→Calls E.P f xs.toArray w fun e w'=>(∃v,e= .returned v∧S v)∧w'=w)(hR:∀v,S v→∃r,(∀im,aT im r v)∧R r []):ai E f (xs.map .v) R:=by
 intro w im vs hok hg him hpw
 rw[vU hpw]
 refine(h w hok).mono ?_
 rintro e w' ⟨⟨v,rfl,hs⟩,rfl⟩
 obtain⟨r,h1,h2⟩:=hR v hs
 exact⟨v,r,[],im,rfl,Below.refl _ _,.refl _,fun _ _ _=>rfl,him,⟨by simp,by simp⟩,.base (h1 im),h2⟩
theorem ai.sV{xs:List Value}{S:Value→Prop}(h:∀w,E.ok w→Calls E.P f xs.toArray w fun e w'=>(∃v,e= .returned v∧S v)∧Below E.dr w.heap.size w w')(hR:∀v,S v→∃r,(∀im,aT im r v)∧R r []):ai E f (xs.map .v) R:=by
 intro w im vs hok hg him hpw
 rw[vU hpw]
 refine(h w hok).mono ?_
 rintro e w' ⟨⟨v,rfl,hs⟩,hb⟩
 obtain⟨r,h1,h2⟩:=hR v hs
 refine⟨v,r,[],im,rfl,hb,.refl _,fun _ _ _=>rfl,fun b o x hx=>?_,⟨by simp,by simp⟩,.base (h1 im),h2⟩
 have:=him b o x hx
 rw[←this]
 exact cell_of_block (hb.block b (World.block_lt_of_cell? w ⟨b,o,none⟩ this)) o
end
end Go.az
namespace Go.az
open Go Go.RowKit
end Go.az
namespace Go.az
open Go Go.RowKit
end Go.az
namespace Go.az
theorem aQ.gQ{α:Type}{o:Option α}{b:α}{p:α→Prop}(h:o=Option.some b)(hp:p b):aQ o p:=⟨b,h,hp⟩
theorem aQ.en{α β:Type}{o:Option α}{b:α}{f:α→β}{p:β→Prop}(h:o=Option.some b)(hp:p (f b)):aQ (o.map f) p:=⟨f b,by rw[h];rfl,hp⟩
end Go.az
namespace Go.az
open Go Go.RowKit
def tL(s:AV)(k n:Nat)(xs:List AV)(st:St)(K:St→AV→Prop):Prop:=
 match s with
  |.sl (some tk) q es=>q=k∧st.tk[tk]?=some es.length∧es.length+xs.length≤4611686018427387904∧(es.length+xs.length)*n≤140737488355328∧
    K { st with tk:=st.tk.set tk (es.length+xs.length) } (.sl (some tk) k (es++xs))
  |.aw=>xs.length≤4611686018427387904∧xs.length*n≤140737488355328∧K { st with tk:=st.tk++[xs.length] } (.sl (some st.tk.length) k xs)
  |.mu id q off len cap=>q=k∧off=0∧xs≠[]∧len+xs.length≤4611686018427387904∧(len+xs.length)*n≤140737488355328∧
    lf st.own[id]? fun l=>len≤l.length∧cap=l.length∧
    ∀m,K { st with own:=st.own.set id none++[some (l.take len++xs++spare k m)] } (.mu st.own.length k 0 (len+xs.length) (len+xs.length+m))
  |_=>False
@[go_sem] theorem abA{P:Program}{t tx:TypeId}{s x:AV}{st:St}{K:St→AV→Prop}:p8 P t tx s x st K =
   (er P tx=true∧aQ (cL P t) fun p=>aQ (fB x p.2.1) fun xs=>tL s p.2.1 p.2.2 xs st K):=by
 simp only[p8,aQ,tL,eq_iff_iff]
 constructor
 ·rintro⟨h0,e,k,n,xs,h1,h2,h3⟩;exact⟨h0,(e,k,n),h1,xs,h2,h3⟩
 ·rintro⟨h0,⟨e,k,n⟩,h1,xs,h2,h3⟩;exact⟨h0,e,k,n,xs,h1,h2,h3⟩
attribute [go_sem] tL
end Go.az
namespace Go.az
open Go Go.RowKit
@[go_sem] theorem abJ{P:Program}{t:TypeId}{len:Nat}{ps:List (Nat×AV)}{st:St}{K:St→AV→Prop}:qg P t len ps st K =
   (aQ (cL P t) fun p=>ps.length=len∧idxFrom 0 ps=true∧len*p.2.1≤16777216∧aQ (nx p.2.1 ps) fun ys=>K { st with tk:=st.tk++[ys.length] } (.sl (some st.tk.length) p.2.1 ys)):=by
 simp only[qg,aQ,eq_iff_iff]
 constructor
 ·rintro⟨e,k,n,ys,h1,h2,h3,h4,h5,h6⟩;exact⟨(e,k,n),h1,h2,h3,h4,ys,h5,h6⟩
 ·rintro⟨⟨e,k,n⟩,h1,h2,h3,h4,ys,h5,h6⟩;exact⟨e,k,n,ys,h1,h2,h3,h4,h5,h6⟩
end Go.az
namespace Go.az
open Go Go.RowKit
@[go_sem] theorem abO{P:Program}{t:TypeId}{s:ByteArray}{lo hi:Option AV}{k:AV→Prop}:jH P t (.v (.string s)) lo hi k =
   (P.underlying t=some .string∧aQ (dM lo 0) fun l=>aQ (dM hi s.data.toList.length) fun h=>0≤l∧l≤h∧h≤(s.data.toList.length:Int)∧k (.v (.string ⟨(mg lo hi s.data.toList).toArray⟩))):=by
 simp only[jH,aQ,eq_iff_iff]
 constructor
 ·rintro⟨h0,l,h,h1,h2,h3⟩;exact⟨h0,l,h1,h,h2,h3⟩
 ·rintro⟨h0,l,h1,h,h2,h3⟩;exact⟨h0,l,h,h1,h2,h3⟩
@[go_sem] theorem abN{P:Program}{t:TypeId}{t':Option Nat}{q:Nat}{es:List AV}{lo hi:Option AV}{k:AV→Prop}:jH P t (.sl t' q es) lo hi k =
   ((∃e,P.underlying t=some (.slice e)∧bf P e=some q)∧aQ (dM lo 0) fun l=>aQ (dM hi es.length) fun h=>0≤l∧l≤h∧h≤(es.length:Int)∧k (.sl (vm lo t') q (mg lo hi es))):=by
 simp only[jH,aQ,eq_iff_iff]
 constructor
 ·rintro⟨h0,l,h,h1,h2,h3⟩;exact⟨h0,l,h1,h,h2,h3⟩
 ·rintro⟨h0,l,h1,h,h2,h3⟩;exact⟨h0,l,h,h1,h2,h3⟩
@[go_sem] theorem abL{P:Program}{t:TypeId}{lo hi:Option AV}{k:AV→Prop}:jH P t .aw lo hi k =
   ((∃e n,P.underlying t=some (.slice e)∧bf P e=some n)∧dM lo 0=some 0∧dM hi 0=some 0∧k .aw):=rfl
@[go_sem] theorem abK{P:Program}{t:TypeId}{id q off len cap:Nat}{lo hi:Option AV}{k:AV→Prop}:jH P t (.mu id q off len cap) lo hi k =
   ((∃e n,P.underlying t=some (.slice e)∧bf P e=some n)∧lo=none∧aQ (dM hi len) fun h=>0≤h∧h≤(len:Int)∧k (.mu id q off h.toNat cap)):=rfl
@[go_sem] theorem abM{P:Program}{t:TypeId}{cs:List AV}{lo hi:Option AV}{k:AV→Prop}:jH P t (.bQ cs) lo hi k =
   (∃L e,P.underlying t=some (.array L e)∧bf P e=some 1∧lo=none∧aQ (dM hi L) fun h=>0≤h∧h≤(cs.length:Int)∧h≤(L:Int)∧(∀c∈cs,c.leaves=[c])∧k (.sl none 1 (cs.take h.toNat))):=rfl
theorem LV{e:TypeId}{p:TypeId→Prop}:(∃x,some (TypeDesc.slice e)=some (TypeDesc.slice x)∧p x)=p e:=by simp
theorem LW{e:TypeId}{p:TypeId→Nat→Prop}:(∃x n,some (TypeDesc.slice e)=some (TypeDesc.slice x)∧p x n)=∃n,p e n:=by simp
theorem U5{α β:Type}{p:α×β}:(p.1,p.2)=p:=rfl
attribute [go_sem] U5 LV LW
end Go.az
namespace Go.az
open Go Go.RowKit
section
variable{P:Program}{t:TypeId}{k:Bool→Prop}
@[go_sem] theorem abC{a b:Bool}:fM P t (.v (.bool a)) (.v (.bool b)) k=(P.underlying t=some .bool∧k (decide (a=b))):=rfl
@[go_sem] theorem abG:fM P t .aw .aw k=((∃e,P.underlying t=some (.slice e))∧k true):=rfl
@[go_sem] theorem abI{x:Option Nat}{y:Nat}{es:List AV}:fM P t (.sl x y es) .aw k=((∃e,P.underlying t=some (.slice e))∧∀b,(es≠[]→b=false)→k b):=rfl
@[go_sem] theorem abH{x:Option Nat}{y:Nat}{es:List AV}:fM P t .aw (.sl x y es) k=((∃e,P.underlying t=some (.slice e))∧∀b,(es≠[]→b=false)→k b):=rfl
@[go_sem] theorem abF{i x y z u:Nat}:fM P t (.mu i x y z u) .aw k=((∃e,P.underlying t=some (.slice e))∧∀b,(z≠0→b=false)→k b):=rfl
@[go_sem] theorem abE:fM P t (.v .nilIface) (.v .nilIface) k=((∃ms,P.underlying t=some (.interface ms))∧k true):=rfl
@[go_sem] theorem abD{x:TypeId}{y:Value}:fM P t (.v (.iface x y)) (.v .nilIface) k=((∃ms,P.underlying t=some (.interface ms))∧k false):=rfl
@[go_sem] theorem abB{xs ys:List AV}:fM P t (.agg xs) (.agg ys) k=(aQ (lG P t) fun ks=>aQ (cd ks xs ys) k):=by
 simp only[fM,aQ,eq_iff_iff]
 constructor
 ·rintro⟨ks,b,h1,h2,h3⟩;exact⟨ks,h1,b,h2,h3⟩
 ·rintro⟨ks,h1,b,h2,h3⟩;exact⟨ks,b,h1,h2,h3⟩
end
end Go.az
namespace Go.az
theorem dD:(∀(p:Prop) [Decidable p],(decide p=true)=p)∧(∀(p:Prop) [Decidable p],(decide p=false)=¬p)∧(∀b:Bool,((!b)=true)=(b=false))∧(∀b:Bool,((!b)=false)=(b=true))∧
 (∀a b:Bool,((a||b)=true)=(a=true∨b=true))∧(∀a b:Bool,((a&&b)=true)=(a=true∧b=true))∧(∀a b:Bool,((a||b)=false)=(a=false∧b=false))∧
 (∀a b:Bool,((a&&b)=false)=(a=true→b=false))∧((!true)=false)∧((!false)=true)∧((true=false)=False)∧((false=true)=False)∧(∀(α:Type) (a b:α),(a≠b)=¬(a=b)):=
 ⟨fun p _=>by simp,fun p _=>by simp,by decide,by decide,by decide,by decide,by decide,by decide,rfl,rfl,by simp,by simp,fun _ _ _=>rfl⟩
end Go.az
namespace Go.az
open Go Go.RowKit
def bT(P:Program)(rs:List ResultVar)(st:St)(K:St→AV→Prop):Exit→St→Prop
 |.normal,s|.ret,s=>s.up=st.tmps++st.up∧ig P s rs fun l=>K { s with tmps:=st.tmps,up:=st.up } (fx l)
 |_,_=>False
def al(E:Env)(ops:Array Oper)(l:List Oper)(Q:Exit→St→Prop)(st:St):Prop:=
 ∀(w0:World) (im0:cU) (cx:Ctx) (a:Act) (w:World),E.ok w0→jg E im0→Rel w0 im0 cx st a w→wpList E.P ops (fun e a' w'=>gJ w0 im0 (Q e) a' w') l a w
section
variable{E:Env}{Q:Exit→St→Prop}{st:St}{ops:Array Oper}{l l1 l2:List Oper}
theorem aa.aW{id:Nat}(h:al E l.toArray l Q st):aa E (.region id l.toArray false) Q st:=fun w0 im0 cx a w h0 hG r=>wp_region_lit (h w0 im0 cx a w h0 hG r)
theorem al.of(h:cD E ops l st (Q .normal)):al E ops l Q st:=fun w0 im0 cx a w h0 hG r=>rV h0 hG (K:=Q .normal) (fun _ _ hh=>hh) l r h
theorem tX{w0:World}{im0:cU}(h0:E.ok w0)(hG:jg E im0){K:St→Prop}{R:Exit→Act→World→Prop}(hQ:∀a w,gJ w0 im0 K a w→wpList E.P ops R l2 a w):
 ∀(l:List Oper) {c:Ctx} {st:St} {a:Act} {w:World},Rel w0 im0 c st a w→cD E ops l st K→wpList E.P ops R (l++l2) a w
 |[],c,st,a,w,r,h=>hQ _ _ ⟨c,st,r,h⟩
 |o::rest,c,st,a,w,r,h=>by
  obtain⟨q,hq,h1,h2⟩:=h
  have hw:=wS r hq
  rw[List.cons_append]
  refine wpList_step (fun K' hK'=>?_)
  cases q with
  |true=>
   rw[if_pos hw]
   refine Oper.wp_mono (fun a' w' hh=>?_) (ud (Q:=R) h0 hG r (h1 rfl))
   obtain⟨c',st',r',h'⟩:=hh
   exact hK' _ _ (tX h0 hG hQ rest r' h')
  |false=>
   rw[if_neg (by rw[hw];exact Bool.false_ne_true)]
   exact hK' _ _ (tX h0 hG hQ rest (r.put o.dst (.base (.v undef))) (h2 rfl))
theorem al.app(h:cD E ops l1 st (al E ops l2 Q)):al E ops (l1++l2) Q st:=fun w0 im0 cx a w h0 hG r=>
 tX h0 hG (K:=al E ops l2 Q) (fun a' w' hh=>by obtain⟨c,s,r',k⟩:=hh;exact k w0 im0 c a' w' h0 hG r') l1 r h
theorem al.call{g:FuncId}{fn:Func}{body:Code}{n:Nat}{rs:List ResultVar}{caps:List AV}{dst:Option Tmp}{f:Operand}{xs:Array Operand}{tys:Array TypeId}{ty:TypeId}{pos:String}{after:Array Edge}
 (hf:E.P.funcs[g]?=some fn) (hb:fn.body=some body) (hn:fn.ntmps=n) (hr:fn.results.toList=rs) (hc:ar E.P g=true) (he:st.ev f= .fn g caps) (hrsv:st.bR=none)
 (h:aa E body (bT E.P rs st fun s z=>al E ops l Q (s.put dst z)) { st with tmps:=(xs.toList.map st.ev++caps)++List.replicate (n-(xs.toList.map st.ev++caps).length) (.v undef),up:=st.tmps++st.up }):
 al E ops (⟨dst,.call ⟨.value f,xs,tys⟩,ty,pos,after,none⟩::l) Q st:=by
 intro w0 im0 cx a w h0 hG r
 subst hn;subst hr
 refine wpList_step (fun K' hK'=>?_)
 have hw:Region.wanted ⟨dst,.call ⟨.value f,xs,tys⟩,ty,pos,after,none⟩ (yielded ops a.tmps)=true:=rfl
 rw[if_pos hw]
 have hv:=r.ev f
 rw[he] at hv
 obtain⟨us,hfe,hnu,hpu⟩:=hv.iq
 have hargs:Pw cx (xs.toList.map st.ev++caps) (xs.toList.map a.eval++us):=by
  refine⟨by simp[hnu],fun i x v h1 h2=>?_⟩
  rcases fT _ _ _ _ h1 with⟨l1,h1⟩|⟨l1,h1⟩
  ·rw[List.getElem?_append_left (by simpa using l1)] at h2
   rw[List.getElem?_map] at h1 h2
   cases hc:xs.toList[i]? with
   |none=>simp[hc] at h1
   |some z=>simp only[hc,Option.map_some,Option.some.injEq] at h1 h2;subst h1;subst h2;exact r.ev z
  ·rw[List.getElem?_append_right (by simpa using l1)] at h2
   have:(xs.toList.map a.eval).length=(xs.toList.map st.ev).length:=by simp
   rw[this] at h2
   exact hpu _ _ _ h1 h2
 have hrun:(execOp a.eval ⟨dst,.call ⟨.value f,xs,tys⟩,ty,pos,after,none⟩).run E.P w= .ok (.enter g (xs.toList.map a.eval++us).toArray) w:=by
  unfold ar at hc
  simp only[hf,Bool.and_eq_true,Bool.not_eq_true'] at hc
  obtain⟨hn1,hn2⟩:=hc
  have hbn:fn.body.isNone=false:=by rw[hb];rfl
  have harr:Array.map a.eval xs++us.toArray=(xs.toList.map a.eval++us).toArray:=by
   apply Array.ext'
   simp
  have he':a.eval f= .func (.func g) #[] us.toArray:=hfe
  simp only[execOp,resolve,he',Deferred.ofValue,Sem.run_bind,Sem.run_pure,Result.andThen_ok,invoke,callFunc,run_program,hf,hn1,Bool.false_eq_true,if_false,hbn,Array.empty_append,harr]
 unfold Oper.wp
 rw[hrun]
 simp only[Oper.upon]
 generalize hvs:xs.toList.map a.eval++us=vs at *
 generalize hys:xs.toList.map st.ev++caps=ys at *
 have hrel:Rel w0 ⟨im0.im,a.tmps.toList++im0.ex,im0.dr⟩ cx { st with tmps:=ys++List.replicate (fn.ntmps-ys.length) (.v undef),up:=st.tmps++st.up } { tmps:=vs.toArray++Array.replicate (fn.ntmps-vs.toArray.size) undef,defers:=[] } w:=by
  refine⟨⟨rfl,r.defers.2⟩,by simp[hargs.1],?_,r.below,r.c8,r.dp,r.ck,r.bS,r.own,r.cH,r.tail,r.tok,r.apart,r.dv,⟨?_,?_⟩,r.hole⟩
  ·intro i x v h1 h2
   rcases fT _ _ _ _ h1 with⟨l1,h1⟩|⟨l1,h1⟩
   ·have:i<vs.length:=by rw[hargs.1];exact l1
    rw[Array.getElem?_append_left (by simpa using this)] at h2
    exact hargs.2 i x v h1 (by simpa using h2)
   ·have hlen:vs.length=ys.length:=hargs.1
    rw[Array.getElem?_append_right (by simp;omega)] at h2
    have e1:x= .v undef:=by
     have:=List.mem_of_getElem? h1
     simp only[List.mem_replicate] at this
     exact this.2
    have e2:v=undef:=by
     have:=Array.mem_of_getElem? h2
     simp only[Array.mem_replicate] at this
     exact this.2
    subst e1;subst e2
    exact .base (.v _)
  ·show(a.tmps.toList++im0.ex).length=(st.tmps++st.up).length
   rw[List.length_append,List.length_append,r.up.1,Array.length_toList,r.size]
  ·intro i x v h1 h2
   have h1:(st.tmps++st.up)[i]?=some x:=h1
   have h2:(a.tmps.toList++im0.ex)[i]?=some v:=h2
   rcases fT _ _ _ _ h1 with⟨l1,h1⟩|⟨l1,h1⟩
   ·rw[List.getElem?_append_left (by rw[Array.length_toList,r.size];exact l1)] at h2
    exact r.tmps i x v h1 (by simpa using h2)
   ·rw[List.getElem?_append_right (by rw[Array.length_toList,r.size];exact l1),Array.length_toList,r.size] at h2
    exact r.up.2 _ x v h1 h2
 have hsz:vs.toArray.size=vs.length:=by simp
 refine(calls_of_wp (R:=fun e w'=>∃v,e= .returned v∧K' (a.put dst v) w') hf hb ?_).mono ?_
 ·refine wp_mono (h w0 ⟨im0.im,a.tmps.toList++im0.ex,im0.dr⟩ _ _ w h0 hG hrel) fun e a' w' hh=>?_
  obtain⟨c',st',r',q⟩:=hh
  have fin:(st'.up=st.tmps++st.up∧ig E.P st' fn.results.toList fun l'=>al E ops l Q (St.put { st' with tmps:=st.tmps,up:=st.up } dst (fx l')))→
   a'.defers=[]∧∃v,(results fn a'.tmps).run E.P w'= .ok v w'∧∃v',Ending.returned v= .returned v'∧K' (a.put dst v') w':=by
   rintro⟨hup,q⟩
   obtain⟨l',us',h1,h2,h3⟩:=kO r' q
   refine⟨r'.defers.1,_,wa h1,_,rfl,hK' _ _ ?_⟩
   have hup1:=r'.up.1
   have hup2:=r'.up.2
   rw[hup] at hup1 hup2
   have hup2':∀(i:Nat) (x:AV) (v:Value),(st.tmps++st.up)[i]?=some x→(a.tmps.toList++im0.ex)[i]?=some v→VR c' x v:=hup2
   have rb:Rel w0 im0 c' { st' with tmps:=st.tmps,up:=st.up } a w':=by
    refine⟨r.defers,r.size,fun i x v e1 e2=>?_,r'.below,r'.c8,r'.dp,r'.ck,r'.bS,r'.own,r'.cH,r'.tail,r'.tok,r'.apart,r'.dv,⟨r.up.1,fun i x v e1 e2=>?_⟩,r'.hole⟩
    ·have e1:st.tmps[i]?=some x:=e1
     have hlt:i<st.tmps.length:=(List.getElem?_eq_some_iff.1 e1).1
     refine hup2' i x v ?_ ?_
     ·rw[List.getElem?_append_left hlt];exact e1
     ·rw[List.getElem?_append_left (by rw[Array.length_toList,r.size];exact hlt)];simpa using e2
    ·have e1:st.up[i]?=some x:=e1
     refine hup2' (st.tmps.length+i) x v ?_ ?_
     ·rw[List.getElem?_append_right ab]
      rw[Nat.add_sub_cancel_left];exact e1
     ·rw[List.getElem?_append_right (by rw[Array.length_toList,r.size];omega),Array.length_toList,r.size,Nat.add_sub_cancel_left];exact e2
   refine h3 w0 im0 c' _ w' h0 hG (rb.put dst ?_)
   cases l' with
   |nil=>
    have:us'=[]:=List.eq_nil_of_length_eq_zero h2.1
    subst this
    exact .ax [] [] rfl aB
   |cons x l'=>cases l' with
    |nil=>
     cases us' with
     |nil=>have:=h2.1;simp at this
     |cons u us'=>
      have:us'=[]:=List.eq_nil_of_length_eq_zero (by have:=h2.1;simpa using this)
      subst this
      exact h2.2 0 x u rfl rfl
    |cons z l'=>
     have hl2:us'.length=(x::z::l').length:=h2.1
     rw[if_neg (by rw[hl2];simp)]
     exact .ax _ us' h2.1 h2.2
  cases e<;>simp only[bT] at q<;>first|exact q.elim|skip
  case normal=>exact fin q
  case ret=>exact fin q
 ·rintro e w' ⟨v,rfl,hk⟩;exact hk
end
end Go.az
namespace Go.az
open Go Go.RowKit
end Go.az
namespace Go.az
open Go Go.RowKit
section
variable{w0:World}{im0:cU}{c:Ctx}{st:St}{a:Act}{w:World}
def gX(im:Im)(w:World)(g n:Nat):Im:=fun b o=>if b=g then(if o<n then w.cell? ⟨g,o,none⟩ else none) else im b o
theorem Rel.oi(r:Rel w0 im0 c st a w){id g k:Nat}{es:List AV}(h1:c.β[id]?=some (some (g,k)))(h2:st.own[id]?=some (some es)){es':List AV}{n:Nat}(hes:es'=es.take n)(hc:∀e∈es',∀x∈e.leaves,x.dN=some x):
 ∃c',c.le c'∧c'.β=c.β∧c'.tk=c.tk∧(∀o,es'.length*k≤o→c'.im g o=none)∧Rel w0 im0 c' { st with own:=st.own.set id none } a w∧∃cv:Nat→Nat→Value,
  (∀(i:Nat) (e:AV),es'[i]?=some e→e.leaves.length=k)∧
  (∀(i:Nat) (e:AV) (j:Nat) (y:AV),es'[i]?=some e→e.leaves[j]?=some y→c'.im g (i*k+j)=some (cv i j))∧
  (∀(i:Nat) (e:AV) (j:Nat) (y:AV),es'[i]?=some e→e.leaves[j]?=some y→(cv i j).oneCell'=true)∧
  ∀(i:Nat) (e:AV) (j:Nat) (y:AV),es'[i]?=some e→e.leaves[j]?=some y→aT c'.im y (cv i j):=by
 have ho:=r.own id g k es h1 h2
 obtain⟨cs,ty,lo,hi,hblk,_,hsz,hlv,hcell⟩:=ho.aZ
 have hsub:∀(i:Nat) (e:AV),es'[i]?=some e→es[i]?=some e:=fun i e he=>by
  rw[hes,List.getElem?_take] at he
  split at he
  ·exact he
  ·simp at he
 have hle:c.im.le (gX c.im w g (es'.length*k)):=by
  intro b o v hv
  unfold gX
  rw[if_neg (fun e=>by subst e;rw[ho.im o] at hv;simp at hv)]
  exact hv
 have hcle:c.le ⟨c.β,c.tk,gX c.im w g (es'.length*k)⟩:=⟨fun _ _ h=>h,fun t T h=>⟨T,h,rfl,.inl rfl⟩,hle⟩
 have hgo:∀b o,b≠g→gX c.im w g (es'.length*k) b o=c.im b o:=fun b o hb=>by unfold gX;rw[if_neg hb]
 refine⟨⟨c.β,c.tk,gX c.im w g (es'.length*k)⟩,hcle,rfl,rfl,fun o ho'=>?_,?_,fun i j=>cs.getD (i*k+j) undef,fun i e he=>hlv i e (hsub i e he),?_,?_,?_⟩
 ·show gX c.im w g (es'.length*k) g o=none
  unfold gX
  rw[if_pos rfl,if_neg ab]
 ·refine⟨r.defers,r.size,fun i x v e1 e2=>(r.tmps i x v e1 e2).mono hcle,r.below,r.c8.trans hle,fun b o hb=>?_,fun b o x hx=>?_,by simp[r.bS],fun i g' k' es2 e1 e2=>?_,r.cH,r.tail,fun t T b e1 e2=>?_,?_,fun g' cs' h=>(r.dv g' cs' h).mono hle,⟨r.up.1,fun i x v e1 e2=>(r.up.2 i x v e1 e2).mono hcle⟩,r.hole⟩
  ·show gX c.im w g (es'.length*k) b o=_
   rw[hgo b o (fun e=>by have:=ho.new;omega)];exact r.dp b o hb
  ·have hx:gX c.im w g (es'.length*k) b o=some x:=hx
   unfold gX at hx
   split at hx
   ·rename_i hb;subst hb
    split at hx
    ·exact hx
    ·simp at hx
   ·exact r.ck b o x hx
  ·have e2:(st.own.set id none)[i]?=some (some es2):=e2
   rw[List.getElem?_set] at e2
   by_cases hi':id=i
   ·subst hi';rw[if_pos rfl] at e2;split at e2<;>simp at e2
   ·rw[if_neg hi'] at e2
    have hne:=r.apart.oo i id g' k' g k es2 es e1 h1 e2 h2 (Ne.symm hi')
    exact(r.own i g' k' es2 e1 e2).mono hcle (fun o=>by show gX c.im w g (es'.length*k) g' o=none;rw[hgo g' o hne];exact(r.own i g' k' es2 e1 e2).im o) rfl
  ·have ht:=r.tok t T b e1 e2
   have hne:=r.apart.ot id t g k es T b h1 h2 e1 e2
   exact⟨ht.new,ht.room,fun o ho'=>by show gX c.im w g (es'.length*k) b o=none;rw[hgo b o (Ne.symm hne)];exact ht.im o ho',ht.aZ⟩
  ·have conv:∀{i:Nat} {e:List AV},(st.own.set id none)[i]?=some (some e)→st.own[i]?=some (some e):=by
    intro i e he
    rw[List.getElem?_set] at he
    by_cases hi':id=i
    ·subst hi';rw[if_pos rfl] at he;split at he<;>simp at he
    ·rw[if_neg hi'] at he;exact he
   exact⟨fun i j g1 k1 g2 k2 e1 e2 a1 a2 a3 a4 hij=>r.apart.oo i j g1 k1 g2 k2 e1 e2 a1 a2 (conv a3) (conv a4) hij,fun i t g1 k1 e1 T b a1 a2 a3 a4=>r.apart.ot i t g1 k1 e1 T b a1 (conv a2) a3 a4,r.apart.tt⟩
 ·intro i e j y he hy
  have hlt:i*k+j<es'.length*k:=lK (bO he) (by rw[←hlv i e (hsub i e he)];exact bO hy)
  show gX c.im w g (es'.length*k) g (i*k+j)=_
  unfold gX
  rw[if_pos rfl,if_pos hlt]
  obtain⟨v,hv,_⟩:=hcell i e j y (hsub i e he) hy
  simp[World.cell?,hblk,hv,Array.getD_eq_getD_getElem?]
 ·intro i e j y he hy
  obtain⟨v,hv,_,h1⟩:=hcell i e j y (hsub i e he) hy
  simp only[Array.getD_eq_getD_getElem?,hv,Option.getD_some]
  rcases h1 with rfl|h1
  ·have:=hc e (List.mem_of_getElem? he) _ (List.mem_of_getElem? hy)
   simp[AV.dN] at this
  ·exact h1
 ·intro i e j y he hy
  obtain⟨v,hv,hvr,h1⟩:=hcell i e j y (hsub i e he) hy
  simp only[Array.getD_eq_getD_getElem?,hv,Option.getD_some]
  exact((qo hvr (hc e (List.mem_of_getElem? he) y (List.mem_of_getElem? hy))).1).mono hle
end
section
variable{E:Env}{c:Code}{Q:Exit→St→Prop}{s:St}
theorem Rel.rm{w0:World}{im0:cU}{c:Ctx}{st:St}{a:Act}{w:World}(r:Rel w0 im0 c st a w){i:Nat}{y:AV}(h:∀v,a.tmps[i]?=some v→VR c y v):Rel w0 im0 c { st with tmps:=st.tmps.set i y } a w:=by
 refine⟨r.defers,by simp[r.size],fun j x v h1 h2=>?_,r.below,r.c8,r.dp,r.ck,r.bS,r.own,r.cH,r.tail,r.tok,r.apart,r.dv,r.up,r.hole⟩
 have h1:(st.tmps.set i y)[j]?=some x:=h1
 rw[List.getElem?_set] at h1
 by_cases hj:i=j
 ·subst hj
  rw[if_pos rfl] at h1
  split at h1
  ·simp only[Option.some.injEq] at h1;subst h1;exact h v h2
  ·simp at h1
 ·rw[if_neg hj] at h1;exact r.tmps j x v h1 h2
theorem Rel.mo{w0:World}{im0:cU}{c:Ctx}{st:St}{a:Act}{w:World}(r:Rel w0 im0 c st a w)(id:Nat):Rel w0 im0 c { st with own:=st.own.set id none } a w:=by
 have conv:∀{i:Nat} {e:List AV},(st.own.set id none)[i]?=some (some e)→st.own[i]?=some (some e):=by
  intro i e he
  rw[List.getElem?_set] at he
  by_cases hi':id=i
  ·subst hi';rw[if_pos rfl] at he;split at he<;>simp at he
  ·rw[if_neg hi'] at he;exact he
 exact⟨r.defers,r.size,r.tmps,r.below,r.c8,r.dp,r.ck,by simp[r.bS],fun i g k es h1 h2=>r.own i g k es h1 (conv h2),r.cH,r.tail,r.tok,
  ⟨fun i j g1 k1 g2 k2 e1 e2 a1 a2 a3 a4 hij=>r.apart.oo i j g1 k1 g2 k2 e1 e2 a1 a2 (conv a3) (conv a4) hij,fun i t g1 k1 e1 T b a1 a2 a3 a4=>r.apart.ot i t g1 k1 e1 T b a1 (conv a2) a3 a4,r.apart.tt⟩,r.dv,r.up,r.hole⟩
theorem aa.oi(i id:Nat)(e:AV)(hi:s.tmps[i]?=some (.ptr id 0 0))(ho:s.own[id]?=some (some [e]))(hc:∀x∈e.leaves,x.dN=some x)
 (hw:aa E c Q { s with tmps:=s.tmps.set i (.bQ e.leaves),own:=s.own.set id none }):aa E c Q s:=by
 intro w0 im0 cx a w h0 hG r
 have hlt:i<a.tmps.size:=by rw[r.size];exact bO hi
 obtain⟨g,k,hb,hv⟩:=(r.tmps i _ _ hi (Array.getElem?_eq_getElem hlt)).gR
 obtain⟨c',hle,hβ,_,_,r',cv,_,hm,h1,hvr⟩:=r.oi (n:=1) hb ho rfl (fun x hx=>by simp at hx;subst hx;exact hc)
 refine hw w0 im0 c' a w h0 hG (r'.rm fun v hv'=>?_)
 rw[Array.getElem?_eq_getElem hlt,Option.some.injEq] at hv'
 rw[←hv',hv]
 have:=aT.bQ (im:=c'.im) e.leaves g 0 (fun j=>cv 0 j) (fun j x hj=>by have:=hm 0 e j x rfl hj;simpa using this) (fun j x hj=>h1 0 e j x rfl hj) (fun j x hj=>hvr 0 e j x rfl hj)
 simpa using VR.base this
theorem aa.Vy(i id k cap:Nat)(es:List AV)(hi:s.tmps[i]?=some (.mu id k 0 es.length cap))(ho:s.own[id]?=some (some es))(hc:∀e∈es,∀x∈e.leaves,x.dN=some x)
 (hw:aa E c Q { s with tmps:=s.tmps.set i (.sl none k es),own:=s.own.set id none }):aa E c Q s:=by
 intro w0 im0 cx a w h0 hG r
 have hlt:i<a.tmps.size:=by rw[r.size];exact bO hi
 rcases(r.tmps i _ _ hi (Array.getElem?_eq_getElem hlt)).cW with⟨g,hb,hcap,hv⟩|⟨hz,_,hv⟩
 ·obtain⟨c',hle,hβ,_,_,r',cv,hl,hm,h1,hvr⟩:=r.oi (n:=es.length) hb ho (List.take_length).symm hc
  refine hw w0 im0 c' a w h0 hG (r'.rm fun v hv'=>?_)
  rw[Array.getElem?_eq_getElem hlt,Option.some.injEq] at hv'
  rw[←hv',hv]
  have:=aT.sl (im:=c'.im) k es g (0*k) cap cv hcap hl (fun i e j x he hj=>by rw[Nat.zero_mul,Nat.zero_add];exact hm i e j x he hj) h1 hvr
  exact .base this
 ·have hes:es=[]:=List.eq_nil_of_length_eq_zero hz
  subst hes
  have r':=r.rm (i:=i) (y:= .sl none k []) fun v hv'=>by
   rw[Array.getElem?_eq_getElem hlt,Option.some.injEq] at hv'
   rw[←hv',hv];exact .base (.de k none 0)
  exact hw w0 im0 cx a w h0 hG (r'.mo id)
end
section
variable{E:Env}{c:Code}{Q:Exit→St→Prop}{s:St}
end
theorem aT.of_nil{im:Im}{k:Nat}{v:Value}(h:aT im .aw v):aT im (.sl none k []) v:=by cases h;exact .de k none 0
end Go.az
namespace Go.az
open Go Go.RowKit
section
variable{w0:World}{im0:cU}{c:Ctx}{st:St}{a:Act}{w:World}
end
end Go.az
namespace Go.az
open Go Go.RowKit
def AV.bZ(σ:Nat→Option Nat):AV→AV
 |.mu id k off n cap=>match σ id with|some j=> .mu j k off n cap|none=> .any
 |.ptr id i o=>match σ id with|some j=> .ptr j i o|none=> .any
 |.agg _=> .any
 |.ax _=> .any
 |.fn _ (_::_)=> .any
 |x=>x
def AV.eY(σ:Nat→Option Nat):AV→AV
 |.agg cs=> .agg (cs.map (AV.bZ σ))
 |.fn f cs=> .fn f (cs.map (AV.bZ σ))
 |x=>x.bZ σ
def AV.cr(σ:Nat→Option Nat):AV→AV
 |.ax cs=> .ax (cs.map (AV.eY σ))
 |x=>x.eY σ
def ct(sel:List Nat)(id:Nat):Option Nat:=if id∈sel then some (sel.idxOf id) else none
theorem BL{sel:List Nat}{id j:Nat}(h:ct sel id=some j):sel[j]?=some id:=by
 unfold ct at h
 split at h
 ·rename_i hm
  simp only[Option.some.injEq] at h;subst h
  rw[List.getElem?_eq_getElem (List.idxOf_lt_length_of_mem hm)]
  simp
 ·simp at h
def pS(β:List (Option (Nat×Nat)))(sel:List Nat):List (Option (Nat×Nat)):=sel.map fun id=>(β[id]?).join
def jC(own:List (Option (List AV)))(sel:List Nat):List (Option (List AV)):=sel.map fun id=>((own[id]?).join).map (·.map (AV.cr (ct sel)))
section
variable{w0:World}{im0:cU}{c:Ctx}{st:St}{a:Act}{w:World}{sel:List Nat}
theorem tj{β:List (Option (Nat×Nat))}{i:Nat}{p:Nat×Nat}(h:(pS β sel)[i]?=some (some p)):∃id,sel[i]?=some id∧β[id]?=some (some p):=by
 unfold pS at h
 rw[List.getElem?_map] at h
 cases hs:sel[i]? with
 |none=>simp[hs] at h
 |some id=>
  simp only[hs,Option.map_some,Option.some.injEq] at h
  refine⟨id,rfl,?_⟩
  cases hb:β[id]? with
  |none=>simp[hb] at h
  |some q=>simp only[hb,Option.join_some] at h;rw[h]
theorem BN{β:List (Option (Nat×Nat))}{i id:Nat}{p:Nat×Nat}(h1:sel[i]?=some id)(h2:β[id]?=some (some p)):(pS β sel)[i]?=some (some p):=by
 unfold pS
 rw[List.getElem?_map,h1]
 simp[h2]
theorem ti{own:List (Option (List AV))}{i:Nat}{es:List AV}(h:(jC own sel)[i]?=some (some es)):∃id es0,sel[i]?=some id∧own[id]?=some (some es0)∧es=es0.map (AV.cr (ct sel)):=by
 unfold jC at h
 rw[List.getElem?_map] at h
 cases hs:sel[i]? with
 |none=>simp[hs] at h
 |some id=>
  simp only[hs,Option.map_some,Option.some.injEq] at h
  cases hb:own[id]? with
  |none=>simp[hb] at h
  |some q=>
   cases q with
   |none=>simp[hb] at h
   |some es0=>
    simp only[hb,Option.join_some,Option.map_some,Option.some.injEq] at h
    exact⟨id,es0,rfl,hb,h.symm⟩
abbrev pR(c:Ctx)(sel:List Nat):Ctx:=⟨pS c.β sel,c.tk,c.im⟩
theorem VR.bZ{x:AV}{v:Value}(h:VR c x v):VR (pR c sel) (x.bZ (ct sel)) v:=by
 cases x with
 |any=>exact .base (.any _)
 |v x=>cases h.bc;exact .base (.v _)
 |agg cs=>exact .base (.any _)
 |ax cs=>exact .base (.any _)
 |aw=>cases h.ez;exact .base .aw
 |sl t k es=>
  cases t with
  |none=>exact .base h.fu
  |some t=>
   cases h with
   |base h=>cases h
   |tok hT h0 hk hle hcur=>exact .tok hT h0 hk hle hcur
 |mu id k off n cap=>
  simp only[AV.bZ]
  rcases h.cW with⟨g,hb,hcap,rfl⟩|⟨rfl,rfl,rfl⟩
  ·cases hs:ct sel id with
   |none=>exact .base (.any _)
   |some j=>exact .mu (BN (BL hs) hb) hcap
  ·cases hs:ct sel id with
   |none=>exact .base (.any _)
   |some j=>exact .jR
 |ptr id i o=>
  simp only[AV.bZ]
  obtain⟨g,k,hb,rfl⟩:=h.gR
  cases hs:ct sel id with
  |none=>exact .base (.any _)
  |some j=>exact .ptr (BN (BL hs) hb)
 |bQ cs=>obtain⟨b,o,rfl,h0⟩:=h.oy;exact .base h0
 |fn f cs=>
  cases cs with
  |nil=>
   obtain⟨vs,rfl,hn,_⟩:=h.iq
   have:vs=[]:=List.eq_nil_of_length_eq_zero (by simpa using hn)
   subst this
   exact .base (.fn f [] [] rfl aB)
  |cons=>exact .base (.any _)
theorem VR.rh{cs:List AV}{vs:List Value}{f:AV→AV}{d:Ctx}(hf:∀x v,VR c x v→VR d (f x) v)(hp:∀(i:Nat) (x:AV) (u:Value),cs[i]?=some x→vs[i]?=some u→VR c x u):∀(i:Nat) (x:AV) (u:Value),(cs.map f)[i]?=some x→vs[i]?=some u→VR d x u:=fun i x u h1 h2=>by
 rw[List.getElem?_map] at h1
 cases hc:cs[i]? with
 |none=>simp[hc] at h1
 |some z=>simp only[hc,Option.map_some,Option.some.injEq] at h1;subst h1;exact hf _ _ (hp i z u hc h2)
theorem VR.eY{x:AV}{v:Value}(h:VR c x v):VR (pR c sel) (x.eY (ct sel)) v:=by
 cases x with
 |agg cs=>
  obtain⟨vs,rfl,hn,hp⟩:=h.jt
  exact .agg _ vs (by simp[hn]) (VR.rh (fun _ _ h=>h.bZ) hp)
 |fn f cs=>
  obtain⟨vs,rfl,hn,hp⟩:=h.iq
  exact .fn f _ vs (by simp[hn]) (VR.rh (fun _ _ h=>h.bZ) hp)
 |_=>exact h.bZ
theorem VR.cr{x:AV}{v:Value}(h:VR c x v):VR (pR c sel) (x.cr (ct sel)) v:=by
 cases x with
 |ax cs=>
  obtain⟨vs,rfl,hn,hp⟩:=h.nN
  exact .ax _ vs (by simp[hn]) (VR.rh (fun _ _ h=>h.eY) hp)
 |_=>exact h.eY
theorem Bn(e:AV)(σ:Nat→Option Nat):(e.cr σ).leaves.length=e.leaves.length∧∀(j:Nat) (y:AV),(e.cr σ).leaves[j]?=some y→∃x,e.leaves[j]?=some x∧(y=x.bZ σ∨y=x.cr σ):=by
 cases e with
 |agg cs=>
  refine⟨by simp[AV.cr,AV.eY,AV.leaves],fun j y h=>?_⟩
  simp only[AV.cr,AV.eY,AV.leaves,List.getElem?_map] at h
  cases hc:cs[j]? with
  |none=>simp[hc] at h
  |some z=>simp only[hc,Option.map_some,Option.some.injEq] at h;exact⟨z,hc,.inl h.symm⟩
 |mu id k off n cap=>
  have hl:(AV.cr σ (.mu id k off n cap)).leaves=[AV.cr σ (.mu id k off n cap)]:=by simp only[AV.cr,AV.eY,AV.bZ];cases σ id<;>rfl
  rw[hl]
  refine⟨rfl,fun j y h=>?_⟩
  cases j with
  |zero=>simp only[List.getElem?_cons_zero,Option.some.injEq] at h;exact⟨_,rfl,.inr h.symm⟩
  |succ j=>simp at h
 |ptr id i o=>
  have hl:(AV.cr σ (.ptr id i o)).leaves=[AV.cr σ (.ptr id i o)]:=by simp only[AV.cr,AV.eY,AV.bZ];cases σ id<;>rfl
  rw[hl]
  refine⟨rfl,fun j y h=>?_⟩
  cases j with
  |zero=>simp only[List.getElem?_cons_zero,Option.some.injEq] at h;exact⟨_,rfl,.inr h.symm⟩
  |succ j=>simp at h
 |fn f cs=>
  refine⟨rfl,fun j y h=>?_⟩
  cases j with
  |zero=>simp only[AV.cr,AV.eY,AV.leaves,List.getElem?_cons_zero,Option.some.injEq] at h;exact⟨_,rfl,.inr h.symm⟩
  |succ j=>simp[AV.cr,AV.eY,AV.leaves] at h
 |_=>
  refine⟨rfl,fun j y h=>?_⟩
  cases j with
  |zero=>simp only[AV.cr,AV.eY,AV.bZ,AV.leaves,List.getElem?_cons_zero,Option.some.injEq] at h;exact⟨_,rfl,.inr h.symm⟩
  |succ j=>simp[AV.cr,AV.eY,AV.bZ,AV.leaves] at h
theorem Rel.norm(r:Rel w0 im0 c st a w)(sel:List Nat)(hnd:sel.Nodup)(hrsv:st.bR=none)(hup:st.up.map (AV.cr (ct sel))=st.up):
 Rel w0 im0 (pR c sel) { st with tmps:=st.tmps.map (AV.cr (ct sel)),own:=jC st.own sel } a w:=by
 have inj:∀{i j id:Nat},sel[i]?=some id→sel[j]?=some id→i=j:=fun{i j id} h1 h2=>by
  have hi:=bO h1
  have hj:=bO h2
  rw[List.getElem?_eq_getElem hi,Option.some.injEq] at h1
  rw[List.getElem?_eq_getElem hj,Option.some.injEq] at h2
  have hp:=List.pairwise_iff_getElem.1 hnd
  rcases Nat.lt_trichotomy i j with h|h|h
  ·exact absurd (h1.trans h2.symm) (hp i j hi hj h)
  ·exact h
  ·exact absurd (h2.trans h1.symm) (hp j i hj hi h)
 refine⟨r.defers,by simp[r.size],fun i x v h1 h2=>VR.rh (d:=pR c sel) (vs:=a.tmps.toList) (fun _ _ h=>h.cr) (fun i x u e1 e2=>r.tmps i x u e1 (by simpa using e2)) i x v h1 (by simpa using h2),r.below,r.c8,r.dp,r.ck,by simp[pS,jC],fun i g k es h1 h2=>?_,r.cH,r.tail,r.tok,⟨fun i j g1 k1 g2 k2 e1 e2 a1 a2 a3 a4 hij=>?_,fun i t g1 k1 e1 T b a1 a2 a3 a4=>?_,r.apart.tt⟩,r.dv,⟨r.up.1,fun i x v h1 h2=>?_⟩,fun l d i h1=>by rw[hrsv] at h1;simp at h1⟩
 ·obtain⟨id,hs,hb⟩:=tj h1
  obtain⟨id',es0,hs',ho,rfl⟩:=ti h2
  rw[hs,Option.some.injEq] at hs';subst hs'
  obtain⟨hnew,him,cs,ty,lo,hi,hblk,hfr,hsz,hlv,hcell⟩:=r.own id g k es0 hb ho
  refine⟨hnew,him,cs,ty,lo,hi,hblk,hfr,by rw[List.length_map];exact hsz,fun i e he=>?_,fun i e j y he hy=>?_⟩
  ·rw[List.getElem?_map] at he
   cases hc:es0[i]? with
   |none=>simp[hc] at he
   |some z=>simp only[hc,Option.map_some,Option.some.injEq] at he;subst he;rw[(Bn z _).1];exact hlv i z hc
  ·rw[List.getElem?_map] at he
   cases hc:es0[i]? with
   |none=>simp[hc] at he
   |some z=>
    simp only[hc,Option.map_some,Option.some.injEq] at he;subst he
    obtain⟨x,hx,hyx⟩:=(Bn z _).2 j y hy
    obtain⟨v,hv,hvr,h1⟩:=hcell i z j x hc hx
    refine⟨v,hv,?_,?_⟩
    ·rcases hyx with rfl|rfl
     ·exact hvr.bZ
     ·exact hvr.cr
    ·rcases h1 with rfl|h1
     ·rcases hyx with rfl|rfl<;>exact .inl rfl
     ·exact .inr h1
 ·obtain⟨id,hs,hb⟩:=tj a1
  obtain⟨jd,hs2,hb2⟩:=tj a2
  obtain⟨id',es0,hs',ho,rfl⟩:=ti a3
  obtain⟨jd',es2,hs2',ho2,rfl⟩:=ti a4
  rw[hs,Option.some.injEq] at hs';subst hs'
  rw[hs2,Option.some.injEq] at hs2';subst hs2'
  exact r.apart.oo id jd g1 k1 g2 k2 es0 es2 hb hb2 ho ho2 (fun e=>hij (by subst e;exact inj hs hs2))
 ·obtain⟨id,hs,hb⟩:=tj a1
  obtain⟨id',es0,hs',ho,rfl⟩:=ti a2
  rw[hs,Option.some.injEq] at hs';subst hs'
  exact r.apart.ot id t g1 k1 es0 T b hb ho a3 a4
 ·have h3:(st.up.map (AV.cr (ct sel)))[i]?=some x:=by rw[hup];exact h1
  exact VR.rh (d:=pR c sel) (fun _ _ h=>h.cr) r.up.2 i x v h3 h2
theorem Rel.rS(r:Rel w0 im0 c st a w):c.le ⟨c.β++[none],c.tk,c.im⟩∧Rel w0 im0 ⟨c.β++[none],c.tk,c.im⟩ { st with own:=st.own++[some []] } a w:=by
 have hle:c.le ⟨c.β++[none],c.tk,c.im⟩:=⟨fun i p h=>by
  show(c.β++[none])[i]?=some (some p)
  rw[List.getElem?_append_left (bO h)];exact h,fun t T h=>⟨T,h,rfl,.inl rfl⟩,.refl _⟩
 have hβ:∀{i:Nat} {p:Nat×Nat},(c.β++[none])[i]?=some (some p)→i<st.own.length∧c.β[i]?=some (some p):=fun{i p} h=>by
  rcases lJ _ _ _ _ h with⟨hl,h⟩|⟨_,h⟩
  ·exact⟨by rw[←r.bS];exact hl,h⟩
  ·simp at h
 have ho:∀{i:Nat} {e:List AV},i<st.own.length→(st.own++[some []])[i]?=some (some e)→st.own[i]?=some (some e):=fun{i e} hi h=>by
  rw[List.getElem?_append_left hi] at h;exact h
 exact⟨hle,r.defers,r.size,fun i x v e1 e2=>(r.tmps i x v e1 e2).mono hle,r.below,r.c8,r.dp,r.ck,by simp[r.bS],fun i g' k' es' e1 e2=>by
  obtain⟨hi,e1⟩:=hβ e1
  have:=r.own i g' k' es' e1 (ho hi e2)
  exact this.mono hle this.im rfl,r.cH,r.tail,r.tok,
  ⟨fun i j g1 k1 g2 k2 e1 e2 a1 a2 a3 a4 hij=>by
    obtain⟨hi,a1⟩:=hβ a1
    obtain⟨hj,a2⟩:=hβ a2
    exact r.apart.oo i j g1 k1 g2 k2 e1 e2 a1 a2 (ho hi a3) (ho hj a4) hij,fun i t g1 k1 e1 T b a1 a2 a3 a4=>by
    obtain⟨hi,a1⟩:=hβ a1
    exact r.apart.ot i t g1 k1 e1 T b a1 (ho hi a2) a3 a4,r.apart.tt⟩,r.dv,⟨r.up.1,fun i x v e1 e2=>(r.up.2 i x v e1 e2).mono hle⟩,fun l d i e1 e2=>by
    have:=r.hole l d i e1 e2
    show(c.β++[none])[i]?=some none
    rw[List.getElem?_append_left (bO this)];exact this⟩
theorem Rel.BU(r:Rel w0 im0 c st a w){id j:Nat}{cs:List AV}{x y:AV}(ho:st.own[id]?=some (some [.agg cs]))(hx:cs[j]?=some x)(hxn:x≠.any)(hy:∀v,VR c x v→VR c y v):Rel w0 im0 c { st with own:=st.own.set id (some [.agg (cs.set j y)]) } a w:=by
 have hlt:=bO ho
 have conv:∀{i:Nat} {e:List AV},(st.own.set id (some [.agg (cs.set j y)]))[i]?=some (some e)→(i=id∧e=[.agg (cs.set j y)])∨(i≠id∧st.own[i]?=some (some e)):=by
  intro i e he
  rw[List.getElem?_set] at he
  by_cases hi':id=i
  ·subst hi';rw[if_pos rfl,if_pos hlt] at he
   simp only[Option.some.injEq] at he;exact .inl ⟨rfl,he.symm⟩
  ·rw[if_neg hi'] at he;exact .inr ⟨Ne.symm hi',he⟩
 have old:∀{i:Nat} {e:List AV},(st.own.set id (some [.agg (cs.set j y)]))[i]?=some (some e)→∃e',st.own[i]?=some (some e'):=fun{i e} he=>by
  rcases conv he with⟨rfl,_⟩|⟨_,h⟩
  ·exact⟨_,ho⟩
  ·exact⟨_,h⟩
 refine⟨r.defers,r.size,r.tmps,r.below,r.c8,r.dp,r.ck,by simp[r.bS],fun i g k es h1 h2=>?_,r.cH,r.tail,r.tok,
  ⟨fun i j g1 k1 g2 k2 e1 e2 a1 a2 a3 a4 hij=>by
    obtain⟨_,a3⟩:=old a3
    obtain⟨_,a4⟩:=old a4
    exact r.apart.oo i j g1 k1 g2 k2 _ _ a1 a2 a3 a4 hij,fun i t g1 k1 e1 T b a1 a2 a3 a4=>by
    obtain⟨_,a2⟩:=old a2
    exact r.apart.ot i t g1 k1 _ T b a1 a2 a3 a4,r.apart.tt⟩,r.dv,r.up,r.hole⟩
 rcases conv h2 with⟨rfl,rfl⟩|⟨_,h2⟩
 ·obtain⟨hnew,him,ds,ty,lo,hi,hblk,hfr,hsz,hlv,hcell⟩:=r.own i g k _ h1 ho
  refine⟨hnew,him,ds,ty,lo,hi,hblk,hfr,hsz,fun i' e he=>?_,fun i' e j' z he hz=>?_⟩
  ·cases i' with
   |succ i'=>simp at he
   |zero=>
    simp only[List.getElem?_cons_zero,Option.some.injEq] at he;subst he
    have:=hlv 0 _ rfl
    simpa[AV.leaves] using this
  ·cases i' with
   |succ i'=>simp at he
   |zero=>
    simp only[List.getElem?_cons_zero,Option.some.injEq] at he;subst he
    have hz:(cs.set j y)[j']?=some z:=hz
    rw[List.getElem?_set] at hz
    by_cases hj:j=j'
    ·subst hj
     rw[if_pos rfl] at hz
     split at hz
     ·simp only[Option.some.injEq] at hz;subst hz
      obtain⟨v,e1,e2,e3⟩:=hcell 0 _ j x rfl hx
      refine⟨v,e1,hy v e2,.inr ?_⟩
      rcases e3 with e3|e3
      ·exact absurd e3 hxn
      ·exact e3
     ·simp at hz
    ·rw[if_neg hj] at hz;exact hcell 0 _ j' z rfl hz
 ·exact r.own i g k es h1 h2
end
section
variable{E:Env}{c:Code}{Q:Exit→St→Prop}{s:St}{ops:Array Oper}{l:List Oper}
theorem aa.norm(sel:List Nat)(hnd:sel.Nodup)(hrsv:s.bR=none)(hup:s.up.map (AV.cr (ct sel))=s.up)(hw:aa E c Q { s with tmps:=s.tmps.map (AV.cr (ct sel)),own:=jC s.own sel }):aa E c Q s:=
 fun w0 im0 _ a w h0 hG r=>hw w0 im0 _ a w h0 hG (r.norm sel hnd hrsv hup)
theorem Xl{α:Type}(l m:List α)(i:Nat)(x:α)(h:i<l.length):(l++m).set i x=l.set i x++m:=by rw[List.set_append_left _ _ h]
theorem aa.kE(id j k:Nat)(cs:List AV)(ho:s.own[id]?=some (some [.agg cs]))(hx:cs[j]?=some .aw)(hw:aa E c Q { s with own:=s.own.set id (some [.agg (cs.set j (.mu s.own.length k 0 0 0))])++[some []] }):aa E c Q s:=by
 intro w0 im0 cx a w h0 hG r
 obtain⟨_,r1⟩:=r.rS
 have r2:=r1.BU (id:=id) (j:=j) (cs:=cs) (x:= .aw) (y:= .mu s.own.length k 0 0 0) (by show(s.own++[some []])[id]?=_;rw[List.getElem?_append_left (bO ho)];exact ho) hx aB (fun v hv=>by cases hv.ez;exact .jR)
 have e:(s.own++[some []]).set id (some [.agg (cs.set j (.mu s.own.length k 0 0 0))])=s.own.set id (some [.agg (cs.set j (.mu s.own.length k 0 0 0))])++[some []]:=Xl _ _ _ _ (bO ho)
 have r2:Rel w0 im0 _ { s with own:=(s.own++[some []]).set id (some [.agg (cs.set j (.mu s.own.length k 0 0 0))]) } a w:=r2
 rw[e] at r2
 exact hw w0 im0 _ a w h0 hG r2
theorem aa.eS(id j:Nat){jd k n cap:Nat}(cs es:List AV)(hne:jd≠id)(ho:s.own[id]?=some (some [.agg cs]))(hx:cs[j]?=some (.mu jd k 0 n cap))(ho2:s.own[jd]?=some (some es))(hn:n≤es.length)(hc:∀e∈es.take n,∀x∈e.leaves,x.dN=some x)
 (hw:aa E c Q { s with own:=(s.own.set jd none).set id (some [.agg (cs.set j (.sl none k (es.take n)))]) }):aa E c Q s:=by
 intro w0 im0 cx a w h0 hG r
 have hlen:(es.take n).length=n:=by rw[List.length_take];omega
 have key:∃c',cx.le c'∧Rel w0 im0 c' { s with own:=s.own.set jd none } a w∧∀v,VR c' (.mu jd k 0 n cap) v→VR c' (.sl none k (es.take n)) v:=by
  cases hb:cx.β[jd]? with
  |none=>exact⟨cx,.refl _,r.mo jd,fun v hv=>by
    rcases hv.cW with⟨g,hb',_,_⟩|⟨rfl,rfl,rfl⟩
    ·rw[hb] at hb';simp at hb'
    ·rw[List.take_zero];exact .base (.de k none 0)⟩
  |some p=>
   cases p with
   |none=>exact⟨cx,.refl _,r.mo jd,fun v hv=>by
     rcases hv.cW with⟨g,hb',_,_⟩|⟨rfl,rfl,rfl⟩
     ·rw[hb] at hb';simp at hb'
     ·rw[List.take_zero];exact .base (.de k none 0)⟩
   |some p=>
    obtain⟨g,k'⟩:=p
    obtain⟨c',hle,hβ,_,_,r',cv,hl,hm,h1,hvr⟩:=r.oi (n:=n) hb ho2 rfl hc
    refine⟨c',hle,r',fun v hv=>?_⟩
    rcases hv.cW with⟨g',hb',hcap,rfl⟩|⟨rfl,rfl,rfl⟩
    ·rw[hβ,hb] at hb'
     simp only[Option.some.injEq,Prod.mk.injEq] at hb'
     obtain⟨rfl,rfl⟩:=hb'
     have:=aT.sl (im:=c'.im) k' (es.take n) g 0 cap cv ab hl (fun i e j x he hj=>by rw[Nat.zero_add];exact hm i e j x he hj) h1 hvr
     rw[hlen] at this
     rw[Nat.zero_mul];exact .base this
    ·rw[List.take_zero];exact .base (.de k none 0)
 obtain⟨c',hle,r',hv⟩:=key
 have hown:(s.own.set jd none)[id]?=some (some [.agg cs]):=by rw[List.getElem?_set_ne hne];exact ho
 have r2:=r'.BU (y:= .sl none k (es.take n)) hown hx aB hv
 exact hw w0 im0 c' a w h0 hG r2
end
theorem gK.jw{own:List (Option (List AV))}{id k n cap:Nat}{es sp:List AV}(h:own[id]?=some (some (es++sp)))(hn:n=es.length)(hc:∀e∈es,∀x∈e.leaves,x.dN=some x):gK own (.mu id k 0 n cap) (.sl none k es):=by
 subst hn
 have:=gK.mu (k:=k) (cap:=cap) h (n:=es.length) aB (by rw[List.take_left];exact hc)
 rw[List.take_left] at this;exact this
theorem ak.hP{E:Env}{ops:Array Oper}{d:Option Tmp}{l:List Oper}{st:St}{K:St→Prop}{g:FuncId}{caps xs ys:List AV}{x:Value}(hc:ai E g ys fun r t=>r= .v x∧t=[])(hb:ar E.P g=true)(hr:st.bR=none)(hy:ij (iH st.own) (xs++caps) ys)
 (h:cD E ops l (st.put d (.v x)) K):ak E ops (.fn g caps) xs d l st K:=ak.snap hc hb hr hy fun r t ⟨h1,h2⟩=>by
 subst h1;subst h2
 rw[List.append_nil];exact⟨trivial,h⟩
theorem aa.oj{E:Env}{c:Code}{Q:Exit→St→Prop}{s:St}(i id k n cap:Nat)(es sp:List AV)(hi:s.tmps[i]?=some (.mu id k 0 n cap))(ho:s.own[id]?=some (some (es++sp)))(hn:n=es.length)(hc:∀e∈es,∀x∈e.leaves,x.dN=some x)
 (hw:aa E c Q { s with tmps:=s.tmps.set i (.sl none k es),own:=s.own.set id none }):aa E c Q s:=by
 subst hn
 intro w0 im0 cx a w h0 hG r
 have hlt:i<a.tmps.size:=by rw[r.size];exact bO hi
 rcases(r.tmps i _ _ hi (Array.getElem?_eq_getElem hlt)).cW with⟨g,hb,hcap,hv⟩|⟨hz,_,hv⟩
 ·obtain⟨c',hle,hβ,_,_,r',cv,hl,hm,h1,hvr⟩:=r.oi (n:=es.length) (es':=es) hb ho List.take_left.symm hc
  refine hw w0 im0 c' a w h0 hG (r'.rm fun v hv'=>?_)
  rw[Array.getElem?_eq_getElem hlt,Option.some.injEq] at hv'
  rw[←hv',hv]
  have:=aT.sl (im:=c'.im) k es g (0*k) cap cv hcap hl (fun i e j x he hj=>by rw[Nat.zero_mul,Nat.zero_add];exact hm i e j x he hj) h1 hvr
  exact .base this
 ·have hes:es=[]:=List.eq_nil_of_length_eq_zero hz
  subst hes
  have r':=r.rm (i:=i) (y:= .sl none k []) fun v hv'=>by
   rw[Array.getElem?_eq_getElem hlt,Option.some.injEq] at hv'
   rw[←hv',hv];exact .base (.de k none 0)
  exact hw w0 im0 cx a w h0 hG (r'.mo id)
end Go.az
namespace Go.az
open Go Go.RowKit
theorem aa.fin{E:Env}{y:Code}{Q:Exit→St→Prop}{K:St→Prop}{s:St}(h:∀s,aa E y Q s→K s)(g:aa E y Q s):K s:=h s g
def o4:Nat→Code→Nat×Nat×Nat
 |_+1,.region i ops _=>(i,(match ops[0]? with|some o=>o.dst.getD 0|none=>0),ops.size)
 |n+1,.seq a _=>o4 n a
 |n+1,.cond _ a _=>o4 n a
 |n+1,.block _ b=>o4 n b
 |n+1,.loop b=>o4 n b
 |n+1,.scope b=>o4 n b
 |_,_=>(0,0,0)
theorem aa.dY{E:Env}{Q:Exit→St→Prop}{st:St}{ι:Type}{c:Code}(hv:List Nat)(ps:ι→List (Nat×AV))(I:ι→Prop)(μ:ι→Nat)(i:ι)
 (hw0:st.Wk (st.at hv (ps i) st.own st.tk)) (hI:I i)
 (round:∀i,I i→aa E c (jf (fun s'=>∃j,s'.Wk (st.at hv (ps j) st.own st.tk)∧I j∧μ j<μ i) Q) (st.at hv (ps i) st.own st.tk)):aa E (.loop c) Q st:=aa.mE hv ps I μ i hw0 hI round
theorem aa.dR{E:Env}{Q:Exit→St→Prop}{st:St}{ι:Type}{c:Code}(hv:List Nat)(ps:ι→List (Nat×AV))(own:ι→List (Option (List AV)))(tk:ι→List Nat)(I:ι→Prop)(μ:ι→Nat)(i:ι)
 (hw0:st.Wk (st.at hv (ps i) (own i) (tk i))) (hI:I i)
 (round:∀i,I i→aa E c (jf (fun s'=>∃j,s'.Wk (st.at hv (ps j) (own j) (tk j))∧I j∧μ j<μ i) Q) (st.at hv (ps i) (own i) (tk i))):aa E (.loop c) Q st:=aa.vr hv ps own tk I μ i hw0 hI round
theorem aa.here(n d k:Nat){E:Env}{Q:Exit→St→Prop}{st:St}{c:Code}(hn:(o4 30 c==(n,d,k))=true)(h:aa E c Q st):aa E c Q st:=h
theorem bT.ret{P:Program}{rs:List ResultVar}{st s:St}{K:St→AV→Prop}(hu:s.up=st.tmps++st.up)(h:ig P s rs fun l=>K { s with tmps:=st.tmps,up:=st.up } (fx l)):bT P rs st K .ret s:=⟨hu,h⟩
theorem sx{α:Type}{l:List α}{i:Nat}{x:α}(h:l[i]?=some x):l.drop i=x::l.drop (i+1):=by
 obtain⟨hi,rfl⟩:=List.getElem?_eq_some_iff.1 h
 exact List.drop_eq_getElem_cons hi
theorem aM.is{P:Program}{rs:List ResultVar}{X:AV}{st:St}(h:ig P st rs fun l=>oP [] (fx l) X):aM P rs (fun r t=>r=X∧t=[]) st:=by
 have key:∀(rs:List ResultVar) (k k':List AV→Prop),(∀l,k l→k' l)→ig P st rs k→ig P st rs k':=by
  intro rs
  induction rs with
  |nil=>intro k k' hk h;exact hk _ h
  |cons r rs ih=>
   intro k k' hk h
   cases r with
   |tmp t=>exact ih _ _ (fun l hl=>hk _ hl) h
   |cell x t=>
    obtain⟨cs,h1,h2⟩:=h
    refine⟨cs,h1,?_⟩
    split at h2
    ·exact⟨h2.1,ih _ _ (fun l hl=>hk _ hl) h2.2⟩
    ·obtain⟨y,h3,h4⟩:=h2;exact⟨y,h3,ih _ _ (fun l hl=>hk _ hl) h4⟩
    ·exact h2
 exact key rs _ _ (fun l hl=>⟨[],X,rfl,hl,rfl,rfl⟩) h
theorem aI{x y:Value}{sel:List (Bool×Nat)}:ke sel (.v x) (.v y)=(x=y):=rfl
theorem aH{t:Option Nat}{k k':Nat}{es es':List AV}{sel:List (Bool×Nat)}:ke sel (.sl t k es) (.sl none k' es')=(k=k'∧es=es'):=by cases t<;>rfl
theorem aG{k':Nat}{es':List AV}{sel:List (Bool×Nat)}:ke sel .aw (.sl none k' es')=(es'=[]):=by cases es'<;>simp[ke]
theorem aK{k k':IntKind}{n n':Int}:(Value.int k n=Value.int k' n')=(k=k'∧n=n'):=by simp
theorem aJ{n n':Bool}:(Value.bool n=Value.bool n')=(n=n'):=by simp
theorem aL{n n':ByteArray}:(Value.string n=Value.string n')=(n=n'):=by simp
end Go.az
namespace Go.az
open Go Go.RowKit
def uc:List Oper→List (List Nat)→List (List Nat)
 |[],acc=>acc
 |o::l,acc=>uc l (acc++[(o.after.toList.filter (Region.binds .any)).flatMap fun e=>e.on::acc.getD e.on []])
theorem aa.bA{E:Env}{st:St}{id:Nat}{l:List Oper}{Q:Exit→St→Prop}(is:List Nat)(ds:List Tmp)(hm:E.P.follows .mixedOrders=true)
 (hx:(let anc:=uc l [];gy l.toArray anc&&iv E.P l.toArray anc true (cK.ofList is) (Array.replicate l.toArray.size false) l.toArray.size&&decide ds.Nodup)=true) {l':List Oper} (hl:pI l is=some l') (h:cD E l.toArray l' (st.ky ds) (lh (Q .normal))):aa E (.region id l.toArray true) Q st:=by
 simp only[Bool.and_eq_true,decide_eq_true_eq] at hx
 exact aa.Wa is (uc l []) ds hm (by simp only[Bool.and_eq_true];exact hx.1) hx.2 hl h
theorem ak.sn{E:Env}{ops:Array Oper}{d:Option Tmp}{l:List Oper}{st:St}{K:St→Prop}{g:FuncId}{caps xs ys:List AV}{x:AV}(hy:ij (iH st.own) (xs++caps) ys)(hc:ai E g ys fun r t=>r=x∧t=[])(hb:ar E.P g=true)(hr:st.bR=none)(hf:j9 [] x:=by first|exact⟨_,rfl⟩|(simp[j9,ln,lj];done))
 (h:cD E ops l (st.put d (x.shift st.tk.length)) K):ak E ops (.fn g caps) xs d l st K:=ak.snap hc hb hr hy fun r t ⟨h1,h2⟩=>by
 subst h1;subst h2
 refine⟨hf,?_⟩
 rw[List.append_nil];exact h
end Go.az
namespace Go.az
open Go Go.RowKit
theorem al.Fx{E:Env}{Q:Exit→St→Prop}{st:St}{ops:Array Oper}{l:List Oper}{g:FuncId}{caps:List AV}{dst:Option Tmp}{f:Operand}{xs:Array Operand}{tys:Array TypeId}{ty:TypeId}{pos:String}{after:Array Edge}
 (hc:ar E.P g=true) (he:st.ev f= .fn g caps)
 (h:∀(w0:World) (im0:cU) (cx:Ctx) (a:Act) (w:World) (vs:List Value),E.ok w0→jg E im0→Rel w0 im0 cx st a w→Pw cx (xs.toList.map st.ev++caps) vs→
   Calls E.P g vs.toArray w fun e w'=>∃v,e= .returned v∧∃cx' st' z,Rel w0 im0 cx' st' a w'∧VR cx' z v∧al E ops l Q (st'.put dst z)):
 al E ops (⟨dst,.call ⟨.value f,xs,tys⟩,ty,pos,after,none⟩::l) Q st:=by
 intro w0 im0 cx a w h0 hG r
 refine wpList_step (fun K' hK'=>?_)
 have hw:Region.wanted ⟨dst,.call ⟨.value f,xs,tys⟩,ty,pos,after,none⟩ (yielded ops a.tmps)=true:=rfl
 rw[if_pos hw]
 have hv:=r.ev f
 rw[he] at hv
 obtain⟨us,hfe,hnu,hpu⟩:=hv.iq
 have hargs:Pw cx (xs.toList.map st.ev++caps) (xs.toList.map a.eval++us):=by
  refine⟨by simp[hnu],fun i x v h1 h2=>?_⟩
  rcases fT _ _ _ _ h1 with⟨l1,h1⟩|⟨l1,h1⟩
  ·rw[List.getElem?_append_left (by simpa using l1)] at h2
   rw[List.getElem?_map] at h1 h2
   cases hc:xs.toList[i]? with
   |none=>simp[hc] at h1
   |some z=>simp only[hc,Option.map_some,Option.some.injEq] at h1 h2;subst h1;subst h2;exact r.ev z
  ·rw[List.getElem?_append_right (by simpa using l1)] at h2
   have:(xs.toList.map a.eval).length=(xs.toList.map st.ev).length:=by simp
   rw[this] at h2
   exact hpu _ _ _ h1 h2
 have hrun:(execOp a.eval ⟨dst,.call ⟨.value f,xs,tys⟩,ty,pos,after,none⟩).run E.P w= .ok (.enter g (xs.toList.map a.eval++us).toArray) w:=by
  unfold ar at hc
  split at hc
  ·rename_i fn hf
   simp only[Bool.and_eq_true,Bool.not_eq_true'] at hc
   obtain⟨hn1,hn2⟩:=hc
   have hbn:fn.body.isNone=false:=by
    cases hb:fn.body with
    |none=>rw[hb] at hn2;simp at hn2
    |some b=>rfl
   have harr:Array.map a.eval xs++us.toArray=(xs.toList.map a.eval++us).toArray:=by
    apply Array.ext'
    simp
   have he':a.eval f= .func (.func g) #[] us.toArray:=hfe
   simp only[execOp,resolve,he',Deferred.ofValue,Sem.run_bind,Sem.run_pure,Result.andThen_ok,invoke,callFunc,run_program,hf,hn1,Bool.false_eq_true,if_false,hbn,Array.empty_append,harr]
  ·simp at hc
 unfold Oper.wp
 rw[hrun]
 simp only[Oper.upon]
 refine(h w0 im0 cx a w _ h0 hG r hargs).mono ?_
 rintro e w' ⟨v,rfl,cx',st',z,r',hz,hk⟩
 exact hK' _ _ (hk w0 im0 cx' _ w' h0 hG (r'.put dst hz))
end Go.az
namespace Go.az
open Go Go.RowKit
theorem al.at(n k:Nat){E:Env}{Q:Exit→St→Prop}{st:St}{ops:Array Oper}{l:List Oper}(hn:(l.length==n)=true)(h:cD E ops (l.take k) st (al E ops (l.drop k) Q)):al E ops l Q st:=by
 have:=al.app h
 rwa[List.take_append_drop] at this
end Go.az
namespace Go.az
open Go Go.RowKit
theorem aa.TP{E:Env}{c:Code}{Q:Exit→St→Prop}{s:St}(i k:Nat)(h:s.tmps[i]?=some .aw)(hw:aa E c Q { s with tmps:=s.tmps.set i (.mu s.own.length k 0 0 0),own:=s.own++[some []] }):aa E c Q s:=by
 intro w0 im0 cx a w h0 hG r
 obtain⟨_,r'⟩:=r.rS
 refine hw w0 im0 ⟨cx.β++[none],cx.tk,cx.im⟩ a w h0 hG ?_
 refine⟨r'.defers,by simp[r'.size],fun j x v h1 h2=>?_,r'.below,r'.c8,r'.dp,r'.ck,r'.bS,r'.own,r'.cH,r'.tail,r'.tok,r'.apart,r'.dv,r'.up,r'.hole⟩
 rw[List.getElem?_set] at h1
 split at h1
 ·rename_i hij
  subst hij
  split at h1
  ·simp only[Option.some.injEq] at h1;subst h1
   have:=r'.tmps i .aw v h h2
   cases this.ez
   exact .jR
  ·simp at h1
 ·exact r'.tmps j x v h1 h2
theorem Xi{n:Nat}:ct [] n=none:=by simp[ct]
theorem Xh{x n:Nat}{l:List Nat}:ct (x::l) n=if n=x then some 0 else(ct l n).map (· +1):=by
 unfold ct
 by_cases h:n=x
 ·subst h;simp
 ·by_cases h2:n∈l
  ·have:¬x=n:=fun e=>h e.symm
   have hb:(x==n)=false:=by simp[this]
   simp[h,h2,List.idxOf_cons,hb]
  ·simp[h,h2]
theorem Bo{α:Type}{f:α→AV}{σ:Nat→Option Nat}{l:List α}{k m:Nat}(h:∀x,AV.cr σ (f x)=f x):(l.map f++spare k m).map (AV.cr σ)=l.map f++spare k m:=by
 rw[List.map_append,List.map_map]
 congr 1
 ·exact List.map_congr_left fun x _=>h x
 ·simp[spare,AV.cr,AV.eY,AV.bZ]
theorem Wc{σ:Nat→Option Nat}{l:List (List UInt8)}{m:Nat}:(l.map str++spare 1 m).map (AV.cr σ)=l.map str++spare 1 m:=Bo fun _=>rfl
attribute [go_sem] Xi Xh Wc Option.join_some Option.join_none
theorem aa.jA{E:Env}{c:Code}{Q:Exit→St→Prop}{s:St}(sel:List Nat)(hnd:sel.Nodup)(hrsv:s.bR=none)(hup:s.up.map (AV.cr (ct sel))=s.up)(hw:aa E c Q { s with tmps:=s.tmps.map (AV.cr (ct sel)),own:=sel.map fun id=>((s.own[id]?).join).map (·.map (AV.cr (ct sel))) }):aa E c Q s:=aa.norm sel hnd hrsv hup hw
attribute [go_sem] AV.cr AV.bZ AV.eY
end Go.az
namespace Go.az
open Go Go.RowKit
theorem um{α:Type}{no nt k m:Nat}{f:α→AV}{l:List α}(h:∀x,∀z∈(f x).leaves,z.br no nt=true):∀es,some (l.map f++spare k m)=some es→∀e∈es,∀z∈e.leaves,z.br no nt=true:=by
 intro es he e hm z hz
 cases he
 rcases List.mem_append.1 hm with hm|hm
 ·obtain⟨x,_,rfl⟩:=List.mem_map.1 hm
  exact h x z hz
 ·have:=(List.mem_replicate.1 hm).2
  subst this
  have:=(List.mem_replicate.1 hz).2
  subst this;rfl
theorem sc{no nt m:Nat}{l:List (List UInt8)}:∀es,some (l.map str++spare 1 m)=some es→∀e∈es,∀z∈e.leaves,z.br no nt=true:=um fun x z hz=>by
 simp only[AV.leaves,List.mem_cons,List.not_mem_nil,or_false] at hz
 subst hz;rfl
end Go.az
namespace Go.az
open Go Go.RowKit
theorem bj{no nt:Nat}{r:List AV}(h:(r.all fun e=>e.leaves.all (AV.br no nt))=true):∀es,some r=some es→∀e∈es,∀z∈e.leaves,z.br no nt=true:=by
 intro es he e hm z hz
 cases he
 exact List.all_eq_true.1 (List.all_eq_true.1 h e hm) z hz
end Go.az
namespace Go.az
structure Stop(p:Prop):Prop where
 out:p
theorem Stop.at{p:Prop}(h:Stop p):p:=h.out
theorem Stop.go{p:Prop}(h:p):Stop p:=⟨h⟩
end Go.az
namespace Go.az
open Go Go.RowKit
theorem xA{E:Env}{ops:Array Oper}{i:Nat}{C D:St→Prop}{st:St}(hcd:∀s,C s→D s)(h:bH E ops i C st):bH E ops i D st:=by
 unfold bH at h ⊢
 split at h
 ·exact hcd _ h
 ·obtain⟨q,h1,h2,h3⟩:=h
  exact⟨q,h1,fun hq=>oU (h2 hq) hcd,fun hq=>hcd _ (h3 hq)⟩
theorem qk{E:Env}{ops:Array Oper}{K L:St→Prop}(hk:∀s,K s→L s):∀{p:cK} {st:St},et E ops K p st→et E ops L p st
 |.done,_,h=>hk _ h
 |.take i p,_,h=>xA (fun s hs=>qk hk hs) h
 |.fork p,_,h=>qk (p:=p) hk h
 |.alt i p r,_,h=>⟨xA (fun s hs=>qk hk hs) h.1,qk hk h.2⟩
 |.ends,_,h=>h
theorem aa.ov{E:Env}{st:St}{id:Nat}{l:List Oper}{Q:Exit→St→Prop}(x:cK)(anc:List (List Nat))(ds:List Tmp)(hm:E.P.follows .mixedOrders=true)
 (hx:(gy l.toArray anc&&iv E.P l.toArray anc true x (Array.replicate l.toArray.size false) l.toArray.size)=true) (hd:ds.Nodup) (S:St) (h:et E l.toArray (lh fun s=>s=S) x (st.ky ds)) (hk:Q .normal S):aa E (.region id l.toArray true) Q st:=
 aa.vZ x anc ds hm hx hd (qk (fun s (hs:lh (fun s=>s=S) s)=>(show Q .normal { s with bR:=none } from by
  have:({ s with bR:=none }:St)=S:=hs
  rw[this];exact hk)) h)
end Go.az
end
