/- Texts of one chain, put together (Lc, Ld). -/
import Derived.Test.YthoonfpkfdjhiaaGreatDoorKcC
import Derived.ProofKit
import Derived.Lib.UnsafeStr
import Derived.Test.YthoonfpkfdjhiaaGreatDoorKcA
set_option linter.unusedVariables false
set_option linter.unusedSimpArgs false
set_option maxHeartbeats 16000000
set_option maxRecDepth 8000
section
namespace Go.az
open Go Go.RowKit
def aP(q:Option Bool)(E:Env)(ops:Array Oper)(o:Oper)(l:List Oper)(st:St)(K:St→Prop):Prop:=
 ∃b,q=some b∧(b=true→eh E o st fun s=>cF E ops l s K)∧(b=false→cF E ops l (st.put o.dst (.v undef)) K)
def cR(F:(AV→Prop)→Prop)(E:Env)(ops:Array Oper)(d:Option Tmp)(l:List Oper)(st:St)(K:St→Prop):Prop:=F fun y=>cF E ops l (st.put d y) K
def eQ(F:(St→AV→Prop)→Prop)(E:Env)(ops:Array Oper)(d:Option Tmp)(l:List Oper)(K:St→Prop):Prop:=F fun s y=>cF E ops l (s.put d y) K
def fN(F:(St→Prop)→Prop)(E:Env)(ops:Array Oper)(d:Option Tmp)(l:List Oper)(K:St→Prop):Prop:=F fun s=>cF E ops l (s.put d (.v undef)) K
def ak(E:Env)(ops:Array Oper)(f:AV)(xs:List AV)(d:Option Tmp)(l:List Oper)(st:St)(K:St→Prop):Prop:=oK E st f xs fun s y=>cF E ops l (s.put d y) K
def dz(E:Env)(ops:Array Oper)(o:Oper)(l:List Oper)(st:St)(K:St→Prop):Prop:=eh E o st fun s=>cF E ops l s K
def tV(u:Option TypeDesc)(E:Env)(ops:Array Oper)(o:Oper)(s d:TypeId)(x:Operand)(l:List Oper)(st:St)(K:St→Prop):Prop:=
 match u with
 |some (.slice _)=>eQ (fun k=>rL E.P s d (st.ev x) st k) E ops o.dst l K
 |_=>cR (fun k=>oL E.P s d (st.ev x) k) E ops o.dst l st K
@[congr] theorem cR.congr{F G:(AV→Prop)→Prop}{E:Env}{ops:Array Oper}{d:Option Tmp}{l:List Oper}{st:St}{K:St→Prop}(h:∀k,F k=G k):cR F E ops d l st K=cR G E ops d l st K:=by rw[funext h]
@[congr] theorem eQ.congr{F G:(St→AV→Prop)→Prop}{E:Env}{ops:Array Oper}{d:Option Tmp}{l:List Oper}{K:St→Prop}(h:∀k,F k=G k):eQ F E ops d l K=eQ G E ops d l K:=by rw[funext h]
@[congr] theorem fN.congr{F G:(St→Prop)→Prop}{E:Env}{ops:Array Oper}{d:Option Tmp}{l:List Oper}{K:St→Prop}(h:∀k,F k=G k):fN F E ops d l K=fN G E ops d l K:=by rw[funext h]
section
variable{E:Env}{ops:Array Oper}{o:Oper}{d:Option Tmp}{l:List Oper}{st:St}{K:St→Prop}
@[go_sem] theorem acf:cF E ops [] st K=K st:=rfl
@[go_sem] theorem ace:cF E ops (o::l) st K=aP (eD ops o st) E ops o l st K:=rfl
@[go_sem] theorem aP.yes:aP (some true) E ops o l st K=dz E ops o l st K:=by simp[aP,dz]
@[go_sem] theorem aP.no:aP (some false) E ops o l st K=cF E ops l (st.put o.dst (.v undef)) K:=by simp[aP]
theorem aP.split{b:Bool}(h1:b=true→dz E ops o l st K)(h2:b=false→cF E ops l (st.put o.dst (.v undef)) K):aP (some b) E ops o l st K:=⟨b,rfl,h1,h2⟩
theorem aP.df{b:Bool}(h1:b=true→cF E ops l (st.put o.dst (.v undef)) K)(h2:b=false→dz E ops o l st K):aP (some (!b)) E ops o l st K:=⟨!b,rfl,fun h=>h2 (by simpa using h),fun h=>h1 (by simpa using h)⟩
@[go_sem] theorem cR.at{x:AV}:cR (fun k=>k x) E ops d l st K=cF E ops l (st.put d x) K:=rfl
@[go_sem] theorem cR.and{p:Prop}{F:(AV→Prop)→Prop}:cR (fun k=>p∧F k) E ops d l st K=(p∧cR F E ops d l st K):=rfl
@[go_sem] theorem cR.ex{α:Type}{F:α→(AV→Prop)→Prop}:cR (fun k=>∃x,F x k) E ops d l st K=(∃x,cR (F x) E ops d l st K):=rfl
@[go_sem] theorem cR.all{p:Bool→Prop}{g:Bool→AV}:cR (fun k=>∀b,p b→k (g b)) E ops d l st K=(∀b,p b→cF E ops l (st.put d (g b)) K):=rfl
@[go_sem] theorem cR.none:cR (fun _=>False) E ops d l st K=False:=rfl
@[go_sem] theorem eQ.at{s:St}{x:AV}:eQ (fun k=>k s x) E ops d l K=cF E ops l (s.put d x) K:=rfl
@[go_sem] theorem eQ.and{p:Prop}{F:(St→AV→Prop)→Prop}:eQ (fun k=>p∧F k) E ops d l K=(p∧eQ F E ops d l K):=rfl
@[go_sem] theorem eQ.ex{α:Type}{F:α→(St→AV→Prop)→Prop}:eQ (fun k=>∃x,F x k) E ops d l K=(∃x,eQ (F x) E ops d l K):=rfl
@[go_sem] theorem eQ.none:eQ (fun _=>False) E ops d l K=False:=rfl
@[go_sem] theorem fN.at{s:St}:fN (fun k=>k s) E ops d l K=cF E ops l (s.put d (.v undef)) K:=rfl
@[go_sem] theorem fN.and{p:Prop}{F:(St→Prop)→Prop}:fN (fun k=>p∧F k) E ops d l K=(p∧fN F E ops d l K):=rfl
@[go_sem] theorem fN.ex{α:Type}{F:α→(St→Prop)→Prop}:fN (fun k=>∃x,F x k) E ops d l K=(∃x,fN (F x) E ops d l K):=rfl
@[go_sem] theorem fN.none:fN (fun _=>False) E ops d l K=False:=rfl
theorem ak.of{g:FuncId}{caps xs ys:List AV}{R:AV→List Nat→Prop}(hc:ai E g ys R)(hb:ar E.P g=true)(hy:ml (xs++caps)=some ys)
 (h:∀r t,R r t→cF E ops l (St.put { st with tk:=st.tk++t } d (r.shift st.tk.length)) K):ak E ops (.fn g caps) xs d l st K:=⟨hb,.inl ⟨ys,hy,R,hc,h⟩⟩
theorem ak.snap{g:FuncId}{caps xs ys:List AV}{R:AV→List Nat→Prop}(hc:ai E g ys R)(hb:ar E.P g=true)(hr:st.bS=none)(hy:ij (iG st.own) (xs++caps) ys)
 (h:∀r t,R r t→kh t r∧cF E ops l (St.put { st with tk:=st.tk++t } d (r.shift st.tk.length)) K):ak E ops (.fn g caps) xs d l st K:=⟨hb,.inr ⟨hr,ys,hy,R,hc,.inl h⟩⟩
theorem ak.take{g:FuncId}{caps xs ys:List AV}{R:AV→List Nat→Prop}(hc:ai E g ys R)(hb:ar E.P g=true)(hr:st.bS=none)(hy:ij (iG st.own) (xs++caps) ys)
 (h:∀r tks,R r tks→∃t k es,r= .sl (some t) k es∧tks[t]?=some es.length∧(∀e∈es,e.leaves.length=k∧∀y∈e.leaves,∃z,y= .v z)∧
   ∀m,cF E ops l (St.put { st with own:=st.own++[some (es++spare k m)] } d (.mu st.own.length k 0 es.length (es.length+m))) K):ak E ops (.fn g caps) xs d l st K:=⟨hb,.inr ⟨hr,ys,hy,R,hc,.inr h⟩⟩
theorem ak.one{g:FuncId}{caps xs ys:List AV}{x:AV}(hc:ai E g ys fun r t=>r=x∧t=[])(hb:ar E.P g=true)(hy:ml (xs++caps)=some ys)
 (h:cF E ops l (st.put d (x.shift st.tk.length)) K):ak E ops (.fn g caps) xs d l st K:=ak.of hc hb hy fun r t ⟨h1,h2⟩=>by
 subst h1;subst h2
 rw[List.append_nil];exact h
variable{ty:TypeId}{pos:String}{after:Array Edge}{guard:Option (Nat×Bool)}
@[go_sem] theorem acJ{t:TypeId}:dz E ops ⟨d,.alloc t,ty,pos,after,guard⟩ l st K=eQ (fun k=>iE E.P t d st k) E ops d l K:=rfl
@[go_sem] theorem acN{t:TypeId}{x:Operand}:dz E ops ⟨d,.box t x,ty,pos,after,guard⟩ l st K=eQ (fun k=>rJ (st.ev x) st k) E ops d l K:=rfl
@[go_sem] theorem ac7{t:TypeId}{x y:Operand}:dz E ops ⟨d,.store t x y,ty,pos,after,guard⟩ l st K=fN (fun k=>oN E.P t (st.ev x) (st.ev y) st k) E ops d l K:=rfl
@[go_sem] theorem ac2{t:TypeId}{n:Nat}{ps:Array (Nat×Operand)}:dz E ops ⟨d,.buildSlice t n ps,ty,pos,after,guard⟩ l st K=eQ (fun k=>qj E.P t n (fS st ps) st k) E ops d l K:=rfl
@[go_sem] theorem acQ{s t:TypeId}{x:Operand}:dz E ops ⟨d,.convert s t x,ty,pos,after,guard⟩ l st K=tV (E.P.underlying t) E ops ⟨d,.convert s t x,ty,pos,after,guard⟩ s t x l st K:=by
 simp only[dz,eh,tV]
 generalize E.P.underlying t=u
 cases u with
 |none=>rfl
 |some u=>cases u<;>rfl
@[go_sem] theorem acK{t tx:TypeId}{x y:Operand}:dz E ops ⟨d,.call ⟨.builtin .append,#[x,y],#[t,tx]⟩,ty,pos,after,guard⟩ l st K=eQ (fun k=>qb E.P t tx (st.ev x) (st.ev y) st k) E ops d l K:=rfl
@[go_sem] theorem acP{f:Operand}{xs:Array Operand}{ts:Array TypeId}:dz E ops ⟨d,.call ⟨.value f,xs,ts⟩,ty,pos,after,guard⟩ l st K=ak E ops (st.ev f) (xs.toList.map st.ev) d l st K:=rfl
@[go_sem] theorem acW{xs:Array Operand}{ts:Array TypeId}:dz E ops ⟨d,.call ⟨.builtin .len,xs,ts⟩,ty,pos,after,guard⟩ l st K=cR (fun k=>cK E.P st (.call ⟨.builtin .len,xs,ts⟩) k) E ops d l st K:=rfl
@[go_sem] theorem ac1{xs:Array Operand}{ts:Array TypeId}:dz E ops ⟨d,.call ⟨.builtin .min,xs,ts⟩,ty,pos,after,guard⟩ l st K=cR (fun k=>cK E.P st (.call ⟨.builtin .min,xs,ts⟩) k) E ops d l st K:=rfl
@[go_sem] theorem ac0{xs:Array Operand}{ts:Array TypeId}:dz E ops ⟨d,.call ⟨.builtin .max,xs,ts⟩,ty,pos,after,guard⟩ l st K=cR (fun k=>cK E.P st (.call ⟨.builtin .max,xs,ts⟩) k) E ops d l st K:=rfl
@[go_sem] theorem ac3{x:Operand}:dz E ops ⟨d,.move x,ty,pos,after,guard⟩ l st K=cR (fun k=>cK E.P st (.move x) k) E ops d l st K:=rfl
@[go_sem] theorem acL{x:Operand}:dz E ops ⟨d,.assign x,ty,pos,after,guard⟩ l st K=cR (fun k=>cK E.P st (.assign x) k) E ops d l st K:=rfl
@[go_sem] theorem ac5{x y z:Operand}:dz E ops ⟨d,.pick x y z,ty,pos,after,guard⟩ l st K=cR (fun k=>cK E.P st (.pick x y z) k) E ops d l st K:=rfl
@[go_sem] theorem acX{t:TypeId}{x:Operand}:dz E ops ⟨d,.load t x,ty,pos,after,guard⟩ l st K=cR (fun k=>cK E.P st (.load t x) k) E ops d l st K:=rfl
@[go_sem] theorem ac4{x:Operand}:dz E ops ⟨d,.nilCheck x,ty,pos,after,guard⟩ l st K=cR (fun k=>cK E.P st (.nilCheck x) k) E ops d l st K:=rfl
@[go_sem] theorem acM{b:BinOp}{t:TypeId}{x y:Operand}{u:TypeId}:dz E ops ⟨d,.binOp b t x y u,ty,pos,after,guard⟩ l st K=cR (fun k=>cK E.P st (.binOp b t x y u) k) E ops d l st K:=rfl
@[go_sem] theorem ac8{u:UnOp}{t:TypeId}{x:Operand}:dz E ops ⟨d,.unOp u t x,ty,pos,after,guard⟩ l st K=cR (fun k=>cK E.P st (.unOp u t x) k) E ops d l st K:=rfl
@[go_sem] theorem ac6{t:TypeId}{x:Operand}{lo hi mx:Option Operand}:dz E ops ⟨d,.slice t x lo hi mx,ty,pos,after,guard⟩ l st K=cR (fun k=>cK E.P st (.slice t x lo hi mx) k) E ops d l st K:=rfl
@[go_sem] theorem acT{t:TypeId}{x:Operand}{f:Nat}:dz E ops ⟨d,.fieldAddr t x f,ty,pos,after,guard⟩ l st K=cR (fun k=>cK E.P st (.fieldAddr t x f) k) E ops d l st K:=rfl
@[go_sem] theorem acS{t:TypeId}{x:Operand}{f:Nat}:dz E ops ⟨d,.field t x f,ty,pos,after,guard⟩ l st K=cR (fun k=>cK E.P st (.field t x f) k) E ops d l st K:=rfl
@[go_sem] theorem acV{t:TypeId}{x i:Operand}:dz E ops ⟨d,.indexAddr t x i,ty,pos,after,guard⟩ l st K=cR (fun k=>cK E.P st (.indexAddr t x i) k) E ops d l st K:=rfl
@[go_sem] theorem acU{t:TypeId}{x i:Operand}:dz E ops ⟨d,.index t x i,ty,pos,after,guard⟩ l st K=cR (fun k=>cK E.P st (.index t x i) k) E ops d l st K:=rfl
@[go_sem] theorem acR{x:Operand}{i:Nat}:dz E ops ⟨d,.extract x i,ty,pos,after,guard⟩ l st K=cR (fun k=>cK E.P st (.extract x i) k) E ops d l st K:=rfl
@[go_sem] theorem acO{t:TypeId}{ps:Array (Nat×Operand)}:dz E ops ⟨d,.build t ps,ty,pos,after,guard⟩ l st K=cR (fun k=>cK E.P st (.build t ps) k) E ops d l st K:=rfl
@[go_sem] theorem acZ{t:TypeId}{x:Operand}:dz E ops ⟨d,.makeInterface t x,ty,pos,after,guard⟩ l st K=cR (fun k=>cK E.P st (.makeInterface t x) k) E ops d l st K:=rfl
@[go_sem] theorem acY{f:Fn}{a b:Array Operand}:dz E ops ⟨d,.makeFunc f a b,ty,pos,after,guard⟩ l st K=cR (fun k=>cK E.P st (.makeFunc f a b) k) E ops d l st K:=rfl
end
theorem DW{i:Nat}{E:Env}{ops:Array Oper}{st:St}{K:St→Prop}{p:cM}{o:Oper}(h:ops[i]?=some o):
 ep E ops K (.take i p) st=∃b,eD ops o st=some b∧(b=true→eh E o st fun s=>ep E ops K p s)∧(b=false→ep E ops K p (st.put o.dst (.v undef))):=by
 show bK E ops i (ep E ops K p) st=_
 unfold bK;rw[h]
theorem qq{E:Env}{ops:Array Oper}{i:Nat}{C:St→Prop}{st:St}:bK E ops i C st=cF E ops (ops[i]?).toList st C:=by
 unfold bK
 cases ops[i]?<;>rfl
@[go_sem] theorem acw{E:Env}{ops:Array Oper}{st:St}{K:St→Prop}:ep E ops K .done st=K st:=rfl
@[go_sem] theorem acz{E:Env}{ops:Array Oper}{st:St}{K:St→Prop}{i:Nat}{p:cM}:ep E ops K (.take i p) st=cF E ops (ops[i]?).toList st (ep E ops K p):=qq
@[go_sem] theorem acy{E:Env}{ops:Array Oper}{st:St}{K:St→Prop}{p:cM}:ep E ops K (.fork p) st=ep E ops K p st:=rfl
@[go_sem] theorem acv{E:Env}{ops:Array Oper}{st:St}{K:St→Prop}{i:Nat}{p r:cM}:ep E ops K (.alt i p r) st=(cF E ops (ops[i]?).toList st (ep E ops K p)∧ep E ops K r st):=by
 rw[←qq];rfl
@[go_sem] theorem acx{E:Env}{ops:Array Oper}{st:St}{K:St→Prop}:ep E ops K .ends st=True:=rfl
attribute [go_sem] and_self lr St.kC iO Option.toList_some Option.toList_none
def cM.ofList:List Nat→cM
 |[]=> .done
 |i::is=> .take i (cM.ofList is)
def qZ:List Oper→Nat→Option Oper
 |[],_=>none
 |x::_,0=>some x
 |_::xs,n+1=>qZ xs n
theorem AH:∀(l:List Oper) (n:Nat),qZ l n=l[n]?
 |[],_=>by simp[qZ]
 |_::_,0=>rfl
 |_::xs,n+1=>by simp[qZ,AH xs n]
def pK(ops:List Oper):List Nat→Option (List Oper)
 |[]=>some []
 |i::is=>match qZ ops i,pK ops is with
  |some o,some l=>some (o::l)
  |_,_=>none
theorem uj{E:Env}{ops:List Oper}{K:St→Prop}:∀{is:List Nat} {l:List Oper} {st:St},pK ops is=some l→cF E ops.toArray l st K→ep E ops.toArray K (cM.ofList is) st
 |[],l,st,h,hl=>by
  simp only[pK,Option.some.injEq] at h;subst h;exact hl
 |i::is,l,st,h,hl=>by
  simp only[pK] at h
  split at h
  ·rename_i o l' h1 h2
   simp only[Option.some.injEq] at h;subst h
   show ep E ops.toArray K (.take i (cM.ofList is)) st
   rw[AH] at h1
   rw[DW (o:=o) (by simpa using h1)]
   obtain⟨b,h3,h4,h5⟩:=hl
   exact⟨b,h3,fun hb=>oX (h4 hb) fun s hs=>uj h2 hs,fun hb=>uj h2 (h5 hb)⟩
  ·simp at h
theorem aa.Ww{E:Env}{st:St}{id:Nat}{l:List Oper}{Q:Exit→St→Prop}(is:List Nat)(anc:List (List Nat))(ds:List Tmp)(hm:E.P.follows .mixedOrders=true)
 (hx:(gy l.toArray anc&&iv E.P l.toArray anc true (cM.ofList is) (Array.replicate l.toArray.size false) l.toArray.size)=true) (hd:ds.Nodup) {l':List Oper} (hl:pK l is=some l') (h:cF E l.toArray l' (st.kC ds) (lr (Q .normal))):aa E (.region id l.toArray true) Q st:=
 aa.wq (cM.ofList is) anc ds hm hx hd (uj hl h)
theorem EV(b:Bool):(b==true)=b:=by cases b<;>rfl
theorem EU(b:Bool):(b==false)=!b:=by cases b<;>rfl
attribute [go_sem] EV EU Option.getD_some Option.getD_none List.getElem?_nil Nat.succ_eq_add_one
def aQ{α:Type}(f:Option α)(p:α→Prop):Prop:=∃y,f=some y∧p y
@[congr] theorem aQ.congr{α:Type}{f g:Option α}{p:α→Prop}(h:f=g):aQ f p=aQ g p:=by rw[h]
@[go_sem] theorem aQ.some{α:Type}{a:α}{p:α→Prop}:aQ (some a) p=p a:=by simp[aQ]
@[go_sem] theorem aQ.none{α:Type}{p:α→Prop}:aQ (none:Option α) p=False:=by simp[aQ]
@[go_sem ↓] theorem ada{α:Type}{f:Option α}{p:α→Prop}:(∃y,f=Option.some y∧p y)=aQ f p:=rfl
def lj{α:Type}(f:Option (Option α))(p:α→Prop):Prop:=∃y,f=some (some y)∧p y
@[congr] theorem lj.congr{α:Type}{f g:Option (Option α)}{p:α→Prop}(h:f=g):lj f p=lj g p:=by rw[h]
@[go_sem] theorem lj.some{α:Type}{a:α}{p:α→Prop}:lj (some (some a)) p=p a:=by simp[lj]
@[go_sem ↓] theorem adb{α:Type}{f:Option (Option α)}{p:α→Prop}:(∃y,f=Option.some (Option.some y)∧p y)=lj f p:=rfl
theorem Ul{k:IntKind}{n:Int}:(AV.v (.int k n)=AV.v .nilIface)=False:=by simp
theorem Ui{b:Bool}:(AV.v (.bool b)=AV.v .nilIface)=False:=by simp
theorem Up{s:ByteArray}:(AV.v (.string s)=AV.v .nilIface)=False:=by simp
theorem Uh{cs:List AV}:(AV.agg cs=AV.v .nilIface)=False:=by simp
theorem Um:(AV.aw=AV.v .nilIface)=False:=by simp
theorem Uo{t:Option Nat}{k:Nat}{es:List AV}:(AV.sl t k es=AV.v .nilIface)=False:=by simp
theorem Uk{t:TypeId}{v:Value}:(AV.v (.iface t v)=AV.v .nilIface)=False:=by simp
theorem Un{i j k:Nat}:(AV.ptr i j k=AV.v .nilIface)=False:=by simp
theorem Md{x:Value}:(∃z,Operand.const x=Operand.const z)=True:=by simp
theorem Mk{α:Type}{a:α}{p:α→Prop}:(∃y,some (some a)=some (some y)∧p y)↔p a:=by simp
@[go_sem] theorem acE{α:Type}{a:α}:(∃y,some a=some y)=True:=by simp
theorem Dj{P:Program}{t:TypeId}{id idx off:Nat}{x:AV}{st:St}{K:St→Prop}:oN P t (.ptr id idx off) x st K↔
 ∃n,bm P t=some n∧∃es,st.own[id]?=some (some es)∧∃e,es[idx]?=some e∧x.plain=true∧x.leaves.all AV.en=true∧x.leaves.length=n∧off+n≤e.leaves.length∧
  K { st with own:=st.own.set id (some (es.set idx (eY e off x))) }:=by
 constructor
 ·rintro⟨n,es,e,h1,h2,h3,h4⟩;exact⟨n,h1,es,h2,e,h3,h4⟩
 ·rintro⟨n,h1,es,h2,e,h3,h4⟩;exact⟨n,es,e,h1,h2,h3,h4⟩
attribute [go_sem] ko tV Ul Ui Up Uh Um Uo Uk Un Md Mk Dj Bool.not_not Nat.reduceEqDiff Nat.reduceMul Int.reduceToNat Int.reduceLE Int.reduceLT Nat.reduceLeDiff Int.cast_ofNat_Int
 Nat.one_ne_zero Int.reduceNeg Nat.succ_ne_zero Int.reduceEq Int.reduceNe Bool.false_eq_true Bool.true_eq_false Int.reduceAdd Int.reduceSub Int.zero_le_ofNat Int.toNat_zero Nat.zero_mul Nat.mul_one Nat.zero_le Nat.reduceLT
 Bool.not_eq_true' Bool.not_eq_false'
end Go.az
namespace Go.az
open Go Go.RowKit
def u6:List Nat→List AV→List AV
 |[],l=>l
 |i::is,l=>u6 is (l.set i .any)
def wc:List (Nat×AV)→List AV→List AV
 |[],l=>l
 |p::ps,l=>wc ps (l.set p.1 p.2)
def St.at(st:St)(hv:List Nat)(ps:List (Nat×AV))(own:List (Option (List AV)))(tk:List Nat):St:={ st with tmps:=wc ps (u6 hv st.tmps),own:=own,tk:=tk }
theorem aa.mK{E:Env}{Q:Exit→St→Prop}{st:St}{ι:Type}{c:Code}(hv:List Nat)(ps:ι→List (Nat×AV))(I:ι→Prop)(μ:ι→Nat)(i:ι)
 (hw0:st.Wk (st.at hv (ps i) st.own st.tk)) (hI:I i)
 (round:∀i,I i→aa E c (jg (fun s'=>∃j,s'.Wk (st.at hv (ps j) st.own st.tk)∧I j∧μ j<μ i) Q) (st.at hv (ps i) st.own st.tk)):aa E (.loop c) Q st:=
 aa.Ai (fun i=>st.at hv (ps i) st.own st.tk) I μ i hw0 hI round
theorem aa.vB{E:Env}{Q:Exit→St→Prop}{st:St}{ι:Type}{c:Code}(hv:List Nat)(ps:ι→List (Nat×AV))(own:ι→List (Option (List AV)))(tk:ι→List Nat)(I:ι→Prop)(μ:ι→Nat)(i:ι)
 (hw0:st.Wk (st.at hv (ps i) (own i) (tk i))) (hI:I i)
 (round:∀i,I i→aa E c (jg (fun s'=>∃j,s'.Wk (st.at hv (ps j) (own j) (tk j))∧I j∧μ j<μ i) Q) (st.at hv (ps i) (own i) (tk i))):aa E (.loop c) Q st:=
 aa.Ai (fun i=>st.at hv (ps i) (own i) (tk i)) I μ i hw0 hI round
theorem abw{no nt:Nat}:jO no nt [] []=True:=rfl
theorem abv{no nt:Nat}{x y:AV}{xs ys:List AV}:jO no nt (x::xs) (y::ys)=((y= .any∨(y=x∧x.bw no nt=true))∧jO no nt xs ys):=rfl
theorem abu{no nt:Nat}{xs:List (Option (List AV))}:gi no nt xs []=True:=by cases xs<;>rfl
theorem abt{no nt:Nat}{x y:Option (List AV)}{xs ys:List (Option (List AV))}:gi no nt (x::xs) (y::ys)=((y=none∨(y=x∧∀es,x=some es→∀e∈es,∀z∈e.leaves,z.bw no nt=true))∧gi no nt xs ys):=rfl
theorem abr{xs:List Nat}:jl xs []=True:=by cases xs<;>rfl
theorem abq{x y:Nat}{xs ys:List Nat}:jl (x::xs) (y::ys)=(y=x∧jl xs ys):=rfl
theorem abp{no nt:Nat}{x:List AV}:(∀es,some x=some es→∀e∈es,∀z∈e.leaves,z.bw no nt=true)=(x.all fun e=>e.leaves.all fun z=>z.bw no nt):=by
 simp[List.all_eq_true]
theorem abo{no nt:Nat}:(∀es,(none:Option (List AV))=some es→∀e∈es,∀z∈e.leaves,z.bw no nt=true)=True:=by simp
attribute [go_sem] St.at u6 wc St.Wk abw abv abu abt abr abq abp abo true_or or_true AV.bw AV.ei AV.gO Bool.and_self
theorem Fc{c a b:Bool}:(bif c then AV.v (.bool a) else AV.v (.bool b))=AV.v (.bool (bif c then a else b)):=by cases c<;>rfl
theorem Fe{c a:Bool}:(bif c then a else false)=(c&&a):=by cases c<;>rfl
theorem Ff{c b:Bool}:(bif c then true else b)=(c||b):=by cases c<;>rfl
attribute [go_sem] Fc Fe Ff Bool.and_false Bool.false_and Bool.or_true Bool.true_or Bool.or_false Bool.false_or
theorem aN{x:Int}(h1:-9223372036854775808≤x)(h2:x≤9223372036854775807):IntKind.i64.wrap x=x:=by
 rw[IntKind.wrap_i64];omega
end Go.az
namespace Go.az
open Go Go.RowKit Go.ChangeShapes
section
variable{H:Type}{enc:TypeId×Value→H}{P:Program}
theorem CI(hl:laidOutB P=true){W W':World}(hB:Go.RowKit.Below W.heap.size W W'):∀{ts:List TypeId} {vs:List Value} {ds:List (DataW H)} {ps:List MemPlace},
 (ts.all fun t=>P.readableRec t&&decide (t<P.types.size))=true→(∀x∈ps,x.block<W.heap.size)→DataW.TrodAll enc P W 0 (fun _=>true) true ts vs ds ps→
 DataW.TrodAll enc P W' 0 (fun b=>decide (b<W.heap.size)) true ts vs ds ps
 |[],[],[],ps,_,_,h=>h
 |t::ts,v::vs,d::ds,ps,hr,hlt,h=>by
  obtain⟨p,q,h1,h2,rfl⟩:=h
  simp only[List.all_cons,Bool.and_eq_true,decide_eq_true_eq] at hr
  exact⟨p,q,Go.RowKit.Below.trod hl hr.1.1 hr.1.2 h1 hB (fun x hx=>hlt x (List.mem_append_left _ hx)),CI hl hB hr.2 (fun x hx=>hlt x (List.mem_append_right _ hx)) h2,rfl⟩
 |[],_::_,_,_,_,_,h=>by cases h
 |[],[],_::_,_,_,_,h=>by cases h
 |_::_,[],_,_,_,_,h=>by cases h
 |_::_,_::_,[],_,_,_,h=>by cases h
theorem R3{f:Func}{s:ChangeSpec}{apart fresh:Bool}{W W':World}{args:Array Value}{ds gs:List (DataW H)}{before:List MemPlace}{tb:TypeId}
 (hl:laidOutB P=true) (hr:(f.params.toList.all fun t=>P.readableRec t&&decide (t<P.types.size))=true) (hv:s.vars=[]) (ht:f.resultTypes= #[tb]) (hb:P.underlying tb=some .bool)
 (hW:DataW.Whole enc P f.params.toList s.vars apart W args.toList ds gs before) (hB:Go.RowKit.Below W.heap.size W W') (hfn:s.fn H (ds++gs)={ results:=[.lit (.bool true)],args:=ds,vars:=gs }):
 s.post enc P f apart fresh false false W args (.bool true) W':=by
 have hW':=hW
 obtain⟨p,q,hA,hV,rfl,_,_⟩:=hW
 rw[hv] at hV
 obtain⟨rfl,rfl⟩:=trodVars_none hV
 refine⟨ds,[],p++[],[],p,[],hW',?_,?_,?_,hB.frame _,fun h=>by cases h⟩
 ·rw[hfn,ht]
  exact⟨[],[],shut_bool hb true,rfl,rfl⟩
 ·rw[hfn]
  exact CI hl hB hr (fun x hx=>hW'.lt x (by simpa using hx)) hA
 ·rw[hfn]
  rw[hv];rfl
end
end Go.az
namespace Go.az
open Go Go.RowKit Go.ChangeShapes Go.WideShapes
def fU(w:World):Im:=fun b o=>w.cell? ⟨b,o,none⟩
structure jM(im:Im)(ls:List AV)(cs:List Value):Prop where
 len:cs.length=ls.length
 at':∀(i:Nat) (x:AV) (v:Value),ls[i]?=some x→cs[i]?=some v→aS im x v∧v.oneCell'=true∧x.leaves=[x]
def Reads{H:Type}(enc:TypeId×Value→H)(P:Program)(t:TypeId)(k:Nat)(S:List AV→Prop):Prop:=
 ∀(w:World) (base:Nat) (spare:Nat→Bool) (held:Bool) (fuel:Nat) (cs:List Value) (x:DataW H×List MemPlace),DataW.trod enc P w base spare held fuel t cs=some x→∃ls,S ls∧ls.length=k∧jM (fU w) ls cs
section
variable{H:Type}{enc:TypeId×Value→H}{P:Program}{t:TypeId}
theorem jM.one{im:Im}{x:AV}{v:Value}(h:aS im x v)(h1:v.oneCell'=true)(h2:x.leaves=[x]):jM im [x] [v]:=by
 refine⟨rfl,fun i y u e1 e2=>?_⟩
 cases i with
 |zero=>simp only[List.getElem?_cons_zero,Option.some.injEq] at e1 e2;subst e1;subst e2;exact⟨h,h1,h2⟩
 |succ i=>simp at e1
theorem fD{kd:IntKind}(ht:P.underlying t=some (.int kd)):Reads enc P t 1 fun ls=>∃n,(Lit.int kd n).wf=true∧ls=[.v (.int kd n)]:=fun w base spare held fuel cs x h=>by
 obtain⟨n,rfl,_,hw⟩:=DataW.trod_int ht h
 exact⟨_,⟨n,hw,rfl⟩,rfl,.one (.v _) rfl rfl⟩
theorem tf(ht:P.underlying t=some .bool):Reads enc P t 1 fun ls=>∃b:Bool,ls=[bl b]:=fun w base spare held fuel cs x h=>by
 obtain⟨b,rfl,_⟩:=DataW.trod_bool ht h
 exact⟨_,⟨b,rfl⟩,rfl,.one (.v _) rfl rfl⟩
theorem j6(ht:P.underlying t=some .string):Reads enc P t 1 fun ls=>∃l:List UInt8,l.length≤maxLen∧ls=[str l]:=fun w base spare held fuel cs x h=>by
 obtain⟨s,rfl,_,hw⟩:=DataW.trod_string ht h
 have e:(⟨s.data.toList.toArray⟩:ByteArray)=s:=by cases s;simp
 refine⟨[str s.data.toList],⟨s.data.toList,by simpa using hw,rfl⟩,rfl,.one ?_ rfl rfl⟩
 have h0:aS (fU w) (.v (.string s)) (.string s):= .v _
 rw[←e] at h0 ⊢
 simpa using h0
def lG:Bool→List AV→AV
 |true,ls=> .agg ls
 |false,ls=>ls.headD .any
theorem L1{ag:Bool}{ls:List AV}{im:Im}{cs:List Value}(h:jM im ls cs)(hk:ag=false→ls.length=1):(lG ag ls).leaves=ls:=by
 cases ag with
 |true=>rfl
 |false=>
  obtain⟨x,rfl⟩:∃x,ls=[x]:=by
   cases ls with
   |nil=>simp at hk
   |cons x l=>cases l with
    |nil=>exact⟨x,rfl⟩
    |cons=>simp at hk
  have hc:∃v,cs=[v]:=by
   have:=h.len
   cases cs with
   |nil=>simp at this
   |cons v l=>cases l with
    |nil=>exact⟨v,rfl⟩
    |cons=>simp at this
  obtain⟨v,rfl⟩:=hc
  exact(h.at' 0 x v rfl rfl).2.2
theorem zm{α:Type}{Q:Nat→α→Prop}:∀(n:Nat),(∀i,i<n→∃p,Q i p)→∃L:List α,L.length=n∧∀(i:Nat) (p:α),L[i]?=some p→Q i p
 |0,_=>⟨[],rfl,by simp⟩
 |m+1,h=>by
  obtain⟨L,hL,hL2⟩:=zm m (fun i hi=>h i ab)
  obtain⟨q,g⟩:=h m ab
  refine⟨L++[q],by simp[hL],fun i p hp=>?_⟩
  rcases qK _ _ _ _ hp with⟨_,hp⟩|⟨hi,hp⟩
  ·exact hL2 i p hp
  ·have:i=m:=by
    have:=(List.getElem?_eq_some_iff.1 hp).1
    simp at this
    omega
   subst this
   rw[hL] at hp
   simp at hp
   subst hp
   exact g
theorem wm{e:TypeId}{k:Nat}{S:List AV→Prop}(ag:Bool)(ht:P.underlying t=some (.slice e))(hc:P.cellsOf e=k)(hk:0<k)(hag:ag=false→k=1)(he:Reads enc P e k S):
 Reads enc P t 1 fun ls=>ls=[.aw]∨∃es:List AV,es.length≤maxLen∧(∀x∈es,∃l,S l∧x=lG ag l)∧ls=[.sl none k es]:=fun w base spare held fuel cs x h=>by
 rcases DataW.trod_slice ht h with⟨rfl,_⟩|⟨a,len,cap,elems,rest,n,_,rfl,_,hb,hl,hm,hlen,hel,_⟩
 ·exact⟨_,.inl rfl,rfl,.one .aw rfl rfl⟩
 ·
  have h1:∀i,i<len→∃ls cs,S ls∧ls.length=k∧jM (fU w) ls cs∧∀j,j<k→w.cell? ((a.add (i*k)).add j)=cs[j]?:=fun i hi=>by
   have h2:=hel i hi
   rw[hc] at h2
   have h3:i<elems.length:=by omega
   rw[List.getElem?_eq_getElem h3] at h2
   cases hcs:w.cells? base (a.add (i*k)) k with
   |none=>rw[hcs] at h2;simp at h2
   |some cs=>
    rw[hcs] at h2
    obtain⟨ls,g1,g2,g3⟩:=he w base spare held n cs _ h2
    exact⟨ls,cs,g1,g2,g3,(World.cells?_some hcs).2.2⟩
  have h4:=zm (Q:=fun i p=>S p.1∧p.1.length=k∧jM (fU w) p.1 p.2∧∀j,j<k→w.cell? ((a.add (i*k)).add j)=p.2[j]?) len (fun i hi=>let⟨ls,cs,g⟩:=h1 i hi;⟨(ls,cs),g⟩)
  obtain⟨L,hL,hL2⟩:=h4
  refine⟨[.sl none k (L.map fun p=>lG ag p.1)],.inr ⟨_,by simp[hL];omega,?_,rfl⟩,rfl,.one ?_ rfl rfl⟩
  ·intro x hx
   obtain⟨p,hp,rfl⟩:=List.mem_map.1 hx
   obtain⟨i,hi⟩:=List.mem_iff_getElem?.1 hp
   exact⟨p.1,(hL2 i p hi).1,rfl⟩
  ·have hln:∀(i:Nat) (p:List AV×List Value),L[i]?=some p→(lG ag p.1).leaves=p.1:=fun i p hp=>L1 (hL2 i p hp).2.2.1 (fun e=>by rw[(hL2 i p hp).2.1];exact hag e)
   by_cases h0:len=0
   ·have hnil:L=[]:=List.eq_nil_of_length_eq_zero ab
    subst hnil;subst h0
    exact .cI k (some a) cap
   ·
    have hspot:a.spot=none:=by
     obtain⟨p,hp⟩:∃p,L[0]?=some p:=⟨L[0]' ab,List.getElem?_eq_getElem _⟩
     obtain⟨_,g2,g3,g4⟩:=hL2 0 p hp
     have g5:=g4 0 hk
     have g6:0<p.2.length:=by rw[g3.len,g2];exact hk
     rw[List.getElem?_eq_getElem g6] at g5
     have:=World.cell?_spot g5
     simpa[Addr.add] using this
    obtain⟨b,off,spot⟩:=a
    simp only at hspot;subst hspot
    have:=aS.sl (im:=fU w) k (L.map fun p=>lG ag p.1) b off cap (fun i j=>(((L[i]?).bind fun p=>p.2[j]?).getD undef)) (by simp[hL];exact hl) ?_ ?_ ?_ ?_
    ·simpa[hL] using this
    ·intro i e he
     rw[List.getElem?_map] at he
     cases hp:L[i]? with
     |none=>simp[hp] at he
     |some p=>simp only[hp,Option.map_some,Option.some.injEq] at he;subst he;rw[hln i p hp];exact(hL2 i p hp).2.1
    all_goals
     intro i e j c he hc'
     rw[List.getElem?_map] at he
     cases hp:L[i]? with
     |none=>simp[hp] at he
     |some p=>
      simp only[hp,Option.map_some,Option.some.injEq] at he;subst he
      rw[hln i p hp] at hc'
      obtain⟨_,g2,g3,g4⟩:=hL2 i p hp
      have hj:j<k:=by rw[←g2];exact(List.getElem?_eq_some_iff.1 hc').1
      have hj2:j<p.2.length:=by rw[g3.len];exact(List.getElem?_eq_some_iff.1 hc').1
      have g5:=g4 j hj
      rw[List.getElem?_eq_getElem hj2] at g5
      have g6:=g3.at' j c _ hc' (List.getElem?_eq_getElem hj2)
      simp only[Option.bind_some,List.getElem?_eq_getElem hj2,Option.getD_some]
      first
       |exact g6.1
       |exact g6.2.1
       |(have e1:(Addr.add ⟨b,off,none⟩ (i*k)).add j=⟨b,off+i*k+j,none⟩:=by rw[add_plain,add_plain]
         rw[e1] at g5;exact g5)
theorem jM.app{im:Im}{a b:List AV}{cs ds:List Value}(h:jM im a cs)(k:jM im b ds):jM im (a++b) (cs++ds):=by
 refine⟨by simp[h.len,k.len],fun i x v h1 h2=>?_⟩
 rcases qK _ _ _ _ h1 with⟨l1,h1⟩|⟨l1,h1⟩
 ·rw[List.getElem?_append_left (by rw[h.len];exact l1)] at h2
  exact h.at' i x v h1 h2
 ·rw[List.getElem?_append_right (by rw[h.len];exact l1),h.len] at h2
  exact k.at' _ x v h1 h2
def rU{H:Type}(enc:TypeId×Value→H)(P:Program)(fl:List Field)(off:Nat)(S:List AV→Prop)(total:Nat):Prop:=
 ∀(w:World) (base:Nat) (spare:Nat→Bool) (held:Bool) (n:Nat) (cs:List Value),cs.length=total→
  (∀f∈fl,∃y,DataW.trod enc P w base spare held n f.type ((cs.drop f.offset).take (P.cellsOf f.type))=some y)→∃ls,S ls∧ls.length+off=total∧jM (fU w) ls (cs.drop off)
theorem pN(total:Nat):rU enc P [] total (fun ls=>ls=[]) total:=fun w base spare held n cs hl _=>
 ⟨[],rfl,by simp,by rw[List.drop_eq_nil_of_le ab];exact⟨rfl,by simp⟩⟩
theorem dk{f:Field}{fl:List Field}{off k total:Nat}{Sf Sr:List AV→Prop}(hf:Reads enc P f.type k Sf)(hc:P.cellsOf f.type=k)(ho:f.offset=off)(hr:rU enc P fl (off+k) Sr total):
 rU enc P (f::fl) off (fun ls=>∃a b,Sf a∧Sr b∧ls=a++b) total:=fun w base spare held n cs hl h=>by
 obtain⟨y,hy⟩:=h f (List.mem_cons_self ..)
 rw[ho,hc] at hy
 obtain⟨a,a1,a2,a3⟩:=hf w base spare held n _ y hy
 obtain⟨b,b1,b2,b3⟩:=hr w base spare held n cs hl (fun g hg=>h g (List.mem_cons_of_mem _ hg))
 refine⟨a++b,⟨a,b,a1,b1,rfl⟩,by simp;omega,?_⟩
 have e:cs.drop off=(cs.drop off).take k++cs.drop (off+k):=by rw[←List.drop_drop,List.take_append_drop]
 rw[e]
 exact a3.app b3
theorem pO{fs:Array Field}{fl:List Field}{S:List AV→Prop}{total:Nat}(ht:P.underlying t=some (.struct fs))(hl:fs.toList=fl)(hc:P.cellsOf t=total)(h:rU enc P fl 0 S total):Reads enc P t total S:=fun w base spare held fuel cs x hx=>by
 obtain⟨xs,n,_,_,h1,h2,h3⟩:=DataW.trod_struct ht hx
 subst hl
 obtain⟨ls,g1,g2,g3⟩:=h w base spare held n cs (h1.trans hc) (fun f hf=>by
  obtain⟨i,hi⟩:=List.mem_iff_getElem?.1 hf
  have hi2:fs[i]?=some f:=by simpa using hi
  have hlt:i<xs.length:=by rw[h2];exact(Array.getElem?_eq_some_iff.1 hi2).1
  exact⟨xs[i],by rw[h3 i f hi2,List.getElem?_eq_getElem hlt]⟩)
 exact⟨ls,g1,by omega,by simpa using g3⟩
section
variable{w:World}{base:Nat}{spare:Nat→Bool}{held:Bool}{r:Reach}{b0:Nat}{v:Value}{d:DataW H}{ps:List MemPlace}
theorem xI{S:List AV→Prop}(hc:v.cells.toList=[v])(hR:Reads enc P t 1 S)(hd:DataW.Trod enc P w base spare held t v d ps):∃x,S [x]∧aS (fU w) x v:=by
 obtain⟨fuel,hf⟩:=hd
 rw[hc] at hf
 obtain⟨ls,h1,h2,h3⟩:=hR _ _ _ _ _ _ _ hf
 obtain⟨x,rfl⟩:∃x,ls=[x]:=by
  cases ls with
  |nil=>simp at h2
  |cons x l=>cases l with
   |nil=>exact⟨x,rfl⟩
   |cons=>simp at h2
 exact⟨x,h1,(h3.at' 0 x v rfl rfl).1⟩
theorem xH{kd:IntKind}(ht:P.underlying t=some (.int kd))(hv:Value.okWide P w r b0 t v)(hd:DataW.Trod enc P w base spare held t v d ps):∃n,(Lit.int kd n).wf=true∧aS (fU w) (.v (.int kd n)) v:=by
 obtain⟨n,rfl⟩:=okWide_int ht hv
 obtain⟨x,⟨m,h1,h2⟩,h3⟩:=xI (by simp[Value.cells]) (fD ht) hd
 simp only[List.cons.injEq,and_true] at h2;subst h2
 exact⟨m,h1,h3⟩
theorem Ea{e:TypeId}{k:Nat}{S:List AV→Prop}(ag:Bool)(ht:P.underlying t=some (.slice e))(hc:P.cellsOf e=k)(hk:0<k)(hag:ag=false→k=1)(he:Reads enc P e k S)
 (hv:Value.okWide P w r b0 t v) (hd:DataW.Trod enc P w base spare held t v d ps):∃x,aS (fU w) x v∧(x= .aw∨∃es:List AV,es.length≤maxLen∧(∀y∈es,∃l,S l∧y=lG ag l)∧x= .sl none k es):=by
 obtain⟨a0,len,cap,rfl⟩:=okWide_slice ht hv
 obtain⟨x,h2,h3⟩:=xI (by simp[Value.cells]) (wm ag ht hc hk hag he) hd
 refine⟨x,h3,?_⟩
 rcases h2 with h2|⟨es,h4,h5,h2⟩<;>simp only[List.cons.injEq,and_true] at h2
 ·exact .inl h2
 ·exact .inr ⟨es,h4,h5,h2⟩
theorem xJ{fs:Array Field}{k:Nat}{S:List AV→Prop}(ht:P.underlying t=some (.struct fs))(hR:Reads enc P t k S)(hv:Value.okWide P w r b0 t v)(hd:DataW.Trod enc P w base spare held t v d ps):∃ls,S ls∧aS (fU w) (.agg ls) v:=by
 obtain⟨cs,rfl,hsz⟩:=okWide_struct ht hv
 obtain⟨fuel,hf⟩:=hd
 obtain⟨ls,h1,h2,h3⟩:=hR _ _ _ _ _ _ _ hf
 refine⟨ls,h1,?_⟩
 have:=aS.agg (im:=fU w) ls cs.toList (by simpa[Value.cells] using h3.len) (fun i c u e1 e2=>(h3.at' i c u e1 (by simpa[Value.cells] using e2)).1)
 simpa using this
end
end
theorem V5{im:Im}:jk im [] []:=⟨rfl,by simp⟩
theorem we{im:Im}{x:AV}{v:Value}{xs:List AV}{vs:List Value}(h:aS im x v)(k:jk im xs vs):jk im (x::xs) (v::vs):=by
 refine⟨by simp[k.1],fun i y u h1 h2=>?_⟩
 cases i with
 |zero=>simp only[List.getElem?_cons_zero,Option.some.injEq] at h1 h2;subst h1;subst h2;exact h
 |succ i=>exact k.2 i y u (by simpa using h1) (by simpa using h2)
theorem FX{E:Env}{f:FuncId}{xs:List AV}{args:Array Value}{W:World}(hok:E.ok W)(hg:lx E (fU W))(h:ai E f xs fun r t=>r=bl true∧t=[])(hp:jk (fU W) xs args.toList):
 Calls E.P f args W fun e W'=>e= .returned (.bool true)∧Go.RowKit.Below W.heap.size W W':=by
 have:=h W (fU W) args.toList hok hg (fun b o x e=>e) hp
 refine(show Calls E.P f args.toList.toArray W _ from this).mono ?_
 rintro e W' ⟨v,r,tks,im',rfl,hB,_,_,_,_,hv,rfl,_⟩
 cases hv.bf
 exact⟨rfl,hB.toBelow⟩
end Go.az
namespace Go.az
open Go Go.RowKit
theorem TF{α β:Type}{f:α→β}{l:List α}{n:Nat}:(l.map f).take n=(l.take n).map f:=List.map_take.symm
theorem TB{α β:Type}{f:α→β}{l:List α}{n:Nat}:(l.map f).drop n=(l.drop n).map f:=List.map_drop.symm
theorem TA{α β:Type}{f:α→β}{l m:List α}:l.map f++m.map f=(l++m).map f:=List.map_append.symm
theorem TD{α β:Type}{f:α→β}{l:List α}:(l.map f).length=l.length:=List.length_map f
theorem TC{α β:Type}{f:α→β}{l:List α}{i:Nat}:(l.map f)[i]?=(l[i]?).map f:=List.getElem?_map
theorem tM(b:UInt8):u8 b= .v (.int .u8 b.toNat):=rfl
theorem DY{l:List UInt8}{n:Int}(h0:0≤n)(h1:n<256):l.map u8++[.v (.int .u8 n)]=(l++[UInt8.ofNat n.toNat]).map u8:=by
 rw[List.map_append]
 congr 1
 have:((UInt8.ofNat n.toNat).toNat:Int)=n:=by simp;omega
 simp only[List.map_cons,List.map_nil,tM,this]
theorem DZ{l:List UInt8}{b:UInt8}:l.map u8++[.v (.int .u8 b.toNat)]=(l++[b]).map u8:=by
 rw[List.map_append];rfl
theorem EY{A B:List UInt8}:((⟨A.toArray⟩:ByteArray)=⟨B.toArray⟩)=(A=B):=by
 simp only[ByteArray.mk.injEq,eq_iff_iff]
 exact⟨fun h=>by simpa using h,fun h=>by rw[h]⟩
theorem EZ{A:List UInt8}:(⟨A.toArray⟩:ByteArray).data.toList=A:=rfl
theorem aQ.nth{α β:Type}{l:List α}{i:Nat}{f:α→β}{p:β→Prop}(h:i<l.length)(hp:∀b,l[i]?=Option.some b→p (f b)):aQ ((l[i]?).map f) p:=by
 obtain⟨b,hb⟩:∃b,l[i]?=Option.some b:=⟨_,List.getElem?_eq_getElem h⟩
 exact⟨f b,by rw[hb];rfl,hp b hb⟩
theorem aQ.mN{β:Type}{l:List β}{i:Nat}{p:β→Prop}(h:i<l.length)(hp:∀b,l[i]?=Option.some b→p b):aQ (l[i]?) p:=by
 obtain⟨b,hb⟩:∃b,l[i]?=Option.some b:=⟨_,List.getElem?_eq_getElem h⟩
 exact⟨b,hb,hp b hb⟩
theorem Eb{A:List UInt8}{i:Nat}:(A.toArray)[i]?=A[i]?:=by simp
theorem toNat_cast{n:Nat}:((n:Int)).toNat=n:=rfl
theorem Uj{n:Nat}:(0≤(n:Int))=True:=by simp
section
variable{E:Env}{ops:Array Oper}{d:Option Tmp}{l:List Oper}{st:St}{K:St→Prop}
@[go_sem] theorem cR.get{α:Type}{o:Option α}{F:α→(AV→Prop)→Prop}:cR (fun k=>aQ o fun y=>F y k) E ops d l st K=aQ o (fun y=>cR (F y) E ops d l st K):=rfl
@[go_sem] theorem eQ.get{α:Type}{o:Option α}{F:α→(St→AV→Prop)→Prop}:eQ (fun k=>aQ o fun y=>F y k) E ops d l K=aQ o (fun y=>eQ (F y) E ops d l K):=rfl
@[go_sem] theorem fN.get{α:Type}{o:Option α}{F:α→(St→Prop)→Prop}:fN (fun k=>aQ o fun y=>F y k) E ops d l K=aQ o (fun y=>fN (F y) E ops d l K):=rfl
end
attribute [go_sem] TF TB TA TD TC tM DY DZ EY EZ Eb toNat_cast Uj List.length_append List.length_map Option.map_some Option.map_none
section
variable{E:Env}{f:FuncId}{R:AV→List Nat→Prop}
theorem wg{im:Im}:∀{xs vs:List Value},jk im (xs.map .v) vs→vs=xs
 |[],vs,h=>List.eq_nil_of_length_eq_zero (by simpa using h.1)
 |x::xs,vs,h=>by
  cases vs with
  |nil=>have:=h.1;simp at this
  |cons v vs=>
   have h0:=h.2 0 (.v x) v rfl rfl
   cases h0
   have:=wg (im:=im) (xs:=xs) (vs:=vs) ⟨by have:=h.1;simpa using this,fun i y u h1 h2=>h.2 (i+1) y u (by simpa using h1) (by simpa using h2)⟩
   rw[this]
theorem ai.vN{xs:List Value}{S:Value→Prop}(h:∀w,E.ok w→Calls E.P f xs.toArray w fun e w'=>(∃v,e= .returned v∧S v)∧w'=w)(hR:∀v,S v→∃r,(∀im,aS im r v)∧R r []):ai E f (xs.map .v) R:=by
 intro w im vs hok hg him hpw
 rw[wg hpw]
 refine(h w hok).mono ?_
 rintro e w' ⟨⟨v,rfl,hs⟩,rfl⟩
 obtain⟨r,h1,h2⟩:=hR v hs
 exact⟨v,r,[],im,rfl,Below.refl _ _,.refl _,fun _ _ _=>rfl,him,⟨by simp,by simp⟩,.base (h1 im),h2⟩
theorem ai.sZ{xs:List Value}{S:Value→Prop}(h:∀w,E.ok w→Calls E.P f xs.toArray w fun e w'=>(∃v,e= .returned v∧S v)∧Below E.dr w.heap.size w w')(hR:∀v,S v→∃r,(∀im,aS im r v)∧R r []):ai E f (xs.map .v) R:=by
 intro w im vs hok hg him hpw
 rw[wg hpw]
 refine(h w hok).mono ?_
 rintro e w' ⟨⟨v,rfl,hs⟩,hb⟩
 obtain⟨r,h1,h2⟩:=hR v hs
 refine⟨v,r,[],im,rfl,hb,.refl _,fun _ _ _=>rfl,fun b o x hx=>?_,⟨by simp,by simp⟩,.base (h1 im),h2⟩
 have:=him b o x hx
 rw[←this]
 exact cell_of_block (hb.block b (World.block_lt_of_cell? w ⟨b,o,none⟩ this)) o
end
end Go.az
namespace Go.az
open Go Go.RowKit
end Go.az
namespace Go.az
open Go Go.RowKit
end Go.az
namespace Go.az
theorem aQ.gQ{α:Type}{o:Option α}{b:α}{p:α→Prop}(h:o=Option.some b)(hp:p b):aQ o p:=⟨b,h,hp⟩
theorem aQ.eu{α β:Type}{o:Option α}{b:α}{f:α→β}{p:β→Prop}(h:o=Option.some b)(hp:p (f b)):aQ (o.map f) p:=⟨f b,by rw[h];rfl,hp⟩
end Go.az
namespace Go.az
open Go Go.RowKit
def tU(s:AV)(k n:Nat)(xs:List AV)(st:St)(K:St→AV→Prop):Prop:=
 match s with
  |.sl (some tk) q es=>q=k∧st.tk[tk]?=some es.length∧es.length+xs.length≤4611686018427387904∧(es.length+xs.length)*n≤140737488355328∧
    K { st with tk:=st.tk.set tk (es.length+xs.length) } (.sl (some tk) k (es++xs))
  |.aw=>xs.length≤4611686018427387904∧xs.length*n≤140737488355328∧K { st with tk:=st.tk++[xs.length] } (.sl (some st.tk.length) k xs)
  |.mu id q off len cap=>q=k∧off=0∧xs≠[]∧len+xs.length≤4611686018427387904∧(len+xs.length)*n≤140737488355328∧
    lj st.own[id]? fun l=>len≤l.length∧cap=l.length∧
    ∀m,K { st with own:=st.own.set id none++[some (l.take len++xs++spare k m)] } (.mu st.own.length k 0 (len+xs.length) (len+xs.length+m))
  |_=>False
@[go_sem] theorem abU{P:Program}{t tx:TypeId}{s x:AV}{st:St}{K:St→AV→Prop}:qb P t tx s x st K =
   (eo P tx=true∧aQ (cN P t) fun p=>aQ (fy x p.2.1) fun xs=>tU s p.2.1 p.2.2 xs st K):=by
 simp only[qb,aQ,tU,eq_iff_iff]
 constructor
 ·rintro⟨h0,e,k,n,xs,h1,h2,h3⟩;exact⟨h0,(e,k,n),h1,xs,h2,h3⟩
 ·rintro⟨h0,⟨e,k,n⟩,h1,xs,h2,h3⟩;exact⟨h0,e,k,n,xs,h1,h2,h3⟩
attribute [go_sem] tU
end Go.az
namespace Go.az
open Go Go.RowKit
@[go_sem] theorem ab3{P:Program}{t:TypeId}{len:Nat}{ps:List (Nat×AV)}{st:St}{K:St→AV→Prop}:qj P t len ps st K =
   (aQ (cN P t) fun p=>ps.length=len∧idxFrom 0 ps=true∧len*p.2.1≤16777216∧aQ (nC p.2.1 ps) fun ys=>K { st with tk:=st.tk++[ys.length] } (.sl (some st.tk.length) p.2.1 ys)):=by
 simp only[qj,aQ,eq_iff_iff]
 constructor
 ·rintro⟨e,k,n,ys,h1,h2,h3,h4,h5,h6⟩;exact⟨(e,k,n),h1,h2,h3,h4,ys,h5,h6⟩
 ·rintro⟨⟨e,k,n⟩,h1,h2,h3,h4,ys,h5,h6⟩;exact⟨e,k,n,ys,h1,h2,h3,h4,h5,h6⟩
end Go.az
namespace Go.az
open Go Go.RowKit
@[go_sem] theorem ab8{P:Program}{t:TypeId}{s:ByteArray}{lo hi:Option AV}{k:AV→Prop}:jK P t (.v (.string s)) lo hi k =
   (P.underlying t=some .string∧aQ (dN lo 0) fun l=>aQ (dN hi s.data.toList.length) fun h=>0≤l∧l≤h∧h≤(s.data.toList.length:Int)∧k (.v (.string ⟨(mo lo hi s.data.toList).toArray⟩))):=by
 simp only[jK,aQ,eq_iff_iff]
 constructor
 ·rintro⟨h0,l,h,h1,h2,h3⟩;exact⟨h0,l,h1,h,h2,h3⟩
 ·rintro⟨h0,l,h1,h,h2,h3⟩;exact⟨h0,l,h,h1,h2,h3⟩
@[go_sem] theorem ab7{P:Program}{t:TypeId}{t':Option Nat}{q:Nat}{es:List AV}{lo hi:Option AV}{k:AV→Prop}:jK P t (.sl t' q es) lo hi k =
   ((∃e,P.underlying t=some (.slice e)∧bm P e=some q)∧aQ (dN lo 0) fun l=>aQ (dN hi es.length) fun h=>0≤l∧l≤h∧h≤(es.length:Int)∧k (.sl (vw lo t') q (mo lo hi es))):=by
 simp only[jK,aQ,eq_iff_iff]
 constructor
 ·rintro⟨h0,l,h,h1,h2,h3⟩;exact⟨h0,l,h1,h,h2,h3⟩
 ·rintro⟨h0,l,h1,h,h2,h3⟩;exact⟨h0,l,h,h1,h2,h3⟩
@[go_sem] theorem ab5{P:Program}{t:TypeId}{lo hi:Option AV}{k:AV→Prop}:jK P t .aw lo hi k =
   ((∃e n,P.underlying t=some (.slice e)∧bm P e=some n)∧dN lo 0=some 0∧dN hi 0=some 0∧k .aw):=rfl
@[go_sem] theorem ab4{P:Program}{t:TypeId}{id q off len cap:Nat}{lo hi:Option AV}{k:AV→Prop}:jK P t (.mu id q off len cap) lo hi k =
   ((∃e n,P.underlying t=some (.slice e)∧bm P e=some n)∧lo=none∧aQ (dN hi len) fun h=>0≤h∧h≤(len:Int)∧k (.mu id q off h.toNat cap)):=rfl
@[go_sem] theorem ab6{P:Program}{t:TypeId}{cs:List AV}{lo hi:Option AV}{k:AV→Prop}:jK P t (.bR cs) lo hi k =
   (∃L e,P.underlying t=some (.array L e)∧bm P e=some 1∧lo=none∧aQ (dN hi L) fun h=>0≤h∧h≤(cs.length:Int)∧h≤(L:Int)∧(∀c∈cs,c.leaves=[c])∧k (.sl none 1 (cs.take h.toNat))):=rfl
theorem Mh{e:TypeId}{p:TypeId→Prop}:(∃x,some (TypeDesc.slice e)=some (TypeDesc.slice x)∧p x)=p e:=by simp
theorem Mi{e:TypeId}{p:TypeId→Nat→Prop}:(∃x n,some (TypeDesc.slice e)=some (TypeDesc.slice x)∧p x n)=∃n,p e n:=by simp
theorem Vu{α β:Type}{p:α×β}:(p.1,p.2)=p:=rfl
attribute [go_sem] Vu Mh Mi
end Go.az
namespace Go.az
open Go Go.RowKit
section
variable{P:Program}{t:TypeId}{k:Bool→Prop}
@[go_sem] theorem abW{a b:Bool}:fL P t (.v (.bool a)) (.v (.bool b)) k=(P.underlying t=some .bool∧k (decide (a=b))):=rfl
@[go_sem] theorem ab0:fL P t .aw .aw k=((∃e,P.underlying t=some (.slice e))∧k true):=rfl
@[go_sem] theorem ab2{x:Option Nat}{y:Nat}{es:List AV}:fL P t (.sl x y es) .aw k=((∃e,P.underlying t=some (.slice e))∧∀b,(es≠[]→b=false)→k b):=rfl
@[go_sem] theorem ab1{x:Option Nat}{y:Nat}{es:List AV}:fL P t .aw (.sl x y es) k=((∃e,P.underlying t=some (.slice e))∧∀b,(es≠[]→b=false)→k b):=rfl
@[go_sem] theorem abZ{i x y z u:Nat}:fL P t (.mu i x y z u) .aw k=((∃e,P.underlying t=some (.slice e))∧∀b,(z≠0→b=false)→k b):=rfl
@[go_sem] theorem abY:fL P t (.v .nilIface) (.v .nilIface) k=((∃ms,P.underlying t=some (.interface ms))∧k true):=rfl
@[go_sem] theorem abX{x:TypeId}{y:Value}:fL P t (.v (.iface x y)) (.v .nilIface) k=((∃ms,P.underlying t=some (.interface ms))∧k false):=rfl
@[go_sem] theorem abV{xs ys:List AV}:fL P t (.agg xs) (.agg ys) k=(aQ (lK P t) fun ks=>aQ (cb ks xs ys) k):=by
 simp only[fL,aQ,eq_iff_iff]
 constructor
 ·rintro⟨ks,b,h1,h2,h3⟩;exact⟨ks,h1,b,h2,h3⟩
 ·rintro⟨ks,h1,b,h2,h3⟩;exact⟨ks,b,h1,h2,h3⟩
end
end Go.az
namespace Go.az
theorem dD:(∀(p:Prop) [Decidable p],(decide p=true)=p)∧(∀(p:Prop) [Decidable p],(decide p=false)=¬p)∧(∀b:Bool,((!b)=true)=(b=false))∧(∀b:Bool,((!b)=false)=(b=true))∧
 (∀a b:Bool,((a||b)=true)=(a=true∨b=true))∧(∀a b:Bool,((a&&b)=true)=(a=true∧b=true))∧(∀a b:Bool,((a||b)=false)=(a=false∧b=false))∧
 (∀a b:Bool,((a&&b)=false)=(a=true→b=false))∧((!true)=false)∧((!false)=true)∧((true=false)=False)∧((false=true)=False)∧(∀(α:Type) (a b:α),(a≠b)=¬(a=b)):=
 ⟨fun p _=>by simp,fun p _=>by simp,by decide,by decide,by decide,by decide,by decide,by decide,rfl,rfl,by simp,by simp,fun _ _ _=>rfl⟩
end Go.az
namespace Go.az
open Go Go.RowKit
def bV(P:Program)(rs:List ResultVar)(st:St)(K:St→AV→Prop):Exit→St→Prop
 |.normal,s|.ret,s=>s.up=st.tmps++st.up∧ig P s rs fun l=>K { s with tmps:=st.tmps,up:=st.up } (fu l)
 |_,_=>False
def al(E:Env)(ops:Array Oper)(l:List Oper)(Q:Exit→St→Prop)(st:St):Prop:=
 ∀(w0:World) (im0:cV) (cx:Ctx) (a:Act) (w:World),E.ok w0→jh E im0→Rel w0 im0 cx st a w→wpList E.P ops (fun e a' w'=>gK w0 im0 (Q e) a' w') l a w
section
variable{E:Env}{Q:Exit→St→Prop}{st:St}{ops:Array Oper}{l l1 l2:List Oper}
theorem aa.aX{id:Nat}(h:al E l.toArray l Q st):aa E (.region id l.toArray false) Q st:=fun w0 im0 cx a w h0 hG r=>wp_region_lit (h w0 im0 cx a w h0 hG r)
theorem al.of(h:cF E ops l st (Q .normal)):al E ops l Q st:=fun w0 im0 cx a w h0 hG r=>r5 h0 hG (K:=Q .normal) (fun _ _ hh=>hh) l r h
theorem ue{w0:World}{im0:cV}(h0:E.ok w0)(hG:jh E im0){K:St→Prop}{R:Exit→Act→World→Prop}(hQ:∀a w,gK w0 im0 K a w→wpList E.P ops R l2 a w):
 ∀(l:List Oper) {c:Ctx} {st:St} {a:Act} {w:World},Rel w0 im0 c st a w→cF E ops l st K→wpList E.P ops R (l++l2) a w
 |[],c,st,a,w,r,h=>hQ _ _ ⟨c,st,r,h⟩
 |o::rest,c,st,a,w,r,h=>by
  obtain⟨q,hq,h1,h2⟩:=h
  have hw:=w9 r hq
  rw[List.cons_append]
  refine wpList_step (fun K' hK'=>?_)
  cases q with
  |true=>
   rw[if_pos hw]
   refine Oper.wp_mono (fun a' w' hh=>?_) (ui (Q:=R) h0 hG r (h1 rfl))
   obtain⟨c',st',r',h'⟩:=hh
   exact hK' _ _ (ue h0 hG hQ rest r' h')
  |false=>
   rw[if_neg (by rw[hw];exact Bool.false_ne_true)]
   exact hK' _ _ (ue h0 hG hQ rest (r.put o.dst (.base (.v undef))) (h2 rfl))
theorem al.app(h:cF E ops l1 st (al E ops l2 Q)):al E ops (l1++l2) Q st:=fun w0 im0 cx a w h0 hG r=>
 ue h0 hG (K:=al E ops l2 Q) (fun a' w' hh=>by obtain⟨c,s,r',k⟩:=hh;exact k w0 im0 c a' w' h0 hG r') l1 r h
theorem al.call{g:FuncId}{fn:Func}{body:Code}{n:Nat}{rs:List ResultVar}{caps:List AV}{dst:Option Tmp}{f:Operand}{xs:Array Operand}{tys:Array TypeId}{ty:TypeId}{pos:String}{after:Array Edge}
 (hf:E.P.funcs[g]?=some fn) (hb:fn.body=some body) (hn:fn.ntmps=n) (hr:fn.results.toList=rs) (hc:ar E.P g=true) (he:st.ev f= .fn g caps) (hrsv:st.bS=none)
 (h:aa E body (bV E.P rs st fun s z=>al E ops l Q (s.put dst z)) { st with tmps:=(xs.toList.map st.ev++caps)++List.replicate (n-(xs.toList.map st.ev++caps).length) (.v undef),up:=st.tmps++st.up }):
 al E ops (⟨dst,.call ⟨.value f,xs,tys⟩,ty,pos,after,none⟩::l) Q st:=by
 intro w0 im0 cx a w h0 hG r
 subst hn;subst hr
 refine wpList_step (fun K' hK'=>?_)
 have hw:Region.wanted ⟨dst,.call ⟨.value f,xs,tys⟩,ty,pos,after,none⟩ (yielded ops a.tmps)=true:=rfl
 rw[if_pos hw]
 have hv:=r.ev f
 rw[he] at hv
 obtain⟨us,hfe,hnu,hpu⟩:=hv.iq
 have hargs:Pw cx (xs.toList.map st.ev++caps) (xs.toList.map a.eval++us):=by
  refine⟨by simp[hnu],fun i x v h1 h2=>?_⟩
  rcases fT _ _ _ _ h1 with⟨l1,h1⟩|⟨l1,h1⟩
  ·rw[List.getElem?_append_left (by simpa using l1)] at h2
   rw[List.getElem?_map] at h1 h2
   cases hc:xs.toList[i]? with
   |none=>simp[hc] at h1
   |some z=>simp only[hc,Option.map_some,Option.some.injEq] at h1 h2;subst h1;subst h2;exact r.ev z
  ·rw[List.getElem?_append_right (by simpa using l1)] at h2
   have:(xs.toList.map a.eval).length=(xs.toList.map st.ev).length:=by simp
   rw[this] at h2
   exact hpu _ _ _ h1 h2
 have hrun:(execOp a.eval ⟨dst,.call ⟨.value f,xs,tys⟩,ty,pos,after,none⟩).run E.P w= .ok (.enter g (xs.toList.map a.eval++us).toArray) w:=by
  unfold ar at hc
  simp only[hf,Bool.and_eq_true,Bool.not_eq_true'] at hc
  obtain⟨hn1,hn2⟩:=hc
  have hbn:fn.body.isNone=false:=by rw[hb];rfl
  have harr:Array.map a.eval xs++us.toArray=(xs.toList.map a.eval++us).toArray:=by
   apply Array.ext'
   simp
  have he':a.eval f= .func (.func g) #[] us.toArray:=hfe
  simp only[execOp,resolve,he',Deferred.ofValue,Sem.run_bind,Sem.run_pure,Result.andThen_ok,invoke,callFunc,run_program,hf,hn1,Bool.false_eq_true,if_false,hbn,Array.empty_append,harr]
 unfold Oper.wp
 rw[hrun]
 simp only[Oper.upon]
 generalize hvs:xs.toList.map a.eval++us=vs at *
 generalize hys:xs.toList.map st.ev++caps=ys at *
 have hrel:Rel w0 ⟨im0.im,a.tmps.toList++im0.ex,im0.dr⟩ cx { st with tmps:=ys++List.replicate (fn.ntmps-ys.length) (.v undef),up:=st.tmps++st.up } { tmps:=vs.toArray++Array.replicate (fn.ntmps-vs.toArray.size) undef,defers:=[] } w:=by
  refine⟨⟨rfl,r.defers.2⟩,by simp[hargs.1],?_,r.below,r.da,r.dp,r.cn,r.bT,r.own,r.cJ,r.tail,r.tok,r.apart,r.dv,⟨?_,?_⟩,r.hole⟩
  ·intro i x v h1 h2
   rcases fT _ _ _ _ h1 with⟨l1,h1⟩|⟨l1,h1⟩
   ·have:i<vs.length:=by rw[hargs.1];exact l1
    rw[Array.getElem?_append_left (by simpa using this)] at h2
    exact hargs.2 i x v h1 (by simpa using h2)
   ·have hlen:vs.length=ys.length:=hargs.1
    rw[Array.getElem?_append_right (by simp;omega)] at h2
    have e1:x= .v undef:=by
     have:=List.mem_of_getElem? h1
     simp only[List.mem_replicate] at this
     exact this.2
    have e2:v=undef:=by
     have:=Array.mem_of_getElem? h2
     simp only[Array.mem_replicate] at this
     exact this.2
    subst e1;subst e2
    exact .base (.v _)
  ·show(a.tmps.toList++im0.ex).length=(st.tmps++st.up).length
   rw[List.length_append,List.length_append,r.up.1,Array.length_toList,r.size]
  ·intro i x v h1 h2
   have h1:(st.tmps++st.up)[i]?=some x:=h1
   have h2:(a.tmps.toList++im0.ex)[i]?=some v:=h2
   rcases fT _ _ _ _ h1 with⟨l1,h1⟩|⟨l1,h1⟩
   ·rw[List.getElem?_append_left (by rw[Array.length_toList,r.size];exact l1)] at h2
    exact r.tmps i x v h1 (by simpa using h2)
   ·rw[List.getElem?_append_right (by rw[Array.length_toList,r.size];exact l1),Array.length_toList,r.size] at h2
    exact r.up.2 _ x v h1 h2
 have hsz:vs.toArray.size=vs.length:=by simp
 refine(calls_of_wp (R:=fun e w'=>∃v,e= .returned v∧K' (a.put dst v) w') hf hb ?_).mono ?_
 ·refine wp_mono (h w0 ⟨im0.im,a.tmps.toList++im0.ex,im0.dr⟩ _ _ w h0 hG hrel) fun e a' w' hh=>?_
  obtain⟨c',st',r',q⟩:=hh
  have fin:(st'.up=st.tmps++st.up∧ig E.P st' fn.results.toList fun l'=>al E ops l Q (St.put { st' with tmps:=st.tmps,up:=st.up } dst (fu l')))→
   a'.defers=[]∧∃v,(results fn a'.tmps).run E.P w'= .ok v w'∧∃v',Ending.returned v= .returned v'∧K' (a.put dst v') w':=by
   rintro⟨hup,q⟩
   obtain⟨l',us',h1,h2,h3⟩:=kT r' q
   refine⟨r'.defers.1,_,wx h1,_,rfl,hK' _ _ ?_⟩
   have hup1:=r'.up.1
   have hup2:=r'.up.2
   rw[hup] at hup1 hup2
   have hup2':∀(i:Nat) (x:AV) (v:Value),(st.tmps++st.up)[i]?=some x→(a.tmps.toList++im0.ex)[i]?=some v→VR c' x v:=hup2
   have rb:Rel w0 im0 c' { st' with tmps:=st.tmps,up:=st.up } a w':=by
    refine⟨r.defers,r.size,fun i x v e1 e2=>?_,r'.below,r'.da,r'.dp,r'.cn,r'.bT,r'.own,r'.cJ,r'.tail,r'.tok,r'.apart,r'.dv,⟨r.up.1,fun i x v e1 e2=>?_⟩,r'.hole⟩
    ·have e1:st.tmps[i]?=some x:=e1
     have hlt:i<st.tmps.length:=(List.getElem?_eq_some_iff.1 e1).1
     refine hup2' i x v ?_ ?_
     ·rw[List.getElem?_append_left hlt];exact e1
     ·rw[List.getElem?_append_left (by rw[Array.length_toList,r.size];exact hlt)];simpa using e2
    ·have e1:st.up[i]?=some x:=e1
     refine hup2' (st.tmps.length+i) x v ?_ ?_
     ·rw[List.getElem?_append_right ab]
      rw[Nat.add_sub_cancel_left];exact e1
     ·rw[List.getElem?_append_right (by rw[Array.length_toList,r.size];omega),Array.length_toList,r.size,Nat.add_sub_cancel_left];exact e2
   refine h3 w0 im0 c' _ w' h0 hG (rb.put dst ?_)
   cases l' with
   |nil=>
    have:us'=[]:=List.eq_nil_of_length_eq_zero h2.1
    subst this
    exact .ax [] [] rfl aB
   |cons x l'=>cases l' with
    |nil=>
     cases us' with
     |nil=>have:=h2.1;simp at this
     |cons u us'=>
      have:us'=[]:=List.eq_nil_of_length_eq_zero (by have:=h2.1;simpa using this)
      subst this
      exact h2.2 0 x u rfl rfl
    |cons z l'=>
     have hl2:us'.length=(x::z::l').length:=h2.1
     rw[if_neg (by rw[hl2];simp)]
     exact .ax _ us' h2.1 h2.2
  cases e<;>simp only[bV] at q<;>first|exact q.elim|skip
  case normal=>exact fin q
  case ret=>exact fin q
 ·rintro e w' ⟨v,rfl,hk⟩;exact hk
end
end Go.az
namespace Go.az
open Go Go.RowKit
end Go.az
namespace Go.az
open Go Go.RowKit
section
variable{w0:World}{im0:cV}{c:Ctx}{st:St}{a:Act}{w:World}
def gX(im:Im)(w:World)(g n:Nat):Im:=fun b o=>if b=g then(if o<n then w.cell? ⟨g,o,none⟩ else none) else im b o
theorem Rel.ou(r:Rel w0 im0 c st a w){id g k:Nat}{es:List AV}(h1:c.β[id]?=some (some (g,k)))(h2:st.own[id]?=some (some es)){es':List AV}{n:Nat}(hes:es'=es.take n)(hc:∀e∈es',∀x∈e.leaves,x.dO=some x):
 ∃c',c.le c'∧c'.β=c.β∧c'.tk=c.tk∧(∀o,es'.length*k≤o→c'.im g o=none)∧Rel w0 im0 c' { st with own:=st.own.set id none } a w∧∃cv:Nat→Nat→Value,
  (∀(i:Nat) (e:AV),es'[i]?=some e→e.leaves.length=k)∧
  (∀(i:Nat) (e:AV) (j:Nat) (y:AV),es'[i]?=some e→e.leaves[j]?=some y→c'.im g (i*k+j)=some (cv i j))∧
  (∀(i:Nat) (e:AV) (j:Nat) (y:AV),es'[i]?=some e→e.leaves[j]?=some y→(cv i j).oneCell'=true)∧
  ∀(i:Nat) (e:AV) (j:Nat) (y:AV),es'[i]?=some e→e.leaves[j]?=some y→aS c'.im y (cv i j):=by
 have ho:=r.own id g k es h1 h2
 obtain⟨cs,ty,lo,hi,hblk,_,hsz,hlv,hcell⟩:=ho.bc
 have hsub:∀(i:Nat) (e:AV),es'[i]?=some e→es[i]?=some e:=fun i e he=>by
  rw[hes,List.getElem?_take] at he
  split at he
  ·exact he
  ·simp at he
 have hle:c.im.le (gX c.im w g (es'.length*k)):=by
  intro b o v hv
  unfold gX
  rw[if_neg (fun e=>by subst e;rw[ho.im o] at hv;simp at hv)]
  exact hv
 have hcle:c.le ⟨c.β,c.tk,gX c.im w g (es'.length*k)⟩:=⟨fun _ _ h=>h,fun t T h=>⟨T,h,rfl,.inl rfl⟩,hle⟩
 have hgo:∀b o,b≠g→gX c.im w g (es'.length*k) b o=c.im b o:=fun b o hb=>by unfold gX;rw[if_neg hb]
 refine⟨⟨c.β,c.tk,gX c.im w g (es'.length*k)⟩,hcle,rfl,rfl,fun o ho'=>?_,?_,fun i j=>cs.getD (i*k+j) undef,fun i e he=>hlv i e (hsub i e he),?_,?_,?_⟩
 ·show gX c.im w g (es'.length*k) g o=none
  unfold gX
  rw[if_pos rfl,if_neg ab]
 ·refine⟨r.defers,r.size,fun i x v e1 e2=>(r.tmps i x v e1 e2).mono hcle,r.below,r.da.trans hle,fun b o hb=>?_,fun b o x hx=>?_,by simp[r.bT],fun i g' k' es2 e1 e2=>?_,r.cJ,r.tail,fun t T b e1 e2=>?_,?_,fun g' cs' h=>(r.dv g' cs' h).mono hle,⟨r.up.1,fun i x v e1 e2=>(r.up.2 i x v e1 e2).mono hcle⟩,r.hole⟩
  ·show gX c.im w g (es'.length*k) b o=_
   rw[hgo b o (fun e=>by have:=ho.new;omega)];exact r.dp b o hb
  ·have hx:gX c.im w g (es'.length*k) b o=some x:=hx
   unfold gX at hx
   split at hx
   ·rename_i hb;subst hb
    split at hx
    ·exact hx
    ·simp at hx
   ·exact r.cn b o x hx
  ·have e2:(st.own.set id none)[i]?=some (some es2):=e2
   rw[List.getElem?_set] at e2
   by_cases hi':id=i
   ·subst hi';rw[if_pos rfl] at e2;split at e2<;>simp at e2
   ·rw[if_neg hi'] at e2
    have hne:=r.apart.oo i id g' k' g k es2 es e1 h1 e2 h2 (Ne.symm hi')
    exact(r.own i g' k' es2 e1 e2).mono hcle (fun o=>by show gX c.im w g (es'.length*k) g' o=none;rw[hgo g' o hne];exact(r.own i g' k' es2 e1 e2).im o) rfl
  ·have ht:=r.tok t T b e1 e2
   have hne:=r.apart.ot id t g k es T b h1 h2 e1 e2
   exact⟨ht.new,ht.room,fun o ho'=>by show gX c.im w g (es'.length*k) b o=none;rw[hgo b o (Ne.symm hne)];exact ht.im o ho',ht.bc⟩
  ·have conv:∀{i:Nat} {e:List AV},(st.own.set id none)[i]?=some (some e)→st.own[i]?=some (some e):=by
    intro i e he
    rw[List.getElem?_set] at he
    by_cases hi':id=i
    ·subst hi';rw[if_pos rfl] at he;split at he<;>simp at he
    ·rw[if_neg hi'] at he;exact he
   exact⟨fun i j g1 k1 g2 k2 e1 e2 a1 a2 a3 a4 hij=>r.apart.oo i j g1 k1 g2 k2 e1 e2 a1 a2 (conv a3) (conv a4) hij,fun i t g1 k1 e1 T b a1 a2 a3 a4=>r.apart.ot i t g1 k1 e1 T b a1 (conv a2) a3 a4,r.apart.tt⟩
 ·intro i e j y he hy
  have hlt:i*k+j<es'.length*k:=lO (bP he) (by rw[←hlv i e (hsub i e he)];exact bP hy)
  show gX c.im w g (es'.length*k) g (i*k+j)=_
  unfold gX
  rw[if_pos rfl,if_pos hlt]
  obtain⟨v,hv,_⟩:=hcell i e j y (hsub i e he) hy
  simp[World.cell?,hblk,hv,Array.getD_eq_getD_getElem?]
 ·intro i e j y he hy
  obtain⟨v,hv,_,h1⟩:=hcell i e j y (hsub i e he) hy
  simp only[Array.getD_eq_getD_getElem?,hv,Option.getD_some]
  rcases h1 with rfl|h1
  ·have:=hc e (List.mem_of_getElem? he) _ (List.mem_of_getElem? hy)
   simp[AV.dO] at this
  ·exact h1
 ·intro i e j y he hy
  obtain⟨v,hv,hvr,h1⟩:=hcell i e j y (hsub i e he) hy
  simp only[Array.getD_eq_getD_getElem?,hv,Option.getD_some]
  exact((qx hvr (hc e (List.mem_of_getElem? he) y (List.mem_of_getElem? hy))).1).mono hle
end
section
variable{E:Env}{c:Code}{Q:Exit→St→Prop}{s:St}
theorem Rel.ry{w0:World}{im0:cV}{c:Ctx}{st:St}{a:Act}{w:World}(r:Rel w0 im0 c st a w){i:Nat}{y:AV}(h:∀v,a.tmps[i]?=some v→VR c y v):Rel w0 im0 c { st with tmps:=st.tmps.set i y } a w:=by
 refine⟨r.defers,by simp[r.size],fun j x v h1 h2=>?_,r.below,r.da,r.dp,r.cn,r.bT,r.own,r.cJ,r.tail,r.tok,r.apart,r.dv,r.up,r.hole⟩
 have h1:(st.tmps.set i y)[j]?=some x:=h1
 rw[List.getElem?_set] at h1
 by_cases hj:i=j
 ·subst hj
  rw[if_pos rfl] at h1
  split at h1
  ·simp only[Option.some.injEq] at h1;subst h1;exact h v h2
  ·simp at h1
 ·rw[if_neg hj] at h1;exact r.tmps j x v h1 h2
theorem Rel.mz{w0:World}{im0:cV}{c:Ctx}{st:St}{a:Act}{w:World}(r:Rel w0 im0 c st a w)(id:Nat):Rel w0 im0 c { st with own:=st.own.set id none } a w:=by
 have conv:∀{i:Nat} {e:List AV},(st.own.set id none)[i]?=some (some e)→st.own[i]?=some (some e):=by
  intro i e he
  rw[List.getElem?_set] at he
  by_cases hi':id=i
  ·subst hi';rw[if_pos rfl] at he;split at he<;>simp at he
  ·rw[if_neg hi'] at he;exact he
 exact⟨r.defers,r.size,r.tmps,r.below,r.da,r.dp,r.cn,by simp[r.bT],fun i g k es h1 h2=>r.own i g k es h1 (conv h2),r.cJ,r.tail,r.tok,
  ⟨fun i j g1 k1 g2 k2 e1 e2 a1 a2 a3 a4 hij=>r.apart.oo i j g1 k1 g2 k2 e1 e2 a1 a2 (conv a3) (conv a4) hij,fun i t g1 k1 e1 T b a1 a2 a3 a4=>r.apart.ot i t g1 k1 e1 T b a1 (conv a2) a3 a4,r.apart.tt⟩,r.dv,r.up,r.hole⟩
theorem aa.ou(i id:Nat)(e:AV)(hi:s.tmps[i]?=some (.ptr id 0 0))(ho:s.own[id]?=some (some [e]))(hc:∀x∈e.leaves,x.dO=some x)
 (hw:aa E c Q { s with tmps:=s.tmps.set i (.bR e.leaves),own:=s.own.set id none }):aa E c Q s:=by
 intro w0 im0 cx a w h0 hG r
 have hlt:i<a.tmps.size:=by rw[r.size];exact bP hi
 obtain⟨g,k,hb,hv⟩:=(r.tmps i _ _ hi (Array.getElem?_eq_getElem hlt)).gR
 obtain⟨c',hle,hβ,_,_,r',cv,_,hm,h1,hvr⟩:=r.ou (n:=1) hb ho rfl (fun x hx=>by simp at hx;subst hx;exact hc)
 refine hw w0 im0 c' a w h0 hG (r'.ry fun v hv'=>?_)
 rw[Array.getElem?_eq_getElem hlt,Option.some.injEq] at hv'
 rw[←hv',hv]
 have:=aS.bR (im:=c'.im) e.leaves g 0 (fun j=>cv 0 j) (fun j x hj=>by have:=hm 0 e j x rfl hj;simpa using this) (fun j x hj=>h1 0 e j x rfl hj) (fun j x hj=>hvr 0 e j x rfl hj)
 simpa using VR.base this
theorem aa.VW(i id k cap:Nat)(es:List AV)(hi:s.tmps[i]?=some (.mu id k 0 es.length cap))(ho:s.own[id]?=some (some es))(hc:∀e∈es,∀x∈e.leaves,x.dO=some x)
 (hw:aa E c Q { s with tmps:=s.tmps.set i (.sl none k es),own:=s.own.set id none }):aa E c Q s:=by
 intro w0 im0 cx a w h0 hG r
 have hlt:i<a.tmps.size:=by rw[r.size];exact bP hi
 rcases(r.tmps i _ _ hi (Array.getElem?_eq_getElem hlt)).cX with⟨g,hb,hcap,hv⟩|⟨hz,_,hv⟩
 ·obtain⟨c',hle,hβ,_,_,r',cv,hl,hm,h1,hvr⟩:=r.ou (n:=es.length) hb ho (List.take_length).symm hc
  refine hw w0 im0 c' a w h0 hG (r'.ry fun v hv'=>?_)
  rw[Array.getElem?_eq_getElem hlt,Option.some.injEq] at hv'
  rw[←hv',hv]
  have:=aS.sl (im:=c'.im) k es g (0*k) cap cv hcap hl (fun i e j x he hj=>by rw[Nat.zero_mul,Nat.zero_add];exact hm i e j x he hj) h1 hvr
  exact .base this
 ·have hes:es=[]:=List.eq_nil_of_length_eq_zero hz
  subst hes
  have r':=r.ry (i:=i) (y:= .sl none k []) fun v hv'=>by
   rw[Array.getElem?_eq_getElem hlt,Option.some.injEq] at hv'
   rw[←hv',hv];exact .base (.cI k none 0)
  exact hw w0 im0 cx a w h0 hG (r'.mz id)
end
section
variable{E:Env}{c:Code}{Q:Exit→St→Prop}{s:St}
end
theorem aS.of_nil{im:Im}{k:Nat}{v:Value}(h:aS im .aw v):aS im (.sl none k []) v:=by cases h;exact .cI k none 0
end Go.az
namespace Go.az
open Go Go.RowKit
section
variable{w0:World}{im0:cV}{c:Ctx}{st:St}{a:Act}{w:World}
end
end Go.az
namespace Go.az
open Go Go.RowKit
def AV.b7(σ:Nat→Option Nat):AV→AV
 |.mu id k off n cap=>match σ id with|some j=> .mu j k off n cap|none=> .any
 |.ptr id i o=>match σ id with|some j=> .ptr j i o|none=> .any
 |.agg _=> .any
 |.ax _=> .any
 |.fn _ (_::_)=> .any
 |x=>x
def AV.eX(σ:Nat→Option Nat):AV→AV
 |.agg cs=> .agg (cs.map (AV.b7 σ))
 |.fn f cs=> .fn f (cs.map (AV.b7 σ))
 |x=>x.b7 σ
def AV.cz(σ:Nat→Option Nat):AV→AV
 |.ax cs=> .ax (cs.map (AV.eX σ))
 |x=>x.eX σ
def cA(sel:List Nat)(id:Nat):Option Nat:=if id∈sel then some (sel.idxOf id) else none
theorem B2{sel:List Nat}{id j:Nat}(h:cA sel id=some j):sel[j]?=some id:=by
 unfold cA at h
 split at h
 ·rename_i hm
  simp only[Option.some.injEq] at h;subst h
  rw[List.getElem?_eq_getElem (List.idxOf_lt_length_of_mem hm)]
  simp
 ·simp at h
def pV(β:List (Option (Nat×Nat)))(sel:List Nat):List (Option (Nat×Nat)):=sel.map fun id=>(β[id]?).join
def jF(own:List (Option (List AV)))(sel:List Nat):List (Option (List AV)):=sel.map fun id=>((own[id]?).join).map (·.map (AV.cz (cA sel)))
section
variable{w0:World}{im0:cV}{c:Ctx}{st:St}{a:Act}{w:World}{sel:List Nat}
theorem tz{β:List (Option (Nat×Nat))}{i:Nat}{p:Nat×Nat}(h:(pV β sel)[i]?=some (some p)):∃id,sel[i]?=some id∧β[id]?=some (some p):=by
 unfold pV at h
 rw[List.getElem?_map] at h
 cases hs:sel[i]? with
 |none=>simp[hs] at h
 |some id=>
  simp only[hs,Option.map_some,Option.some.injEq] at h
  refine⟨id,rfl,?_⟩
  cases hb:β[id]? with
  |none=>simp[hb] at h
  |some q=>simp only[hb,Option.join_some] at h;rw[h]
theorem B4{β:List (Option (Nat×Nat))}{i id:Nat}{p:Nat×Nat}(h1:sel[i]?=some id)(h2:β[id]?=some (some p)):(pV β sel)[i]?=some (some p):=by
 unfold pV
 rw[List.getElem?_map,h1]
 simp[h2]
theorem tw{own:List (Option (List AV))}{i:Nat}{es:List AV}(h:(jF own sel)[i]?=some (some es)):∃id es0,sel[i]?=some id∧own[id]?=some (some es0)∧es=es0.map (AV.cz (cA sel)):=by
 unfold jF at h
 rw[List.getElem?_map] at h
 cases hs:sel[i]? with
 |none=>simp[hs] at h
 |some id=>
  simp only[hs,Option.map_some,Option.some.injEq] at h
  cases hb:own[id]? with
  |none=>simp[hb] at h
  |some q=>
   cases q with
   |none=>simp[hb] at h
   |some es0=>
    simp only[hb,Option.join_some,Option.map_some,Option.some.injEq] at h
    exact⟨id,es0,rfl,hb,h.symm⟩
abbrev pU(c:Ctx)(sel:List Nat):Ctx:=⟨pV c.β sel,c.tk,c.im⟩
theorem VR.b7{x:AV}{v:Value}(h:VR c x v):VR (pU c sel) (x.b7 (cA sel)) v:=by
 cases x with
 |any=>exact .base (.any _)
 |v x=>cases h.bf;exact .base (.v _)
 |agg cs=>exact .base (.any _)
 |ax cs=>exact .base (.any _)
 |aw=>cases h.ew;exact .base .aw
 |sl t k es=>
  cases t with
  |none=>exact .base h.fq
  |some t=>
   cases h with
   |base h=>cases h
   |tok hT h0 hk hle hcur=>exact .tok hT h0 hk hle hcur
 |mu id k off n cap=>
  simp only[AV.b7]
  rcases h.cX with⟨g,hb,hcap,rfl⟩|⟨rfl,rfl,rfl⟩
  ·cases hs:cA sel id with
   |none=>exact .base (.any _)
   |some j=>exact .mu (B4 (B2 hs) hb) hcap
  ·cases hs:cA sel id with
   |none=>exact .base (.any _)
   |some j=>exact .jV
 |ptr id i o=>
  simp only[AV.b7]
  obtain⟨g,k,hb,rfl⟩:=h.gR
  cases hs:cA sel id with
  |none=>exact .base (.any _)
  |some j=>exact .ptr (B4 (B2 hs) hb)
 |bR cs=>obtain⟨b,o,rfl,h0⟩:=h.oB;exact .base h0
 |fn f cs=>
  cases cs with
  |nil=>
   obtain⟨vs,rfl,hn,_⟩:=h.iq
   have:vs=[]:=List.eq_nil_of_length_eq_zero (by simpa using hn)
   subst this
   exact .base (.fn f [] [] rfl aB)
  |cons=>exact .base (.any _)
theorem VR.rn{cs:List AV}{vs:List Value}{f:AV→AV}{d:Ctx}(hf:∀x v,VR c x v→VR d (f x) v)(hp:∀(i:Nat) (x:AV) (u:Value),cs[i]?=some x→vs[i]?=some u→VR c x u):∀(i:Nat) (x:AV) (u:Value),(cs.map f)[i]?=some x→vs[i]?=some u→VR d x u:=fun i x u h1 h2=>by
 rw[List.getElem?_map] at h1
 cases hc:cs[i]? with
 |none=>simp[hc] at h1
 |some z=>simp only[hc,Option.map_some,Option.some.injEq] at h1;subst h1;exact hf _ _ (hp i z u hc h2)
theorem VR.eX{x:AV}{v:Value}(h:VR c x v):VR (pU c sel) (x.eX (cA sel)) v:=by
 cases x with
 |agg cs=>
  obtain⟨vs,rfl,hn,hp⟩:=h.jv
  exact .agg _ vs (by simp[hn]) (VR.rn (fun _ _ h=>h.b7) hp)
 |fn f cs=>
  obtain⟨vs,rfl,hn,hp⟩:=h.iq
  exact .fn f _ vs (by simp[hn]) (VR.rn (fun _ _ h=>h.b7) hp)
 |_=>exact h.b7
theorem VR.cz{x:AV}{v:Value}(h:VR c x v):VR (pU c sel) (x.cz (cA sel)) v:=by
 cases x with
 |ax cs=>
  obtain⟨vs,rfl,hn,hp⟩:=h.nR
  exact .ax _ vs (by simp[hn]) (VR.rn (fun _ _ h=>h.eX) hp)
 |_=>exact h.eX
theorem BF(e:AV)(σ:Nat→Option Nat):(e.cz σ).leaves.length=e.leaves.length∧∀(j:Nat) (y:AV),(e.cz σ).leaves[j]?=some y→∃x,e.leaves[j]?=some x∧(y=x.b7 σ∨y=x.cz σ):=by
 cases e with
 |agg cs=>
  refine⟨by simp[AV.cz,AV.eX,AV.leaves],fun j y h=>?_⟩
  simp only[AV.cz,AV.eX,AV.leaves,List.getElem?_map] at h
  cases hc:cs[j]? with
  |none=>simp[hc] at h
  |some z=>simp only[hc,Option.map_some,Option.some.injEq] at h;exact⟨z,hc,.inl h.symm⟩
 |mu id k off n cap=>
  have hl:(AV.cz σ (.mu id k off n cap)).leaves=[AV.cz σ (.mu id k off n cap)]:=by simp only[AV.cz,AV.eX,AV.b7];cases σ id<;>rfl
  rw[hl]
  refine⟨rfl,fun j y h=>?_⟩
  cases j with
  |zero=>simp only[List.getElem?_cons_zero,Option.some.injEq] at h;exact⟨_,rfl,.inr h.symm⟩
  |succ j=>simp at h
 |ptr id i o=>
  have hl:(AV.cz σ (.ptr id i o)).leaves=[AV.cz σ (.ptr id i o)]:=by simp only[AV.cz,AV.eX,AV.b7];cases σ id<;>rfl
  rw[hl]
  refine⟨rfl,fun j y h=>?_⟩
  cases j with
  |zero=>simp only[List.getElem?_cons_zero,Option.some.injEq] at h;exact⟨_,rfl,.inr h.symm⟩
  |succ j=>simp at h
 |fn f cs=>
  refine⟨rfl,fun j y h=>?_⟩
  cases j with
  |zero=>simp only[AV.cz,AV.eX,AV.leaves,List.getElem?_cons_zero,Option.some.injEq] at h;exact⟨_,rfl,.inr h.symm⟩
  |succ j=>simp[AV.cz,AV.eX,AV.leaves] at h
 |_=>
  refine⟨rfl,fun j y h=>?_⟩
  cases j with
  |zero=>simp only[AV.cz,AV.eX,AV.b7,AV.leaves,List.getElem?_cons_zero,Option.some.injEq] at h;exact⟨_,rfl,.inr h.symm⟩
  |succ j=>simp[AV.cz,AV.eX,AV.b7,AV.leaves] at h
theorem Rel.norm(r:Rel w0 im0 c st a w)(sel:List Nat)(hnd:sel.Nodup)(hrsv:st.bS=none)(hup:st.up.map (AV.cz (cA sel))=st.up):
 Rel w0 im0 (pU c sel) { st with tmps:=st.tmps.map (AV.cz (cA sel)),own:=jF st.own sel } a w:=by
 have inj:∀{i j id:Nat},sel[i]?=some id→sel[j]?=some id→i=j:=fun{i j id} h1 h2=>by
  have hi:=bP h1
  have hj:=bP h2
  rw[List.getElem?_eq_getElem hi,Option.some.injEq] at h1
  rw[List.getElem?_eq_getElem hj,Option.some.injEq] at h2
  have hp:=List.pairwise_iff_getElem.1 hnd
  rcases Nat.lt_trichotomy i j with h|h|h
  ·exact absurd (h1.trans h2.symm) (hp i j hi hj h)
  ·exact h
  ·exact absurd (h2.trans h1.symm) (hp j i hj hi h)
 refine⟨r.defers,by simp[r.size],fun i x v h1 h2=>VR.rn (d:=pU c sel) (vs:=a.tmps.toList) (fun _ _ h=>h.cz) (fun i x u e1 e2=>r.tmps i x u e1 (by simpa using e2)) i x v h1 (by simpa using h2),r.below,r.da,r.dp,r.cn,by simp[pV,jF],fun i g k es h1 h2=>?_,r.cJ,r.tail,r.tok,⟨fun i j g1 k1 g2 k2 e1 e2 a1 a2 a3 a4 hij=>?_,fun i t g1 k1 e1 T b a1 a2 a3 a4=>?_,r.apart.tt⟩,r.dv,⟨r.up.1,fun i x v h1 h2=>?_⟩,fun l d i h1=>by rw[hrsv] at h1;simp at h1⟩
 ·obtain⟨id,hs,hb⟩:=tz h1
  obtain⟨id',es0,hs',ho,rfl⟩:=tw h2
  rw[hs,Option.some.injEq] at hs';subst hs'
  obtain⟨hnew,him,cs,ty,lo,hi,hblk,hfr,hsz,hlv,hcell⟩:=r.own id g k es0 hb ho
  refine⟨hnew,him,cs,ty,lo,hi,hblk,hfr,by rw[List.length_map];exact hsz,fun i e he=>?_,fun i e j y he hy=>?_⟩
  ·rw[List.getElem?_map] at he
   cases hc:es0[i]? with
   |none=>simp[hc] at he
   |some z=>simp only[hc,Option.map_some,Option.some.injEq] at he;subst he;rw[(BF z _).1];exact hlv i z hc
  ·rw[List.getElem?_map] at he
   cases hc:es0[i]? with
   |none=>simp[hc] at he
   |some z=>
    simp only[hc,Option.map_some,Option.some.injEq] at he;subst he
    obtain⟨x,hx,hyx⟩:=(BF z _).2 j y hy
    obtain⟨v,hv,hvr,h1⟩:=hcell i z j x hc hx
    refine⟨v,hv,?_,?_⟩
    ·rcases hyx with rfl|rfl
     ·exact hvr.b7
     ·exact hvr.cz
    ·rcases h1 with rfl|h1
     ·rcases hyx with rfl|rfl<;>exact .inl rfl
     ·exact .inr h1
 ·obtain⟨id,hs,hb⟩:=tz a1
  obtain⟨jd,hs2,hb2⟩:=tz a2
  obtain⟨id',es0,hs',ho,rfl⟩:=tw a3
  obtain⟨jd',es2,hs2',ho2,rfl⟩:=tw a4
  rw[hs,Option.some.injEq] at hs';subst hs'
  rw[hs2,Option.some.injEq] at hs2';subst hs2'
  exact r.apart.oo id jd g1 k1 g2 k2 es0 es2 hb hb2 ho ho2 (fun e=>hij (by subst e;exact inj hs hs2))
 ·obtain⟨id,hs,hb⟩:=tz a1
  obtain⟨id',es0,hs',ho,rfl⟩:=tw a2
  rw[hs,Option.some.injEq] at hs';subst hs'
  exact r.apart.ot id t g1 k1 es0 T b hb ho a3 a4
 ·have h3:(st.up.map (AV.cz (cA sel)))[i]?=some x:=by rw[hup];exact h1
  exact VR.rn (d:=pU c sel) (fun _ _ h=>h.cz) r.up.2 i x v h3 h2
theorem Rel.rX(r:Rel w0 im0 c st a w):c.le ⟨c.β++[none],c.tk,c.im⟩∧Rel w0 im0 ⟨c.β++[none],c.tk,c.im⟩ { st with own:=st.own++[some []] } a w:=by
 have hle:c.le ⟨c.β++[none],c.tk,c.im⟩:=⟨fun i p h=>by
  show(c.β++[none])[i]?=some (some p)
  rw[List.getElem?_append_left (bP h)];exact h,fun t T h=>⟨T,h,rfl,.inl rfl⟩,.refl _⟩
 have hβ:∀{i:Nat} {p:Nat×Nat},(c.β++[none])[i]?=some (some p)→i<st.own.length∧c.β[i]?=some (some p):=fun{i p} h=>by
  rcases lN _ _ _ _ h with⟨hl,h⟩|⟨_,h⟩
  ·exact⟨by rw[←r.bT];exact hl,h⟩
  ·simp at h
 have ho:∀{i:Nat} {e:List AV},i<st.own.length→(st.own++[some []])[i]?=some (some e)→st.own[i]?=some (some e):=fun{i e} hi h=>by
  rw[List.getElem?_append_left hi] at h;exact h
 exact⟨hle,r.defers,r.size,fun i x v e1 e2=>(r.tmps i x v e1 e2).mono hle,r.below,r.da,r.dp,r.cn,by simp[r.bT],fun i g' k' es' e1 e2=>by
  obtain⟨hi,e1⟩:=hβ e1
  have:=r.own i g' k' es' e1 (ho hi e2)
  exact this.mono hle this.im rfl,r.cJ,r.tail,r.tok,
  ⟨fun i j g1 k1 g2 k2 e1 e2 a1 a2 a3 a4 hij=>by
    obtain⟨hi,a1⟩:=hβ a1
    obtain⟨hj,a2⟩:=hβ a2
    exact r.apart.oo i j g1 k1 g2 k2 e1 e2 a1 a2 (ho hi a3) (ho hj a4) hij,fun i t g1 k1 e1 T b a1 a2 a3 a4=>by
    obtain⟨hi,a1⟩:=hβ a1
    exact r.apart.ot i t g1 k1 e1 T b a1 (ho hi a2) a3 a4,r.apart.tt⟩,r.dv,⟨r.up.1,fun i x v e1 e2=>(r.up.2 i x v e1 e2).mono hle⟩,fun l d i e1 e2=>by
    have:=r.hole l d i e1 e2
    show(c.β++[none])[i]?=some none
    rw[List.getElem?_append_left (bP this)];exact this⟩
theorem Rel.Ca(r:Rel w0 im0 c st a w){id j:Nat}{cs:List AV}{x y:AV}(ho:st.own[id]?=some (some [.agg cs]))(hx:cs[j]?=some x)(hxn:x≠.any)(hy:∀v,VR c x v→VR c y v):Rel w0 im0 c { st with own:=st.own.set id (some [.agg (cs.set j y)]) } a w:=by
 have hlt:=bP ho
 have conv:∀{i:Nat} {e:List AV},(st.own.set id (some [.agg (cs.set j y)]))[i]?=some (some e)→(i=id∧e=[.agg (cs.set j y)])∨(i≠id∧st.own[i]?=some (some e)):=by
  intro i e he
  rw[List.getElem?_set] at he
  by_cases hi':id=i
  ·subst hi';rw[if_pos rfl,if_pos hlt] at he
   simp only[Option.some.injEq] at he;exact .inl ⟨rfl,he.symm⟩
  ·rw[if_neg hi'] at he;exact .inr ⟨Ne.symm hi',he⟩
 have old:∀{i:Nat} {e:List AV},(st.own.set id (some [.agg (cs.set j y)]))[i]?=some (some e)→∃e',st.own[i]?=some (some e'):=fun{i e} he=>by
  rcases conv he with⟨rfl,_⟩|⟨_,h⟩
  ·exact⟨_,ho⟩
  ·exact⟨_,h⟩
 refine⟨r.defers,r.size,r.tmps,r.below,r.da,r.dp,r.cn,by simp[r.bT],fun i g k es h1 h2=>?_,r.cJ,r.tail,r.tok,
  ⟨fun i j g1 k1 g2 k2 e1 e2 a1 a2 a3 a4 hij=>by
    obtain⟨_,a3⟩:=old a3
    obtain⟨_,a4⟩:=old a4
    exact r.apart.oo i j g1 k1 g2 k2 _ _ a1 a2 a3 a4 hij,fun i t g1 k1 e1 T b a1 a2 a3 a4=>by
    obtain⟨_,a2⟩:=old a2
    exact r.apart.ot i t g1 k1 _ T b a1 a2 a3 a4,r.apart.tt⟩,r.dv,r.up,r.hole⟩
 rcases conv h2 with⟨rfl,rfl⟩|⟨_,h2⟩
 ·obtain⟨hnew,him,ds,ty,lo,hi,hblk,hfr,hsz,hlv,hcell⟩:=r.own i g k _ h1 ho
  refine⟨hnew,him,ds,ty,lo,hi,hblk,hfr,hsz,fun i' e he=>?_,fun i' e j' z he hz=>?_⟩
  ·cases i' with
   |succ i'=>simp at he
   |zero=>
    simp only[List.getElem?_cons_zero,Option.some.injEq] at he;subst he
    have:=hlv 0 _ rfl
    simpa[AV.leaves] using this
  ·cases i' with
   |succ i'=>simp at he
   |zero=>
    simp only[List.getElem?_cons_zero,Option.some.injEq] at he;subst he
    have hz:(cs.set j y)[j']?=some z:=hz
    rw[List.getElem?_set] at hz
    by_cases hj:j=j'
    ·subst hj
     rw[if_pos rfl] at hz
     split at hz
     ·simp only[Option.some.injEq] at hz;subst hz
      obtain⟨v,e1,e2,e3⟩:=hcell 0 _ j x rfl hx
      refine⟨v,e1,hy v e2,.inr ?_⟩
      rcases e3 with e3|e3
      ·exact absurd e3 hxn
      ·exact e3
     ·simp at hz
    ·rw[if_neg hj] at hz;exact hcell 0 _ j' z rfl hz
 ·exact r.own i g k es h1 h2
end
section
variable{E:Env}{c:Code}{Q:Exit→St→Prop}{s:St}{ops:Array Oper}{l:List Oper}
theorem aa.norm(sel:List Nat)(hnd:sel.Nodup)(hrsv:s.bS=none)(hup:s.up.map (AV.cz (cA sel))=s.up)(hw:aa E c Q { s with tmps:=s.tmps.map (AV.cz (cA sel)),own:=jF s.own sel }):aa E c Q s:=
 fun w0 im0 _ a w h0 hG r=>hw w0 im0 _ a w h0 hG (r.norm sel hnd hrsv hup)
theorem XF{α:Type}(l m:List α)(i:Nat)(x:α)(h:i<l.length):(l++m).set i x=l.set i x++m:=by rw[List.set_append_left _ _ h]
theorem aa.kI(id j k:Nat)(cs:List AV)(ho:s.own[id]?=some (some [.agg cs]))(hx:cs[j]?=some .aw)(hw:aa E c Q { s with own:=s.own.set id (some [.agg (cs.set j (.mu s.own.length k 0 0 0))])++[some []] }):aa E c Q s:=by
 intro w0 im0 cx a w h0 hG r
 obtain⟨_,r1⟩:=r.rX
 have r2:=r1.Ca (id:=id) (j:=j) (cs:=cs) (x:= .aw) (y:= .mu s.own.length k 0 0 0) (by show(s.own++[some []])[id]?=_;rw[List.getElem?_append_left (bP ho)];exact ho) hx aB (fun v hv=>by cases hv.ew;exact .jV)
 have e:(s.own++[some []]).set id (some [.agg (cs.set j (.mu s.own.length k 0 0 0))])=s.own.set id (some [.agg (cs.set j (.mu s.own.length k 0 0 0))])++[some []]:=XF _ _ _ _ (bP ho)
 have r2:Rel w0 im0 _ { s with own:=(s.own++[some []]).set id (some [.agg (cs.set j (.mu s.own.length k 0 0 0))]) } a w:=r2
 rw[e] at r2
 exact hw w0 im0 _ a w h0 hG r2
theorem aa.eS(id j:Nat){jd k n cap:Nat}(cs es:List AV)(hne:jd≠id)(ho:s.own[id]?=some (some [.agg cs]))(hx:cs[j]?=some (.mu jd k 0 n cap))(ho2:s.own[jd]?=some (some es))(hn:n≤es.length)(hc:∀e∈es.take n,∀x∈e.leaves,x.dO=some x)
 (hw:aa E c Q { s with own:=(s.own.set jd none).set id (some [.agg (cs.set j (.sl none k (es.take n)))]) }):aa E c Q s:=by
 intro w0 im0 cx a w h0 hG r
 have hlen:(es.take n).length=n:=by rw[List.length_take];omega
 have key:∃c',cx.le c'∧Rel w0 im0 c' { s with own:=s.own.set jd none } a w∧∀v,VR c' (.mu jd k 0 n cap) v→VR c' (.sl none k (es.take n)) v:=by
  cases hb:cx.β[jd]? with
  |none=>exact⟨cx,.refl _,r.mz jd,fun v hv=>by
    rcases hv.cX with⟨g,hb',_,_⟩|⟨rfl,rfl,rfl⟩
    ·rw[hb] at hb';simp at hb'
    ·rw[List.take_zero];exact .base (.cI k none 0)⟩
  |some p=>
   cases p with
   |none=>exact⟨cx,.refl _,r.mz jd,fun v hv=>by
     rcases hv.cX with⟨g,hb',_,_⟩|⟨rfl,rfl,rfl⟩
     ·rw[hb] at hb';simp at hb'
     ·rw[List.take_zero];exact .base (.cI k none 0)⟩
   |some p=>
    obtain⟨g,k'⟩:=p
    obtain⟨c',hle,hβ,_,_,r',cv,hl,hm,h1,hvr⟩:=r.ou (n:=n) hb ho2 rfl hc
    refine⟨c',hle,r',fun v hv=>?_⟩
    rcases hv.cX with⟨g',hb',hcap,rfl⟩|⟨rfl,rfl,rfl⟩
    ·rw[hβ,hb] at hb'
     simp only[Option.some.injEq,Prod.mk.injEq] at hb'
     obtain⟨rfl,rfl⟩:=hb'
     have:=aS.sl (im:=c'.im) k' (es.take n) g 0 cap cv ab hl (fun i e j x he hj=>by rw[Nat.zero_add];exact hm i e j x he hj) h1 hvr
     rw[hlen] at this
     rw[Nat.zero_mul];exact .base this
    ·rw[List.take_zero];exact .base (.cI k none 0)
 obtain⟨c',hle,r',hv⟩:=key
 have hown:(s.own.set jd none)[id]?=some (some [.agg cs]):=by rw[List.getElem?_set_ne hne];exact ho
 have r2:=r'.Ca (y:= .sl none k (es.take n)) hown hx aB hv
 exact hw w0 im0 c' a w h0 hG r2
end
theorem gL.jy{own:List (Option (List AV))}{id k n cap:Nat}{es sp:List AV}(h:own[id]?=some (some (es++sp)))(hn:n=es.length)(hc:∀e∈es,∀x∈e.leaves,x.dO=some x):gL own (.mu id k 0 n cap) (.sl none k es):=by
 subst hn
 have:=gL.mu (k:=k) (cap:=cap) h (n:=es.length) aB (by rw[List.take_left];exact hc)
 rw[List.take_left] at this;exact this
theorem ak.hP{E:Env}{ops:Array Oper}{d:Option Tmp}{l:List Oper}{st:St}{K:St→Prop}{g:FuncId}{caps xs ys:List AV}{x:Value}(hc:ai E g ys fun r t=>r= .v x∧t=[])(hb:ar E.P g=true)(hr:st.bS=none)(hy:ij (iG st.own) (xs++caps) ys)
 (h:cF E ops l (st.put d (.v x)) K):ak E ops (.fn g caps) xs d l st K:=ak.snap hc hb hr hy fun r t ⟨h1,h2⟩=>by
 subst h1;subst h2
 rw[List.append_nil];exact⟨trivial,h⟩
theorem aa.ov{E:Env}{c:Code}{Q:Exit→St→Prop}{s:St}(i id k n cap:Nat)(es sp:List AV)(hi:s.tmps[i]?=some (.mu id k 0 n cap))(ho:s.own[id]?=some (some (es++sp)))(hn:n=es.length)(hc:∀e∈es,∀x∈e.leaves,x.dO=some x)
 (hw:aa E c Q { s with tmps:=s.tmps.set i (.sl none k es),own:=s.own.set id none }):aa E c Q s:=by
 subst hn
 intro w0 im0 cx a w h0 hG r
 have hlt:i<a.tmps.size:=by rw[r.size];exact bP hi
 rcases(r.tmps i _ _ hi (Array.getElem?_eq_getElem hlt)).cX with⟨g,hb,hcap,hv⟩|⟨hz,_,hv⟩
 ·obtain⟨c',hle,hβ,_,_,r',cv,hl,hm,h1,hvr⟩:=r.ou (n:=es.length) (es':=es) hb ho List.take_left.symm hc
  refine hw w0 im0 c' a w h0 hG (r'.ry fun v hv'=>?_)
  rw[Array.getElem?_eq_getElem hlt,Option.some.injEq] at hv'
  rw[←hv',hv]
  have:=aS.sl (im:=c'.im) k es g (0*k) cap cv hcap hl (fun i e j x he hj=>by rw[Nat.zero_mul,Nat.zero_add];exact hm i e j x he hj) h1 hvr
  exact .base this
 ·have hes:es=[]:=List.eq_nil_of_length_eq_zero hz
  subst hes
  have r':=r.ry (i:=i) (y:= .sl none k []) fun v hv'=>by
   rw[Array.getElem?_eq_getElem hlt,Option.some.injEq] at hv'
   rw[←hv',hv];exact .base (.cI k none 0)
  exact hw w0 im0 cx a w h0 hG (r'.mz id)
end Go.az
namespace Go.az
open Go Go.RowKit
theorem aa.fin{E:Env}{y:Code}{Q:Exit→St→Prop}{K:St→Prop}{s:St}(h:∀s,aa E y Q s→K s)(g:aa E y Q s):K s:=h s g
def o6:Nat→Code→Nat×Nat×Nat
 |_+1,.region i ops _=>(i,(match ops[0]? with|some o=>o.dst.getD 0|none=>0),ops.size)
 |n+1,.seq a _=>o6 n a
 |n+1,.cond _ a _=>o6 n a
 |n+1,.block _ b=>o6 n b
 |n+1,.loop b=>o6 n b
 |n+1,.scope b=>o6 n b
 |_,_=>(0,0,0)
theorem aa.dW{E:Env}{Q:Exit→St→Prop}{st:St}{ι:Type}{c:Code}(hv:List Nat)(ps:ι→List (Nat×AV))(I:ι→Prop)(μ:ι→Nat)(i:ι)
 (hw0:st.Wk (st.at hv (ps i) st.own st.tk)) (hI:I i)
 (round:∀i,I i→aa E c (jg (fun s'=>∃j,s'.Wk (st.at hv (ps j) st.own st.tk)∧I j∧μ j<μ i) Q) (st.at hv (ps i) st.own st.tk)):aa E (.loop c) Q st:=aa.mK hv ps I μ i hw0 hI round
theorem aa.dR{E:Env}{Q:Exit→St→Prop}{st:St}{ι:Type}{c:Code}(hv:List Nat)(ps:ι→List (Nat×AV))(own:ι→List (Option (List AV)))(tk:ι→List Nat)(I:ι→Prop)(μ:ι→Nat)(i:ι)
 (hw0:st.Wk (st.at hv (ps i) (own i) (tk i))) (hI:I i)
 (round:∀i,I i→aa E c (jg (fun s'=>∃j,s'.Wk (st.at hv (ps j) (own j) (tk j))∧I j∧μ j<μ i) Q) (st.at hv (ps i) (own i) (tk i))):aa E (.loop c) Q st:=aa.vB hv ps own tk I μ i hw0 hI round
theorem aa.here(n d k:Nat){E:Env}{Q:Exit→St→Prop}{st:St}{c:Code}(hn:(o6 30 c==(n,d,k))=true)(h:aa E c Q st):aa E c Q st:=h
theorem bV.ret{P:Program}{rs:List ResultVar}{st s:St}{K:St→AV→Prop}(hu:s.up=st.tmps++st.up)(h:ig P s rs fun l=>K { s with tmps:=st.tmps,up:=st.up } (fu l)):bV P rs st K .ret s:=⟨hu,h⟩
theorem sB{α:Type}{l:List α}{i:Nat}{x:α}(h:l[i]?=some x):l.drop i=x::l.drop (i+1):=by
 obtain⟨hi,rfl⟩:=List.getElem?_eq_some_iff.1 h
 exact List.drop_eq_getElem_cons hi
theorem aM.is{P:Program}{rs:List ResultVar}{X:AV}{st:St}(h:ig P st rs fun l=>oR [] (fu l) X):aM P rs (fun r t=>r=X∧t=[]) st:=by
 have key:∀(rs:List ResultVar) (k k':List AV→Prop),(∀l,k l→k' l)→ig P st rs k→ig P st rs k':=by
  intro rs
  induction rs with
  |nil=>intro k k' hk h;exact hk _ h
  |cons r rs ih=>
   intro k k' hk h
   cases r with
   |tmp t=>exact ih _ _ (fun l hl=>hk _ hl) h
   |cell x t=>
    obtain⟨cs,h1,h2⟩:=h
    refine⟨cs,h1,?_⟩
    split at h2
    ·exact⟨h2.1,ih _ _ (fun l hl=>hk _ hl) h2.2⟩
    ·obtain⟨y,h3,h4⟩:=h2;exact⟨y,h3,ih _ _ (fun l hl=>hk _ hl) h4⟩
    ·exact h2
 exact key rs _ _ (fun l hl=>⟨[],X,rfl,hl,rfl,rfl⟩) h
theorem aI{x y:Value}{sel:List (Bool×Nat)}:kj sel (.v x) (.v y)=(x=y):=rfl
theorem aH{t:Option Nat}{k k':Nat}{es es':List AV}{sel:List (Bool×Nat)}:kj sel (.sl t k es) (.sl none k' es')=(k=k'∧es=es'):=by cases t<;>rfl
theorem aG{k':Nat}{es':List AV}{sel:List (Bool×Nat)}:kj sel .aw (.sl none k' es')=(es'=[]):=by cases es'<;>simp[kj]
theorem aK{k k':IntKind}{n n':Int}:(Value.int k n=Value.int k' n')=(k=k'∧n=n'):=by simp
theorem aJ{n n':Bool}:(Value.bool n=Value.bool n')=(n=n'):=by simp
theorem aL{n n':ByteArray}:(Value.string n=Value.string n')=(n=n'):=by simp
end Go.az
namespace Go.az
open Go Go.RowKit
def uh:List Oper→List (List Nat)→List (List Nat)
 |[],acc=>acc
 |o::l,acc=>uh l (acc++[(o.after.toList.filter (Region.binds .any)).flatMap fun e=>e.on::acc.getD e.on []])
theorem aa.bA{E:Env}{st:St}{id:Nat}{l:List Oper}{Q:Exit→St→Prop}(is:List Nat)(ds:List Tmp)(hm:E.P.follows .mixedOrders=true)
 (hx:(let anc:=uh l [];gy l.toArray anc&&iv E.P l.toArray anc true (cM.ofList is) (Array.replicate l.toArray.size false) l.toArray.size&&decide ds.Nodup)=true) {l':List Oper} (hl:pK l is=some l') (h:cF E l.toArray l' (st.kC ds) (lr (Q .normal))):aa E (.region id l.toArray true) Q st:=by
 simp only[Bool.and_eq_true,decide_eq_true_eq] at hx
 exact aa.Ww is (uh l []) ds hm (by simp only[Bool.and_eq_true];exact hx.1) hx.2 hl h
theorem ak.sn{E:Env}{ops:Array Oper}{d:Option Tmp}{l:List Oper}{st:St}{K:St→Prop}{g:FuncId}{caps xs ys:List AV}{x:AV}(hy:ij (iG st.own) (xs++caps) ys)(hc:ai E g ys fun r t=>r=x∧t=[])(hb:ar E.P g=true)(hr:st.bS=none)(hf:kh [] x:=by first|exact⟨_,rfl⟩|(simp[kh,lv,lu];done))
 (h:cF E ops l (st.put d (x.shift st.tk.length)) K):ak E ops (.fn g caps) xs d l st K:=ak.snap hc hb hr hy fun r t ⟨h1,h2⟩=>by
 subst h1;subst h2
 refine⟨hf,?_⟩
 rw[List.append_nil];exact h
end Go.az
namespace Go.az
open Go Go.RowKit
theorem al.FV{E:Env}{Q:Exit→St→Prop}{st:St}{ops:Array Oper}{l:List Oper}{g:FuncId}{caps:List AV}{dst:Option Tmp}{f:Operand}{xs:Array Operand}{tys:Array TypeId}{ty:TypeId}{pos:String}{after:Array Edge}
 (hc:ar E.P g=true) (he:st.ev f= .fn g caps)
 (h:∀(w0:World) (im0:cV) (cx:Ctx) (a:Act) (w:World) (vs:List Value),E.ok w0→jh E im0→Rel w0 im0 cx st a w→Pw cx (xs.toList.map st.ev++caps) vs→
   Calls E.P g vs.toArray w fun e w'=>∃v,e= .returned v∧∃cx' st' z,Rel w0 im0 cx' st' a w'∧VR cx' z v∧al E ops l Q (st'.put dst z)):
 al E ops (⟨dst,.call ⟨.value f,xs,tys⟩,ty,pos,after,none⟩::l) Q st:=by
 intro w0 im0 cx a w h0 hG r
 refine wpList_step (fun K' hK'=>?_)
 have hw:Region.wanted ⟨dst,.call ⟨.value f,xs,tys⟩,ty,pos,after,none⟩ (yielded ops a.tmps)=true:=rfl
 rw[if_pos hw]
 have hv:=r.ev f
 rw[he] at hv
 obtain⟨us,hfe,hnu,hpu⟩:=hv.iq
 have hargs:Pw cx (xs.toList.map st.ev++caps) (xs.toList.map a.eval++us):=by
  refine⟨by simp[hnu],fun i x v h1 h2=>?_⟩
  rcases fT _ _ _ _ h1 with⟨l1,h1⟩|⟨l1,h1⟩
  ·rw[List.getElem?_append_left (by simpa using l1)] at h2
   rw[List.getElem?_map] at h1 h2
   cases hc:xs.toList[i]? with
   |none=>simp[hc] at h1
   |some z=>simp only[hc,Option.map_some,Option.some.injEq] at h1 h2;subst h1;subst h2;exact r.ev z
  ·rw[List.getElem?_append_right (by simpa using l1)] at h2
   have:(xs.toList.map a.eval).length=(xs.toList.map st.ev).length:=by simp
   rw[this] at h2
   exact hpu _ _ _ h1 h2
 have hrun:(execOp a.eval ⟨dst,.call ⟨.value f,xs,tys⟩,ty,pos,after,none⟩).run E.P w= .ok (.enter g (xs.toList.map a.eval++us).toArray) w:=by
  unfold ar at hc
  split at hc
  ·rename_i fn hf
   simp only[Bool.and_eq_true,Bool.not_eq_true'] at hc
   obtain⟨hn1,hn2⟩:=hc
   have hbn:fn.body.isNone=false:=by
    cases hb:fn.body with
    |none=>rw[hb] at hn2;simp at hn2
    |some b=>rfl
   have harr:Array.map a.eval xs++us.toArray=(xs.toList.map a.eval++us).toArray:=by
    apply Array.ext'
    simp
   have he':a.eval f= .func (.func g) #[] us.toArray:=hfe
   simp only[execOp,resolve,he',Deferred.ofValue,Sem.run_bind,Sem.run_pure,Result.andThen_ok,invoke,callFunc,run_program,hf,hn1,Bool.false_eq_true,if_false,hbn,Array.empty_append,harr]
  ·simp at hc
 unfold Oper.wp
 rw[hrun]
 simp only[Oper.upon]
 refine(h w0 im0 cx a w _ h0 hG r hargs).mono ?_
 rintro e w' ⟨v,rfl,cx',st',z,r',hz,hk⟩
 exact hK' _ _ (hk w0 im0 cx' _ w' h0 hG (r'.put dst hz))
end Go.az
namespace Go.az
open Go Go.RowKit
theorem al.at(n k:Nat){E:Env}{Q:Exit→St→Prop}{st:St}{ops:Array Oper}{l:List Oper}(hn:(l.length==n)=true)(h:cF E ops (l.take k) st (al E ops (l.drop k) Q)):al E ops l Q st:=by
 have:=al.app h
 rwa[List.take_append_drop] at this
end Go.az
namespace Go.az
open Go Go.RowKit
theorem aa.Ue{E:Env}{c:Code}{Q:Exit→St→Prop}{s:St}(i k:Nat)(h:s.tmps[i]?=some .aw)(hw:aa E c Q { s with tmps:=s.tmps.set i (.mu s.own.length k 0 0 0),own:=s.own++[some []] }):aa E c Q s:=by
 intro w0 im0 cx a w h0 hG r
 obtain⟨_,r'⟩:=r.rX
 refine hw w0 im0 ⟨cx.β++[none],cx.tk,cx.im⟩ a w h0 hG ?_
 refine⟨r'.defers,by simp[r'.size],fun j x v h1 h2=>?_,r'.below,r'.da,r'.dp,r'.cn,r'.bT,r'.own,r'.cJ,r'.tail,r'.tok,r'.apart,r'.dv,r'.up,r'.hole⟩
 rw[List.getElem?_set] at h1
 split at h1
 ·rename_i hij
  subst hij
  split at h1
  ·simp only[Option.some.injEq] at h1;subst h1
   have:=r'.tmps i .aw v h h2
   cases this.ew
   exact .jV
  ·simp at h1
 ·exact r'.tmps j x v h1 h2
theorem XC{n:Nat}:cA [] n=none:=by simp[cA]
theorem XB{x n:Nat}{l:List Nat}:cA (x::l) n=if n=x then some 0 else(cA l n).map (· +1):=by
 unfold cA
 by_cases h:n=x
 ·subst h;simp
 ·by_cases h2:n∈l
  ·have:¬x=n:=fun e=>h e.symm
   have hb:(x==n)=false:=by simp[this]
   simp[h,h2,List.idxOf_cons,hb]
  ·simp[h,h2]
theorem BG{α:Type}{f:α→AV}{σ:Nat→Option Nat}{l:List α}{k m:Nat}(h:∀x,AV.cz σ (f x)=f x):(l.map f++spare k m).map (AV.cz σ)=l.map f++spare k m:=by
 rw[List.map_append,List.map_map]
 congr 1
 ·exact List.map_congr_left fun x _=>h x
 ·simp[spare,AV.cz,AV.eX,AV.b7]
theorem Wy{σ:Nat→Option Nat}{l:List (List UInt8)}{m:Nat}:(l.map str++spare 1 m).map (AV.cz σ)=l.map str++spare 1 m:=BG fun _=>rfl
attribute [go_sem] XC XB Wy Option.join_some Option.join_none
theorem aa.jC{E:Env}{c:Code}{Q:Exit→St→Prop}{s:St}(sel:List Nat)(hnd:sel.Nodup)(hrsv:s.bS=none)(hup:s.up.map (AV.cz (cA sel))=s.up)(hw:aa E c Q { s with tmps:=s.tmps.map (AV.cz (cA sel)),own:=sel.map fun id=>((s.own[id]?).join).map (·.map (AV.cz (cA sel))) }):aa E c Q s:=aa.norm sel hnd hrsv hup hw
attribute [go_sem] AV.cz AV.b7 AV.eX
end Go.az
namespace Go.az
open Go Go.RowKit
theorem uv{α:Type}{no nt k m:Nat}{f:α→AV}{l:List α}(h:∀x,∀z∈(f x).leaves,z.bw no nt=true):∀es,some (l.map f++spare k m)=some es→∀e∈es,∀z∈e.leaves,z.bw no nt=true:=by
 intro es he e hm z hz
 cases he
 rcases List.mem_append.1 hm with hm|hm
 ·obtain⟨x,_,rfl⟩:=List.mem_map.1 hm
  exact h x z hz
 ·have:=(List.mem_replicate.1 hm).2
  subst this
  have:=(List.mem_replicate.1 hz).2
  subst this;rfl
theorem sg{no nt m:Nat}{l:List (List UInt8)}:∀es,some (l.map str++spare 1 m)=some es→∀e∈es,∀z∈e.leaves,z.bw no nt=true:=uv fun x z hz=>by
 simp only[AV.leaves,List.mem_cons,List.not_mem_nil,or_false] at hz
 subst hz;rfl
end Go.az
namespace Go.az
open Go Go.RowKit
theorem bp{no nt:Nat}{r:List AV}(h:(r.all fun e=>e.leaves.all (AV.bw no nt))=true):∀es,some r=some es→∀e∈es,∀z∈e.leaves,z.bw no nt=true:=by
 intro es he e hm z hz
 cases he
 exact List.all_eq_true.1 (List.all_eq_true.1 h e hm) z hz
end Go.az
namespace Go.az
structure Stop(p:Prop):Prop where
 out:p
theorem Stop.at{p:Prop}(h:Stop p):p:=h.out
theorem Stop.go{p:Prop}(h:p):Stop p:=⟨h⟩
end Go.az
namespace Go.az
open Go Go.RowKit
theorem xN{E:Env}{ops:Array Oper}{i:Nat}{C D:St→Prop}{st:St}(hcd:∀s,C s→D s)(h:bK E ops i C st):bK E ops i D st:=by
 unfold bK at h ⊢
 split at h
 ·exact hcd _ h
 ·obtain⟨q,h1,h2,h3⟩:=h
  exact⟨q,h1,fun hq=>oX (h2 hq) hcd,fun hq=>hcd _ (h3 hq)⟩
theorem qp{E:Env}{ops:Array Oper}{K L:St→Prop}(hk:∀s,K s→L s):∀{p:cM} {st:St},ep E ops K p st→ep E ops L p st
 |.done,_,h=>hk _ h
 |.take i p,_,h=>xN (fun s hs=>qp hk hs) h
 |.fork p,_,h=>qp (p:=p) hk h
 |.alt i p r,_,h=>⟨xN (fun s hs=>qp hk hs) h.1,qp hk h.2⟩
 |.ends,_,h=>h
theorem aa.oz{E:Env}{st:St}{id:Nat}{l:List Oper}{Q:Exit→St→Prop}(x:cM)(anc:List (List Nat))(ds:List Tmp)(hm:E.P.follows .mixedOrders=true)
 (hx:(gy l.toArray anc&&iv E.P l.toArray anc true x (Array.replicate l.toArray.size false) l.toArray.size)=true) (hd:ds.Nodup) (S:St) (h:ep E l.toArray (lr fun s=>s=S) x (st.kC ds)) (hk:Q .normal S):aa E (.region id l.toArray true) Q st:=
 aa.wq x anc ds hm hx hd (qp (fun s (hs:lr (fun s=>s=S) s)=>(show Q .normal { s with bS:=none } from by
  have:({ s with bS:=none }:St)=S:=hs
  rw[this];exact hk)) h)
end Go.az
end
