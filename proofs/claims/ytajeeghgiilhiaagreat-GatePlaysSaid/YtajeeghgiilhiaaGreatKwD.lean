/- Texts of one chain, put together (Lc). -/
import Derived.Test.YtajeeghgiilhiaaGreatKwC
import Derived.ProofKit
import Derived.Lib.UnsafeStr
set_option linter.unusedVariables false
set_option linter.unusedSimpArgs false
set_option maxHeartbeats 16000000
set_option maxRecDepth 8000
section
namespace Go.Abs
open Go Go.RowKit
def aH(q:Option Bool)(E:Env)(ops:Array Oper)(o:Oper)(l:List Oper)(st:St)(K:St→Prop):Prop:=
 ∃b,q=some b∧(b=true→dT E o st fun s=>ct E ops l s K)∧(b=false→ct E ops l (st.put o.dst (.v undef)) K)
def cO(F:(AV→Prop)→Prop)(E:Env)(ops:Array Oper)(d:Option Tmp)(l:List Oper)(st:St)(K:St→Prop):Prop:=F fun y=>ct E ops l (st.put d y) K
def eF(F:(St→AV→Prop)→Prop)(E:Env)(ops:Array Oper)(d:Option Tmp)(l:List Oper)(K:St→Prop):Prop:=F fun s y=>ct E ops l (s.put d y) K
def fO(F:(St→Prop)→Prop)(E:Env)(ops:Array Oper)(d:Option Tmp)(l:List Oper)(K:St→Prop):Prop:=F fun s=>ct E ops l (s.put d (.v undef)) K
def ah(E:Env)(ops:Array Oper)(f:AV)(xs:List AV)(d:Option Tmp)(l:List Oper)(st:St)(K:St→Prop):Prop:=nv E st f xs fun s y=>ct E ops l (s.put d y) K
def dt(E:Env)(ops:Array Oper)(o:Oper)(l:List Oper)(st:St)(K:St→Prop):Prop:=dT E o st fun s=>ct E ops l s K
def sm(u:Option TypeDesc)(E:Env)(ops:Array Oper)(o:Oper)(s d:TypeId)(x:Operand)(l:List Oper)(st:St)(K:St→Prop):Prop:=
 match u with
 |some (.slice _)=>eF (fun k=>qZ E.P s d (st.ev x) st k) E ops o.dst l K
 |_=>cO (fun k=>og E.P s d (st.ev x) k) E ops o.dst l st K
@[congr] theorem cO.congr{F G:(AV→Prop)→Prop}{E:Env}{ops:Array Oper}{d:Option Tmp}{l:List Oper}{st:St}{K:St→Prop}(h:∀k,F k=G k):cO F E ops d l st K=cO G E ops d l st K:=by rw[funext h]
@[congr] theorem eF.congr{F G:(St→AV→Prop)→Prop}{E:Env}{ops:Array Oper}{d:Option Tmp}{l:List Oper}{K:St→Prop}(h:∀k,F k=G k):eF F E ops d l K=eF G E ops d l K:=by rw[funext h]
@[congr] theorem fO.congr{F G:(St→Prop)→Prop}{E:Env}{ops:Array Oper}{d:Option Tmp}{l:List Oper}{K:St→Prop}(h:∀k,F k=G k):fO F E ops d l K=fO G E ops d l K:=by rw[funext h]
section
variable{E:Env}{ops:Array Oper}{o:Oper}{d:Option Tmp}{l:List Oper}{st:St}{K:St→Prop}
@[go_sem] theorem Y0:ct E ops [] st K=K st:=rfl
@[go_sem] theorem Y4:ct E ops (o::l) st K=aH (et ops o st) E ops o l st K:=rfl
@[go_sem] theorem aH.yes:aH (some true) E ops o l st K=dt E ops o l st K:=by simp[aH,dt]
@[go_sem] theorem aH.no:aH (some false) E ops o l st K=ct E ops l (st.put o.dst (.v undef)) K:=by simp[aH]
theorem aH.split{b:Bool}(h1:b=true→dt E ops o l st K)(h2:b=false→ct E ops l (st.put o.dst (.v undef)) K):aH (some b) E ops o l st K:=⟨b,rfl,h1,h2⟩
theorem aH.bY{b:Bool}(h1:b=true→ct E ops l (st.put o.dst (.v undef)) K)(h2:b=false→dt E ops o l st K):aH (some (!b)) E ops o l st K:=⟨!b,rfl,fun h=>h2 (by simpa using h),fun h=>h1 (by simpa using h)⟩
@[go_sem] theorem cO.at{x:AV}:cO (fun k=>k x) E ops d l st K=ct E ops l (st.put d x) K:=rfl
@[go_sem] theorem cO.and{p:Prop}{F:(AV→Prop)→Prop}:cO (fun k=>p∧F k) E ops d l st K=(p∧cO F E ops d l st K):=rfl
@[go_sem] theorem cO.ex{α:Type}{F:α→(AV→Prop)→Prop}:cO (fun k=>∃x,F x k) E ops d l st K=(∃x,cO (F x) E ops d l st K):=rfl
@[go_sem] theorem cO.all{p:Bool→Prop}{g:Bool→AV}:cO (fun k=>∀b,p b→k (g b)) E ops d l st K=(∀b,p b→ct E ops l (st.put d (g b)) K):=rfl
@[go_sem] theorem cO.none:cO (fun _=>False) E ops d l st K=False:=rfl
@[go_sem] theorem eF.at{s:St}{x:AV}:eF (fun k=>k s x) E ops d l K=ct E ops l (s.put d x) K:=rfl
@[go_sem] theorem eF.and{p:Prop}{F:(St→AV→Prop)→Prop}:eF (fun k=>p∧F k) E ops d l K=(p∧eF F E ops d l K):=rfl
@[go_sem] theorem eF.ex{α:Type}{F:α→(St→AV→Prop)→Prop}:eF (fun k=>∃x,F x k) E ops d l K=(∃x,eF (F x) E ops d l K):=rfl
@[go_sem] theorem eF.none:eF (fun _=>False) E ops d l K=False:=rfl
@[go_sem] theorem fO.at{s:St}:fO (fun k=>k s) E ops d l K=ct E ops l (s.put d (.v undef)) K:=rfl
@[go_sem] theorem fO.and{p:Prop}{F:(St→Prop)→Prop}:fO (fun k=>p∧F k) E ops d l K=(p∧fO F E ops d l K):=rfl
@[go_sem] theorem fO.ex{α:Type}{F:α→(St→Prop)→Prop}:fO (fun k=>∃x,F x k) E ops d l K=(∃x,fO (F x) E ops d l K):=rfl
@[go_sem] theorem fO.none:fO (fun _=>False) E ops d l K=False:=rfl
theorem ah.of{g:FuncId}{caps xs ys:List AV}{R:AV→List Nat→Prop}(hc:ae E g ys R)(hb:ao E.P g=true)(hy:lq (xs++caps)=some ys)
 (h:∀r t,R r t→ct E ops l (St.put { st with tk:=st.tk++t } d (r.shift st.tk.length)) K):ah E ops (.fn g caps) xs d l st K:=⟨hb,.inl ⟨ys,hy,R,hc,h⟩⟩
theorem ah.snap{g:FuncId}{caps xs ys:List AV}{R:AV→List Nat→Prop}(hc:ae E g ys R)(hb:ao E.P g=true)(hr:st.bP=none)(hy:gV (iJ st.own) (xs++caps) ys)
 (h:∀r t,R r t→jW t r∧ct E ops l (St.put { st with tk:=st.tk++t } d (r.shift st.tk.length)) K):ah E ops (.fn g caps) xs d l st K:=⟨hb,.inr ⟨hr,ys,hy,R,hc,.inl h⟩⟩
theorem ah.take{g:FuncId}{caps xs ys:List AV}{R:AV→List Nat→Prop}(hc:ae E g ys R)(hb:ao E.P g=true)(hr:st.bP=none)(hy:gV (iJ st.own) (xs++caps) ys)
 (h:∀r tks,R r tks→∃t k es,r= .sl (some t) k es∧tks[t]?=some es.length∧(∀e∈es,e.leaves.length=k∧∀y∈e.leaves,∃z,y= .v z)∧
   ∀m,ct E ops l (St.put { st with own:=st.own++[some (es++spare k m)] } d (.mu st.own.length k 0 es.length (es.length+m))) K):ah E ops (.fn g caps) xs d l st K:=⟨hb,.inr ⟨hr,ys,hy,R,hc,.inr h⟩⟩
theorem ah.one{g:FuncId}{caps xs ys:List AV}{x:AV}(hc:ae E g ys fun r t=>r=x∧t=[])(hb:ao E.P g=true)(hy:lq (xs++caps)=some ys)
 (h:ct E ops l (st.put d (x.shift st.tk.length)) K):ah E ops (.fn g caps) xs d l st K:=ah.of hc hb hy fun r t ⟨h1,h2⟩=>by
 subst h1;subst h2
 rw[List.append_nil];exact h
variable{ty:TypeId}{pos:String}{after:Array Edge}{guard:Option (Nat×Bool)}
@[go_sem] theorem Y8{t:TypeId}:dt E ops ⟨d,.alloc t,ty,pos,after,guard⟩ l st K=eF (fun k=>iu E.P t d st k) E ops d l K:=rfl
@[go_sem] theorem Zn{t:TypeId}{x:Operand}:dt E ops ⟨d,.box t x,ty,pos,after,guard⟩ l st K=eF (fun k=>rI (st.ev x) st k) E ops d l K:=rfl
@[go_sem] theorem Y3{t:TypeId}{x y:Operand}:dt E ops ⟨d,.store t x y,ty,pos,after,guard⟩ l st K=fO (fun k=>nK E.P t (st.ev x) (st.ev y) st k) E ops d l K:=rfl
@[go_sem] theorem Y6{t:TypeId}{n:Nat}{ps:Array (Nat×Operand)}:dt E ops ⟨d,.buildSlice t n ps,ty,pos,after,guard⟩ l st K=eF (fun k=>pj E.P t n (fM st ps) st k) E ops d l K:=rfl
@[go_sem] theorem X8{s t:TypeId}{x:Operand}:dt E ops ⟨d,.convert s t x,ty,pos,after,guard⟩ l st K=sm (E.P.underlying t) E ops ⟨d,.convert s t x,ty,pos,after,guard⟩ s t x l st K:=by
 simp only[dt,dT,sm]
 generalize E.P.underlying t=u
 cases u with
 |none=>rfl
 |some u=>cases u<;>rfl
@[go_sem] theorem YM{t tx:TypeId}{x y:Operand}:dt E ops ⟨d,.call ⟨.builtin .append,#[x,y],#[t,tx]⟩,ty,pos,after,guard⟩ l st K=eF (fun k=>oL E.P t tx (st.ev x) (st.ev y) st k) E ops d l K:=rfl
@[go_sem] theorem Zc{f:Operand}{xs:Array Operand}{ts:Array TypeId}:dt E ops ⟨d,.call ⟨.value f,xs,ts⟩,ty,pos,after,guard⟩ l st K=ah E ops (st.ev f) (xs.toList.map st.ev) d l st K:=rfl
@[go_sem] theorem YK{xs:Array Operand}{ts:Array TypeId}:dt E ops ⟨d,.call ⟨.builtin .len,xs,ts⟩,ty,pos,after,guard⟩ l st K=cO (fun k=>cH E.P st (.call ⟨.builtin .len,xs,ts⟩) k) E ops d l st K:=rfl
@[go_sem] theorem Ys{xs:Array Operand}{ts:Array TypeId}:dt E ops ⟨d,.call ⟨.builtin .min,xs,ts⟩,ty,pos,after,guard⟩ l st K=cO (fun k=>cH E.P st (.call ⟨.builtin .min,xs,ts⟩) k) E ops d l st K:=rfl
@[go_sem] theorem Y9{xs:Array Operand}{ts:Array TypeId}:dt E ops ⟨d,.call ⟨.builtin .max,xs,ts⟩,ty,pos,after,guard⟩ l st K=cO (fun k=>cH E.P st (.call ⟨.builtin .max,xs,ts⟩) k) E ops d l st K:=rfl
@[go_sem] theorem YV{x:Operand}:dt E ops ⟨d,.move x,ty,pos,after,guard⟩ l st K=cO (fun k=>cH E.P st (.move x) k) E ops d l st K:=rfl
@[go_sem] theorem YH{x:Operand}:dt E ops ⟨d,.assign x,ty,pos,after,guard⟩ l st K=cO (fun k=>cH E.P st (.assign x) k) E ops d l st K:=rfl
@[go_sem] theorem Y7{x y z:Operand}:dt E ops ⟨d,.pick x y z,ty,pos,after,guard⟩ l st K=cO (fun k=>cH E.P st (.pick x y z) k) E ops d l st K:=rfl
@[go_sem] theorem YG{t:TypeId}{x:Operand}:dt E ops ⟨d,.load t x,ty,pos,after,guard⟩ l st K=cO (fun k=>cH E.P st (.load t x) k) E ops d l st K:=rfl
@[go_sem] theorem Yr{x:Operand}:dt E ops ⟨d,.nilCheck x,ty,pos,after,guard⟩ l st K=cO (fun k=>cH E.P st (.nilCheck x) k) E ops d l st K:=rfl
@[go_sem] theorem YY{b:BinOp}{t:TypeId}{x y:Operand}{u:TypeId}:dt E ops ⟨d,.binOp b t x y u,ty,pos,after,guard⟩ l st K=cO (fun k=>cH E.P st (.binOp b t x y u) k) E ops d l st K:=rfl
@[go_sem] theorem Yp{u:UnOp}{t:TypeId}{x:Operand}:dt E ops ⟨d,.unOp u t x,ty,pos,after,guard⟩ l st K=cO (fun k=>cH E.P st (.unOp u t x) k) E ops d l st K:=rfl
@[go_sem] theorem YT{t:TypeId}{x:Operand}{lo hi mx:Option Operand}:dt E ops ⟨d,.slice t x lo hi mx,ty,pos,after,guard⟩ l st K=cO (fun k=>cH E.P st (.slice t x lo hi mx) k) E ops d l st K:=rfl
@[go_sem] theorem Zo{t:TypeId}{x:Operand}{f:Nat}:dt E ops ⟨d,.fieldAddr t x f,ty,pos,after,guard⟩ l st K=cO (fun k=>cH E.P st (.fieldAddr t x f) k) E ops d l st K:=rfl
@[go_sem] theorem YL{t:TypeId}{x:Operand}{f:Nat}:dt E ops ⟨d,.field t x f,ty,pos,after,guard⟩ l st K=cO (fun k=>cH E.P st (.field t x f) k) E ops d l st K:=rfl
@[go_sem] theorem Zh{t:TypeId}{x i:Operand}:dt E ops ⟨d,.indexAddr t x i,ty,pos,after,guard⟩ l st K=cO (fun k=>cH E.P st (.indexAddr t x i) k) E ops d l st K:=rfl
@[go_sem] theorem Yd{t:TypeId}{x i:Operand}:dt E ops ⟨d,.index t x i,ty,pos,after,guard⟩ l st K=cO (fun k=>cH E.P st (.index t x i) k) E ops d l st K:=rfl
@[go_sem] theorem Y2{x:Operand}{i:Nat}:dt E ops ⟨d,.extract x i,ty,pos,after,guard⟩ l st K=cO (fun k=>cH E.P st (.extract x i) k) E ops d l st K:=rfl
@[go_sem] theorem YW{t:TypeId}{ps:Array (Nat×Operand)}:dt E ops ⟨d,.build t ps,ty,pos,after,guard⟩ l st K=cO (fun k=>cH E.P st (.build t ps) k) E ops d l st K:=rfl
@[go_sem] theorem Yk{t:TypeId}{x:Operand}:dt E ops ⟨d,.makeInterface t x,ty,pos,after,guard⟩ l st K=cO (fun k=>cH E.P st (.makeInterface t x) k) E ops d l st K:=rfl
@[go_sem] theorem Y5{f:Fn}{a b:Array Operand}:dt E ops ⟨d,.makeFunc f a b,ty,pos,after,guard⟩ l st K=cO (fun k=>cH E.P st (.makeFunc f a b) k) E ops d l st K:=rfl
end
theorem F5{i:Nat}{E:Env}{ops:Array Oper}{st:St}{K:St→Prop}{p:cK}{o:Oper}(h:ops[i]?=some o):
 ei E ops K (.take i p) st=∃b,et ops o st=some b∧(b=true→dT E o st fun s=>ei E ops K p s)∧(b=false→ei E ops K p (st.put o.dst (.v undef))):=by
 show bB E ops i (ei E ops K p) st=_
 unfold bB;rw[h]
theorem pg{E:Env}{ops:Array Oper}{i:Nat}{C:St→Prop}{st:St}:bB E ops i C st=ct E ops (ops[i]?).toList st C:=by
 unfold bB
 cases ops[i]?<;>rfl
@[go_sem] theorem YB{E:Env}{ops:Array Oper}{st:St}{K:St→Prop}:ei E ops K .done st=K st:=rfl
@[go_sem] theorem Yb{E:Env}{ops:Array Oper}{st:St}{K:St→Prop}{i:Nat}{p:cK}:ei E ops K (.take i p) st=ct E ops (ops[i]?).toList st (ei E ops K p):=pg
@[go_sem] theorem YX{E:Env}{ops:Array Oper}{st:St}{K:St→Prop}{p:cK}:ei E ops K (.fork p) st=ei E ops K p st:=rfl
@[go_sem] theorem Yc{E:Env}{ops:Array Oper}{st:St}{K:St→Prop}{i:Nat}{p r:cK}:ei E ops K (.alt i p r) st=(ct E ops (ops[i]?).toList st (ei E ops K p)∧ei E ops K r st):=by
 rw[←pg];rfl
@[go_sem] theorem YO{E:Env}{ops:Array Oper}{st:St}{K:St→Prop}:ei E ops K .ends st=True:=rfl
attribute [go_sem] and_self kz St.dJ iG Option.toList_some Option.toList_none
def cK.ofList:List Nat→cK
 |[]=> .done
 |i::is=> .take i (cK.ofList is)
def o5:List Oper→Nat→Option Oper
 |[],_=>none
 |x::_,0=>some x
 |_::xs,n+1=>o5 xs n
theorem xf:∀(l:List Oper) (n:Nat),o5 l n=l[n]?
 |[],_=>by simp[o5]
 |_::_,0=>rfl
 |_::xs,n+1=>by simp[o5,xf xs n]
def nF(ops:List Oper):List Nat→Option (List Oper)
 |[]=>some []
 |i::is=>match o5 ops i,nF ops is with
  |some o,some l=>some (o::l)
  |_,_=>none
theorem tC{E:Env}{ops:List Oper}{K:St→Prop}:∀{is:List Nat} {l:List Oper} {st:St},nF ops is=some l→ct E ops.toArray l st K→ei E ops.toArray K (cK.ofList is) st
 |[],l,st,h,hl=>by
  simp only[nF,Option.some.injEq] at h;subst h;exact hl
 |i::is,l,st,h,hl=>by
  simp only[nF] at h
  split at h
  ·rename_i o l' h1 h2
   simp only[Option.some.injEq] at h;subst h
   show ei E ops.toArray K (.take i (cK.ofList is)) st
   rw[xf] at h1
   rw[F5 (o:=o) (by simpa using h1)]
   obtain⟨b,h3,h4,h5⟩:=hl
   exact⟨b,h3,fun hb=>nV (h4 hb) fun s hs=>tC h2 hs,fun hb=>tC h2 (h5 hb)⟩
  ·simp at h
theorem aa.I5{E:Env}{st:St}{id:Nat}{l:List Oper}{Q:Exit→St→Prop}(is:List Nat)(anc:List (List Nat))(ds:List Tmp)(hm:E.P.follows .mixedOrders=true)
 (hx:(gg l.toArray anc&&ic E.P l.toArray anc true (cK.ofList is) (Array.replicate l.toArray.size false) l.toArray.size)=true) (hd:ds.Nodup) {l':List Oper} (hl:nF l is=some l') (h:ct E l.toArray l' (st.dJ ds) (kz (Q .normal))):aa E (.region id l.toArray true) Q st:=
 aa.sX (cK.ofList is) anc ds hm hx hd (tC hl h)
theorem XF(b:Bool):(b==true)=b:=by cases b<;>rfl
theorem GD(b:Bool):(b==false)=!b:=by cases b<;>rfl
attribute [go_sem] XF GD Option.getD_some Option.getD_none List.getElem?_nil Nat.succ_eq_add_one
def aG{α:Type}(f:Option α)(p:α→Prop):Prop:=∃y,f=some y∧p y
@[congr] theorem aG.congr{α:Type}{f g:Option α}{p:α→Prop}(h:f=g):aG f p=aG g p:=by rw[h]
@[go_sem] theorem aG.some{α:Type}{a:α}{p:α→Prop}:aG (some a) p=p a:=by simp[aG]
@[go_sem] theorem aG.none{α:Type}{p:α→Prop}:aG (none:Option α) p=False:=by simp[aG]
@[go_sem ↓] theorem YC{α:Type}{f:Option α}{p:α→Prop}:(∃y,f=Option.some y∧p y)=aG f p:=rfl
def j7{α:Type}(f:Option (Option α))(p:α→Prop):Prop:=∃y,f=some (some y)∧p y
@[congr] theorem j7.congr{α:Type}{f g:Option (Option α)}{p:α→Prop}(h:f=g):j7 f p=j7 g p:=by rw[h]
@[go_sem] theorem j7.some{α:Type}{a:α}{p:α→Prop}:j7 (some (some a)) p=p a:=by simp[j7]
@[go_sem ↓] theorem Yl{α:Type}{f:Option (Option α)}{p:α→Prop}:(∃y,f=Option.some (Option.some y)∧p y)=j7 f p:=rfl
theorem SH{k:IntKind}{n:Int}:(AV.v (.int k n)=AV.v .nilIface)=False:=by simp
theorem NI{b:Bool}:(AV.v (.bool b)=AV.v .nilIface)=False:=by simp
theorem Uq{s:ByteArray}:(AV.v (.string s)=AV.v .nilIface)=False:=by simp
theorem OK{cs:List AV}:(AV.agg cs=AV.v .nilIface)=False:=by simp
theorem S6:(AV.aK=AV.v .nilIface)=False:=by simp
theorem VK{t:Option Nat}{k:Nat}{es:List AV}:(AV.sl t k es=AV.v .nilIface)=False:=by simp
theorem PO{t:TypeId}{v:Value}:(AV.v (.iface t v)=AV.v .nilIface)=False:=by simp
theorem QZ{i j k:Nat}:(AV.ptr i j k=AV.v .nilIface)=False:=by simp
theorem Ll{x:Value}:(∃z,Operand.const x=Operand.const z)=True:=by simp
theorem Kd{α:Type}{a:α}{p:α→Prop}:(∃y,some (some a)=some (some y)∧p y)↔p a:=by simp
@[go_sem] theorem Yx{α:Type}{a:α}:(∃y,some a=some y)=True:=by simp
theorem Mg{P:Program}{t:TypeId}{id idx off:Nat}{x:AV}{st:St}{K:St→Prop}:nK P t (.ptr id idx off) x st K↔
 ∃n,bC P t=some n∧∃es,st.own[id]?=some (some es)∧∃e,es[idx]?=some e∧x.plain=true∧x.leaves.all AV.eW=true∧x.leaves.length=n∧off+n≤e.leaves.length∧
  K { st with own:=st.own.set id (some (es.set idx (mQ e off x))) }:=by
 constructor
 ·rintro⟨n,es,e,h1,h2,h3,h4⟩;exact⟨n,h1,es,h2,e,h3,h4⟩
 ·rintro⟨n,h1,es,h2,e,h3,h4⟩;exact⟨n,es,e,h1,h2,h3,h4⟩
attribute [go_sem] my sm SH NI Uq OK S6 VK PO QZ Ll Kd Mg Bool.not_not Nat.reduceEqDiff Nat.reduceMul Int.reduceToNat Int.reduceLE Int.reduceLT Nat.reduceLeDiff Int.cast_ofNat_Int
 Nat.one_ne_zero Int.reduceNeg Nat.succ_ne_zero Int.reduceEq Int.reduceNe Bool.false_eq_true Bool.true_eq_false Int.reduceAdd Int.reduceSub Int.zero_le_ofNat Int.toNat_zero Nat.zero_mul Nat.mul_one Nat.zero_le Nat.reduceLT
 Bool.not_eq_true' Bool.not_eq_false'
end Go.Abs
namespace Go.Abs
open Go Go.RowKit
def uC:List Nat→List AV→List AV
 |[],l=>l
 |i::is,l=>uC is (l.set i .any)
def vo:List (Nat×AV)→List AV→List AV
 |[],l=>l
 |p::ps,l=>vo ps (l.set p.1 p.2)
def St.at(st:St)(hv:List Nat)(ps:List (Nat×AV))(own:List (Option (List AV)))(tk:List Nat):St:={ st with tmps:=vo ps (uC hv st.tmps),own:=own,tk:=tk }
theorem aa.nI{E:Env}{Q:Exit→St→Prop}{st:St}{ι:Type}{c:Code}(hv:List Nat)(ps:ι→List (Nat×AV))(I:ι→Prop)(μ:ι→Nat)(i:ι)
 (hw0:st.Wk (st.at hv (ps i) st.own st.tk)) (hI:I i)
 (round:∀i,I i→aa E c (jb (fun s'=>∃j,s'.Wk (st.at hv (ps j) st.own st.tk)∧I j∧μ j<μ i) Q) (st.at hv (ps i) st.own st.tk)):aa E (.loop c) Q st:=
 aa.yj (fun i=>st.at hv (ps i) st.own st.tk) I μ i hw0 hI round
theorem aa.JF{E:Env}{Q:Exit→St→Prop}{st:St}{ι:Type}{c:Code}(hv:List Nat)(ps:ι→List (Nat×AV))(own:ι→List (Option (List AV)))(tk:ι→List Nat)(I:ι→Prop)(μ:ι→Nat)(i:ι)
 (hw0:st.Wk (st.at hv (ps i) (own i) (tk i))) (hI:I i)
 (round:∀i,I i→aa E c (jb (fun s'=>∃j,s'.Wk (st.at hv (ps j) (own j) (tk j))∧I j∧μ j<μ i) Q) (st.at hv (ps i) (own i) (tk i))):aa E (.loop c) Q st:=
 aa.yj (fun i=>st.at hv (ps i) (own i) (tk i)) I μ i hw0 hI round
theorem TO{no nt:Nat}:jj no nt [] []=True:=rfl
theorem Tz{no nt:Nat}{x y:AV}{xs ys:List AV}:jj no nt (x::xs) (y::ys)=((y= .any∨(y=x∧x.bF no nt=true))∧jj no nt xs ys):=rfl
theorem UO{no nt:Nat}{xs:List (Option (List AV))}:gX no nt xs []=True:=by cases xs<;>rfl
theorem GO{no nt:Nat}{x y:Option (List AV)}{xs ys:List (Option (List AV))}:gX no nt (x::xs) (y::ys)=((y=none∨(y=x∧∀es,x=some es→∀e∈es,∀z∈e.leaves,z.bF no nt=true))∧gX no nt xs ys):=rfl
theorem GM{xs:List Nat}:iN xs []=True:=by cases xs<;>rfl
theorem Xt{x y:Nat}{xs ys:List Nat}:iN (x::xs) (y::ys)=(y=x∧iN xs ys):=rfl
theorem Eu{no nt:Nat}{x:List AV}:(∀es,some x=some es→∀e∈es,∀z∈e.leaves,z.bF no nt=true)=(x.all fun e=>e.leaves.all fun z=>z.bF no nt):=by
 simp[List.all_eq_true]
theorem ET{no nt:Nat}:(∀es,(none:Option (List AV))=some es→∀e∈es,∀z∈e.leaves,z.bF no nt=true)=True:=by simp
attribute [go_sem] St.at uC vo St.Wk TO Tz UO GO GM Xt Eu ET true_or or_true AV.bF AV.cU AV.dY Bool.and_self
theorem V3{c a b:Bool}:(bif c then AV.v (.bool a) else AV.v (.bool b))=AV.v (.bool (bif c then a else b)):=by cases c<;>rfl
theorem Uu{c a:Bool}:(bif c then a else false)=(c&&a):=by cases c<;>rfl
theorem LI{c b:Bool}:(bif c then true else b)=(c||b):=by cases c<;>rfl
attribute [go_sem] V3 Uu LI Bool.and_false Bool.false_and Bool.or_true Bool.true_or Bool.or_false Bool.false_or
theorem aq{x:Int}(h1:-9223372036854775808≤x)(h2:x≤9223372036854775807):IntKind.i64.wrap x=x:=by
 rw[IntKind.wrap_i64];omega
end Go.Abs
namespace Go.Abs
open Go Go.RowKit Go.ChangeShapes
section
variable{H:Type}{enc:TypeId×Value→H}{P:Program}
theorem xR(hl:laidOutB P=true){W W':World}(hB:Go.RowKit.Below W.heap.size W W'):∀{ts:List TypeId} {vs:List Value} {ds:List (DataW H)} {ps:List MemPlace},
 (ts.all fun t=>P.readableRec t&&decide (t<P.types.size))=true→(∀x∈ps,x.block<W.heap.size)→DataW.TrodAll enc P W 0 (fun _=>true) true ts vs ds ps→
 DataW.TrodAll enc P W' 0 (fun b=>decide (b<W.heap.size)) true ts vs ds ps
 |[],[],[],ps,_,_,h=>h
 |t::ts,v::vs,d::ds,ps,hr,hlt,h=>by
  obtain⟨p,q,h1,h2,rfl⟩:=h
  simp only[List.all_cons,Bool.and_eq_true,decide_eq_true_eq] at hr
  exact⟨p,q,Go.RowKit.Below.trod hl hr.1.1 hr.1.2 h1 hB (fun x hx=>hlt x (List.mem_append_left _ hx)),xR hl hB hr.2 (fun x hx=>hlt x (List.mem_append_right _ hx)) h2,rfl⟩
 |[],_::_,_,_,_,_,h=>by cases h
 |[],[],_::_,_,_,_,h=>by cases h
 |_::_,[],_,_,_,_,h=>by cases h
 |_::_,_::_,[],_,_,_,h=>by cases h
theorem JL{f:Func}{s:ChangeSpec}{apart fresh:Bool}{W W':World}{args:Array Value}{ds gs:List (DataW H)}{before:List MemPlace}{tb:TypeId}
 (hl:laidOutB P=true) (hr:(f.params.toList.all fun t=>P.readableRec t&&decide (t<P.types.size))=true) (hv:s.vars=[]) (ht:f.resultTypes= #[tb]) (hb:P.underlying tb=some .bool)
 (hW:DataW.Whole enc P f.params.toList s.vars apart W args.toList ds gs before) (hB:Go.RowKit.Below W.heap.size W W') (hfn:s.fn H (ds++gs)={ results:=[.lit (.bool true)],args:=ds,vars:=gs }):
 s.post enc P f apart fresh false false W args (.bool true) W':=by
 have hW':=hW
 obtain⟨p,q,hA,hV,rfl,_,_⟩:=hW
 rw[hv] at hV
 obtain⟨rfl,rfl⟩:=trodVars_none hV
 refine⟨ds,[],p++[],[],p,[],hW',?_,?_,?_,hB.frame _,fun h=>by cases h⟩
 ·rw[hfn,ht]
  exact⟨[],[],shut_bool hb true,rfl,rfl⟩
 ·rw[hfn]
  exact xR hl hB hr (fun x hx=>hW'.lt x (by simpa using hx)) hA
 ·rw[hfn]
  rw[hv];rfl
end
end Go.Abs
namespace Go.Abs
open Go Go.RowKit Go.ChangeShapes Go.WideShapes
def gF(w:World):Im:=fun b o=>w.cell? ⟨b,o,none⟩
structure jH(im:Im)(ls:List AV)(cs:List Value):Prop where
 len:cs.length=ls.length
 at':∀(i:Nat) (x:AV) (v:Value),ls[i]?=some x→cs[i]?=some v→a8 im x v∧v.oneCell'=true∧x.leaves=[x]
def Reads{H:Type}(enc:TypeId×Value→H)(P:Program)(t:TypeId)(k:Nat)(S:List AV→Prop):Prop:=
 ∀(w:World) (base:Nat) (spare:Nat→Bool) (held:Bool) (fuel:Nat) (cs:List Value) (x:DataW H×List MemPlace),DataW.trod enc P w base spare held fuel t cs=some x→∃ls,S ls∧ls.length=k∧jH (gF w) ls cs
section
variable{H:Type}{enc:TypeId×Value→H}{P:Program}{t:TypeId}
theorem jH.one{im:Im}{x:AV}{v:Value}(h:a8 im x v)(h1:v.oneCell'=true)(h2:x.leaves=[x]):jH im [x] [v]:=by
 refine⟨rfl,fun i y u e1 e2=>?_⟩
 cases i with
 |zero=>simp only[List.getElem?_cons_zero,Option.some.injEq] at e1 e2;subst e1;subst e2;exact⟨h,h1,h2⟩
 |succ i=>simp at e1
theorem fi{kd:IntKind}(ht:P.underlying t=some (.int kd)):Reads enc P t 1 fun ls=>∃n,(Lit.int kd n).wf=true∧ls=[.v (.int kd n)]:=fun w base spare held fuel cs x h=>by
 obtain⟨n,rfl,_,hw⟩:=DataW.trod_int ht h
 exact⟨_,⟨n,hw,rfl⟩,rfl,.one (.v _) rfl rfl⟩
theorem pM(ht:P.underlying t=some .bool):Reads enc P t 1 fun ls=>∃b:Bool,ls=[bl b]:=fun w base spare held fuel cs x h=>by
 obtain⟨b,rfl,_⟩:=DataW.trod_bool ht h
 exact⟨_,⟨b,rfl⟩,rfl,.one (.v _) rfl rfl⟩
theorem iA(ht:P.underlying t=some .string):Reads enc P t 1 fun ls=>∃l:List UInt8,l.length≤maxLen∧ls=[str l]:=fun w base spare held fuel cs x h=>by
 obtain⟨s,rfl,_,hw⟩:=DataW.trod_string ht h
 have e:(⟨s.data.toList.toArray⟩:ByteArray)=s:=by cases s;simp
 refine⟨[str s.data.toList],⟨s.data.toList,by simpa using hw,rfl⟩,rfl,.one ?_ rfl rfl⟩
 have h0:a8 (gF w) (.v (.string s)) (.string s):= .v _
 rw[←e] at h0 ⊢
 simpa using h0
def mY:Bool→List AV→AV
 |true,ls=> .agg ls
 |false,ls=>ls.headD .any
theorem MH{ag:Bool}{ls:List AV}{im:Im}{cs:List Value}(h:jH im ls cs)(hk:ag=false→ls.length=1):(mY ag ls).leaves=ls:=by
 cases ag with
 |true=>rfl
 |false=>
  obtain⟨x,rfl⟩:∃x,ls=[x]:=by
   cases ls with
   |nil=>simp at hk
   |cons x l=>cases l with
    |nil=>exact⟨x,rfl⟩
    |cons=>simp at hk
  have hc:∃v,cs=[v]:=by
   have:=h.len
   cases cs with
   |nil=>simp at this
   |cons v l=>cases l with
    |nil=>exact⟨v,rfl⟩
    |cons=>simp at this
  obtain⟨v,rfl⟩:=hc
  exact(h.at' 0 x v rfl rfl).2.2
theorem AO{α:Type}{Q:Nat→α→Prop}:∀(n:Nat),(∀i,i<n→∃p,Q i p)→∃L:List α,L.length=n∧∀(i:Nat) (p:α),L[i]?=some p→Q i p
 |0,_=>⟨[],rfl,by simp⟩
 |m+1,h=>by
  obtain⟨L,hL,hL2⟩:=AO m (fun i hi=>h i (by omega))
  obtain⟨q,g⟩:=h m (by omega)
  refine⟨L++[q],by simp[hL],fun i p hp=>?_⟩
  rcases lV _ _ _ _ hp with⟨_,hp⟩|⟨hi,hp⟩
  ·exact hL2 i p hp
  ·have:i=m:=by
    have:=(List.getElem?_eq_some_iff.1 hp).1
    simp at this
    omega
   subst this
   rw[hL] at hp
   simp at hp
   subst hp
   exact g
theorem XA{e:TypeId}{k:Nat}{S:List AV→Prop}(ag:Bool)(ht:P.underlying t=some (.slice e))(hc:P.cellsOf e=k)(hk:0<k)(hag:ag=false→k=1)(he:Reads enc P e k S):
 Reads enc P t 1 fun ls=>ls=[.aK]∨∃es:List AV,es.length≤maxLen∧(∀x∈es,∃l,S l∧x=mY ag l)∧ls=[.sl none k es]:=fun w base spare held fuel cs x h=>by
 rcases DataW.trod_slice ht h with⟨rfl,_⟩|⟨a,len,cap,elems,rest,n,_,rfl,_,hb,hl,hm,hlen,hel,_⟩
 ·exact⟨_,.inl rfl,rfl,.one .aK rfl rfl⟩
 ·
  have h1:∀i,i<len→∃ls cs,S ls∧ls.length=k∧jH (gF w) ls cs∧∀j,j<k→w.cell? ((a.add (i*k)).add j)=cs[j]?:=fun i hi=>by
   have h2:=hel i hi
   rw[hc] at h2
   have h3:i<elems.length:=by omega
   rw[List.getElem?_eq_getElem h3] at h2
   cases hcs:w.cells? base (a.add (i*k)) k with
   |none=>rw[hcs] at h2;simp at h2
   |some cs=>
    rw[hcs] at h2
    obtain⟨ls,g1,g2,g3⟩:=he w base spare held n cs _ h2
    exact⟨ls,cs,g1,g2,g3,(World.cells?_some hcs).2.2⟩
  have h4:=AO (Q:=fun i p=>S p.1∧p.1.length=k∧jH (gF w) p.1 p.2∧∀j,j<k→w.cell? ((a.add (i*k)).add j)=p.2[j]?) len (fun i hi=>let⟨ls,cs,g⟩:=h1 i hi;⟨(ls,cs),g⟩)
  obtain⟨L,hL,hL2⟩:=h4
  refine⟨[.sl none k (L.map fun p=>mY ag p.1)],.inr ⟨_,by simp[hL];omega,?_,rfl⟩,rfl,.one ?_ rfl rfl⟩
  ·intro x hx
   obtain⟨p,hp,rfl⟩:=List.mem_map.1 hx
   obtain⟨i,hi⟩:=List.mem_iff_getElem?.1 hp
   exact⟨p.1,(hL2 i p hi).1,rfl⟩
  ·have hln:∀(i:Nat) (p:List AV×List Value),L[i]?=some p→(mY ag p.1).leaves=p.1:=fun i p hp=>MH (hL2 i p hp).2.2.1 (fun e=>by rw[(hL2 i p hp).2.1];exact hag e)
   by_cases h0:len=0
   ·have hnil:L=[]:=List.eq_nil_of_length_eq_zero (by omega)
    subst hnil;subst h0
    exact .de k (some a) cap
   ·
    have hspot:a.spot=none:=by
     obtain⟨p,hp⟩:∃p,L[0]?=some p:=⟨L[0]'(by omega),List.getElem?_eq_getElem _⟩
     obtain⟨_,g2,g3,g4⟩:=hL2 0 p hp
     have g5:=g4 0 hk
     have g6:0<p.2.length:=by rw[g3.len,g2];exact hk
     rw[List.getElem?_eq_getElem g6] at g5
     have:=World.cell?_spot g5
     simpa[Addr.add] using this
    obtain⟨b,off,spot⟩:=a
    simp only at hspot;subst hspot
    have:=a8.sl (im:=gF w) k (L.map fun p=>mY ag p.1) b off cap (fun i j=>(((L[i]?).bind fun p=>p.2[j]?).getD undef)) (by simp[hL];exact hl) ?_ ?_ ?_ ?_
    ·simpa[hL] using this
    ·intro i e he
     rw[List.getElem?_map] at he
     cases hp:L[i]? with
     |none=>simp[hp] at he
     |some p=>simp only[hp,Option.map_some,Option.some.injEq] at he;subst he;rw[hln i p hp];exact(hL2 i p hp).2.1
    all_goals
     intro i e j c he hc'
     rw[List.getElem?_map] at he
     cases hp:L[i]? with
     |none=>simp[hp] at he
     |some p=>
      simp only[hp,Option.map_some,Option.some.injEq] at he;subst he
      rw[hln i p hp] at hc'
      obtain⟨_,g2,g3,g4⟩:=hL2 i p hp
      have hj:j<k:=by rw[←g2];exact(List.getElem?_eq_some_iff.1 hc').1
      have hj2:j<p.2.length:=by rw[g3.len];exact(List.getElem?_eq_some_iff.1 hc').1
      have g5:=g4 j hj
      rw[List.getElem?_eq_getElem hj2] at g5
      have g6:=g3.at' j c _ hc' (List.getElem?_eq_getElem hj2)
      simp only[Option.bind_some,List.getElem?_eq_getElem hj2,Option.getD_some]
      first
       |exact g6.1
       |exact g6.2.1
       |(have e1:(Addr.add ⟨b,off,none⟩ (i*k)).add j=⟨b,off+i*k+j,none⟩:=by rw[add_plain,add_plain]
         rw[e1] at g5;exact g5)
theorem jH.app{im:Im}{a b:List AV}{cs ds:List Value}(h:jH im a cs)(k:jH im b ds):jH im (a++b) (cs++ds):=by
 refine⟨by simp[h.len,k.len],fun i x v h1 h2=>?_⟩
 rcases lV _ _ _ _ h1 with⟨l1,h1⟩|⟨l1,h1⟩
 ·rw[List.getElem?_append_left (by rw[h.len];exact l1)] at h2
  exact h.at' i x v h1 h2
 ·rw[List.getElem?_append_right (by rw[h.len];exact l1),h.len] at h2
  exact k.at' _ x v h1 h2
def pK{H:Type}(enc:TypeId×Value→H)(P:Program)(fl:List Field)(off:Nat)(S:List AV→Prop)(total:Nat):Prop:=
 ∀(w:World) (base:Nat) (spare:Nat→Bool) (held:Bool) (n:Nat) (cs:List Value),cs.length=total→
  (∀f∈fl,∃y,DataW.trod enc P w base spare held n f.type ((cs.drop f.offset).take (P.cellsOf f.type))=some y)→∃ls,S ls∧ls.length+off=total∧jH (gF w) ls (cs.drop off)
theorem pw(total:Nat):pK enc P [] total (fun ls=>ls=[]) total:=fun w base spare held n cs hl _=>
 ⟨[],rfl,by simp,by rw[List.drop_eq_nil_of_le (by omega)];exact⟨rfl,by simp⟩⟩
theorem cM{f:Field}{fl:List Field}{off k total:Nat}{Sf Sr:List AV→Prop}(hf:Reads enc P f.type k Sf)(hc:P.cellsOf f.type=k)(ho:f.offset=off)(hr:pK enc P fl (off+k) Sr total):
 pK enc P (f::fl) off (fun ls=>∃a b,Sf a∧Sr b∧ls=a++b) total:=fun w base spare held n cs hl h=>by
 obtain⟨y,hy⟩:=h f (List.mem_cons_self ..)
 rw[ho,hc] at hy
 obtain⟨a,a1,a2,a3⟩:=hf w base spare held n _ y hy
 obtain⟨b,b1,b2,b3⟩:=hr w base spare held n cs hl (fun g hg=>h g (List.mem_cons_of_mem _ hg))
 refine⟨a++b,⟨a,b,a1,b1,rfl⟩,by simp;omega,?_⟩
 have e:cs.drop off=(cs.drop off).take k++cs.drop (off+k):=by rw[←List.drop_drop,List.take_append_drop]
 rw[e]
 exact a3.app b3
theorem o4{fs:Array Field}{fl:List Field}{S:List AV→Prop}{total:Nat}(ht:P.underlying t=some (.struct fs))(hl:fs.toList=fl)(hc:P.cellsOf t=total)(h:pK enc P fl 0 S total):Reads enc P t total S:=fun w base spare held fuel cs x hx=>by
 obtain⟨xs,n,_,_,h1,h2,h3⟩:=DataW.trod_struct ht hx
 subst hl
 obtain⟨ls,g1,g2,g3⟩:=h w base spare held n cs (h1.trans hc) (fun f hf=>by
  obtain⟨i,hi⟩:=List.mem_iff_getElem?.1 hf
  have hi2:fs[i]?=some f:=by simpa using hi
  have hlt:i<xs.length:=by rw[h2];exact(Array.getElem?_eq_some_iff.1 hi2).1
  exact⟨xs[i],by rw[h3 i f hi2,List.getElem?_eq_getElem hlt]⟩)
 exact⟨ls,g1,by omega,by simpa using g3⟩
section
variable{w:World}{base:Nat}{spare:Nat→Bool}{held:Bool}{r:Reach}{b0:Nat}{v:Value}{d:DataW H}{ps:List MemPlace}
theorem yp{S:List AV→Prop}(hc:v.cells.toList=[v])(hR:Reads enc P t 1 S)(hd:DataW.Trod enc P w base spare held t v d ps):∃x,S [x]∧a8 (gF w) x v:=by
 obtain⟨fuel,hf⟩:=hd
 rw[hc] at hf
 obtain⟨ls,h1,h2,h3⟩:=hR _ _ _ _ _ _ _ hf
 obtain⟨x,rfl⟩:∃x,ls=[x]:=by
  cases ls with
  |nil=>simp at h2
  |cons x l=>cases l with
   |nil=>exact⟨x,rfl⟩
   |cons=>simp at h2
 exact⟨x,h1,(h3.at' 0 x v rfl rfl).1⟩
theorem EA{kd:IntKind}(ht:P.underlying t=some (.int kd))(hv:Value.okWide P w r b0 t v)(hd:DataW.Trod enc P w base spare held t v d ps):∃n,(Lit.int kd n).wf=true∧a8 (gF w) (.v (.int kd n)) v:=by
 obtain⟨n,rfl⟩:=okWide_int ht hv
 obtain⟨x,⟨m,h1,h2⟩,h3⟩:=yp (by simp[Value.cells]) (fi ht) hd
 simp only[List.cons.injEq,and_true] at h2;subst h2
 exact⟨m,h1,h3⟩
theorem B4{e:TypeId}{k:Nat}{S:List AV→Prop}(ag:Bool)(ht:P.underlying t=some (.slice e))(hc:P.cellsOf e=k)(hk:0<k)(hag:ag=false→k=1)(he:Reads enc P e k S)
 (hv:Value.okWide P w r b0 t v) (hd:DataW.Trod enc P w base spare held t v d ps):∃x,a8 (gF w) x v∧(x= .aK∨∃es:List AV,es.length≤maxLen∧(∀y∈es,∃l,S l∧y=mY ag l)∧x= .sl none k es):=by
 obtain⟨a0,len,cap,rfl⟩:=okWide_slice ht hv
 obtain⟨x,h2,h3⟩:=yp (by simp[Value.cells]) (XA ag ht hc hk hag he) hd
 refine⟨x,h3,?_⟩
 rcases h2 with h2|⟨es,h4,h5,h2⟩<;>simp only[List.cons.injEq,and_true] at h2
 ·exact .inl h2
 ·exact .inr ⟨es,h4,h5,h2⟩
end
end
theorem Gx{im:Im}:jN im [] []:=⟨rfl,by simp⟩
theorem qe{im:Im}{x:AV}{v:Value}{xs:List AV}{vs:List Value}(h:a8 im x v)(k:jN im xs vs):jN im (x::xs) (v::vs):=by
 refine⟨by simp[k.1],fun i y u h1 h2=>?_⟩
 cases i with
 |zero=>simp only[List.getElem?_cons_zero,Option.some.injEq] at h1 h2;subst h1;subst h2;exact h
 |succ i=>exact k.2 i y u (by simpa using h1) (by simpa using h2)
theorem Gv{E:Env}{f:FuncId}{xs:List AV}{args:Array Value}{W:World}(hok:E.ok W)(hg:ko E (gF W))(h:ae E f xs fun r t=>r=bl true∧t=[])(hp:jN (gF W) xs args.toList):
 Calls E.P f args W fun e W'=>e= .returned (.bool true)∧Go.RowKit.Below W.heap.size W W':=by
 have:=h W (gF W) args.toList hok hg (fun b o x e=>e) hp
 refine(show Calls E.P f args.toList.toArray W _ from this).mono ?_
 rintro e W' ⟨v,r,tks,im',rfl,hB,_,_,_,_,hv,rfl,_⟩
 cases hv.bt
 exact⟨rfl,hB.toBelow⟩
end Go.Abs
namespace Go.Abs
open Go Go.RowKit
theorem Jt{α β:Type}{f:α→β}{l:List α}{n:Nat}:(l.map f).take n=(l.take n).map f:=List.map_take.symm
theorem EO{α β:Type}{f:α→β}{l:List α}{n:Nat}:(l.map f).drop n=(l.drop n).map f:=List.map_drop.symm
theorem SU{α β:Type}{f:α→β}{l m:List α}:l.map f++m.map f=(l++m).map f:=List.map_append.symm
theorem PT{α β:Type}{f:α→β}{l:List α}:(l.map f).length=l.length:=List.length_map f
theorem VM{α β:Type}{f:α→β}{l:List α}{i:Nat}:(l.map f)[i]?=(l[i]?).map f:=List.getElem?_map
theorem Am(b:UInt8):u8 b= .v (.int .u8 b.toNat):=rfl
theorem Kv{l:List UInt8}{n:Int}(h0:0≤n)(h1:n<256):l.map u8++[.v (.int .u8 n)]=(l++[UInt8.ofNat n.toNat]).map u8:=by
 rw[List.map_append]
 congr 1
 have:((UInt8.ofNat n.toNat).toNat:Int)=n:=by simp;omega
 simp only[List.map_cons,List.map_nil,Am,this]
theorem Qp{l:List UInt8}{b:UInt8}:l.map u8++[.v (.int .u8 b.toNat)]=(l++[b]).map u8:=by
 rw[List.map_append];rfl
theorem Oy{A B:List UInt8}:((⟨A.toArray⟩:ByteArray)=⟨B.toArray⟩)=(A=B):=by
 simp only[ByteArray.mk.injEq,eq_iff_iff]
 exact⟨fun h=>by simpa using h,fun h=>by rw[h]⟩
theorem Wy{A:List UInt8}:(⟨A.toArray⟩:ByteArray).data.toList=A:=rfl
theorem aG.nth{α β:Type}{l:List α}{i:Nat}{f:α→β}{p:β→Prop}(h:i<l.length)(hp:∀b,l[i]?=Option.some b→p (f b)):aG ((l[i]?).map f) p:=by
 obtain⟨b,hb⟩:∃b,l[i]?=Option.some b:=⟨_,List.getElem?_eq_getElem h⟩
 exact⟨f b,by rw[hb];rfl,hp b hb⟩
theorem aG.mN{β:Type}{l:List β}{i:Nat}{p:β→Prop}(h:i<l.length)(hp:∀b,l[i]?=Option.some b→p b):aG (l[i]?) p:=by
 obtain⟨b,hb⟩:∃b,l[i]?=Option.some b:=⟨_,List.getElem?_eq_getElem h⟩
 exact⟨b,hb,hp b hb⟩
theorem E2{A:List UInt8}{i:Nat}:(A.toArray)[i]?=A[i]?:=by simp
theorem toNat_cast{n:Nat}:((n:Int)).toNat=n:=rfl
theorem Uo{n:Nat}:(0≤(n:Int))=True:=by simp
section
variable{E:Env}{ops:Array Oper}{d:Option Tmp}{l:List Oper}{st:St}{K:St→Prop}
@[go_sem] theorem cO.get{α:Type}{o:Option α}{F:α→(AV→Prop)→Prop}:cO (fun k=>aG o fun y=>F y k) E ops d l st K=aG o (fun y=>cO (F y) E ops d l st K):=rfl
@[go_sem] theorem eF.get{α:Type}{o:Option α}{F:α→(St→AV→Prop)→Prop}:eF (fun k=>aG o fun y=>F y k) E ops d l K=aG o (fun y=>eF (F y) E ops d l K):=rfl
@[go_sem] theorem fO.get{α:Type}{o:Option α}{F:α→(St→Prop)→Prop}:fO (fun k=>aG o fun y=>F y k) E ops d l K=aG o (fun y=>fO (F y) E ops d l K):=rfl
end
attribute [go_sem] Jt EO SU PT VM Am Kv Qp Oy Wy E2 toNat_cast Uo List.length_append List.length_map Option.map_some Option.map_none
section
variable{E:Env}{f:FuncId}{R:AV→List Nat→Prop}
theorem wE{im:Im}:∀{xs vs:List Value},jN im (xs.map .v) vs→vs=xs
 |[],vs,h=>List.eq_nil_of_length_eq_zero (by simpa using h.1)
 |x::xs,vs,h=>by
  cases vs with
  |nil=>have:=h.1;simp at this
  |cons v vs=>
   have h0:=h.2 0 (.v x) v rfl rfl
   cases h0
   have:=wE (im:=im) (xs:=xs) (vs:=vs) ⟨by have:=h.1;simpa using this,fun i y u h1 h2=>h.2 (i+1) y u (by simpa using h1) (by simpa using h2)⟩
   rw[this]
theorem ae.WA{xs:List Value}{S:Value→Prop}(h:∀w,E.ok w→Calls E.P f xs.toArray w fun e w'=>(∃v,e= .returned v∧S v)∧w'=w)(hR:∀v,S v→∃r,(∀im,a8 im r v)∧R r []):ae E f (xs.map .v) R:=by
 intro w im vs hok hg him hpw
 rw[wE hpw]
 refine(h w hok).mono ?_
 rintro e w' ⟨⟨v,rfl,hs⟩,rfl⟩
 obtain⟨r,h1,h2⟩:=hR v hs
 exact⟨v,r,[],im,rfl,Below.refl _ _,.refl _,fun _ _ _=>rfl,him,⟨by simp,by simp⟩,.base (h1 im),h2⟩
end
end Go.Abs
namespace Go.Abs
open Go Go.RowKit
end Go.Abs
namespace Go.Abs
open Go Go.RowKit
end Go.Abs
namespace Go.Abs
theorem aG.fT{α:Type}{o:Option α}{b:α}{p:α→Prop}(h:o=Option.some b)(hp:p b):aG o p:=⟨b,h,hp⟩
theorem aG.bA{α β:Type}{o:Option α}{b:α}{f:α→β}{p:β→Prop}(h:o=Option.some b)(hp:p (f b)):aG (o.map f) p:=⟨f b,by rw[h];rfl,hp⟩
end Go.Abs
namespace Go.Abs
open Go Go.RowKit
def tP(s:AV)(k n:Nat)(xs:List AV)(st:St)(K:St→AV→Prop):Prop:=
 match s with
  |.sl (some tk) q es=>q=k∧st.tk[tk]?=some es.length∧es.length+xs.length≤4611686018427387904∧(es.length+xs.length)*n≤140737488355328∧
    K { st with tk:=st.tk.set tk (es.length+xs.length) } (.sl (some tk) k (es++xs))
  |.aK=>xs.length≤4611686018427387904∧xs.length*n≤140737488355328∧K { st with tk:=st.tk++[xs.length] } (.sl (some st.tk.length) k xs)
  |.mu id q off len cap=>q=k∧off=0∧xs≠[]∧len+xs.length≤4611686018427387904∧(len+xs.length)*n≤140737488355328∧
    j7 st.own[id]? fun l=>len≤l.length∧cap=l.length∧
    ∀m,K { st with own:=st.own.set id none++[some (l.take len++xs++spare k m)] } (.mu st.own.length k 0 (len+xs.length) (len+xs.length+m))
  |_=>False
@[go_sem] theorem Yg{P:Program}{t tx:TypeId}{s x:AV}{st:St}{K:St→AV→Prop}:oL P t tx s x st K =
   (ek P tx=true∧aG (cV P t) fun p=>aG (ib x p.2.1) fun xs=>tP s p.2.1 p.2.2 xs st K):=by
 simp only[oL,aG,tP,eq_iff_iff]
 constructor
 ·rintro⟨h0,e,k,n,xs,h1,h2,h3⟩;exact⟨h0,(e,k,n),h1,xs,h2,h3⟩
 ·rintro⟨h0,⟨e,k,n⟩,h1,xs,h2,h3⟩;exact⟨h0,e,k,n,xs,h1,h2,h3⟩
attribute [go_sem] tP
end Go.Abs
namespace Go.Abs
open Go Go.RowKit
@[go_sem] theorem Yz{P:Program}{t:TypeId}{len:Nat}{ps:List (Nat×AV)}{st:St}{K:St→AV→Prop}:pj P t len ps st K =
   (aG (cV P t) fun p=>ps.length=len∧idxFrom 0 ps=true∧len*p.2.1≤16777216∧aG (lX p.2.1 ps) fun ys=>K { st with tk:=st.tk++[ys.length] } (.sl (some st.tk.length) p.2.1 ys)):=by
 simp only[pj,aG,eq_iff_iff]
 constructor
 ·rintro⟨e,k,n,ys,h1,h2,h3,h4,h5,h6⟩;exact⟨(e,k,n),h1,h2,h3,h4,ys,h5,h6⟩
 ·rintro⟨⟨e,k,n⟩,h1,h2,h3,h4,ys,h5,h6⟩;exact⟨e,k,n,ys,h1,h2,h3,h4,h5,h6⟩
end Go.Abs
namespace Go.Abs
open Go Go.RowKit
@[go_sem] theorem Za{P:Program}{t:TypeId}{s:ByteArray}{lo hi:Option AV}{k:AV→Prop}:jy P t (.v (.string s)) lo hi k =
   (P.underlying t=some .string∧aG (dI lo 0) fun l=>aG (dI hi s.data.toList.length) fun h=>0≤l∧l≤h∧h≤(s.data.toList.length:Int)∧k (.v (.string ⟨(lA lo hi s.data.toList).toArray⟩))):=by
 simp only[jy,aG,eq_iff_iff]
 constructor
 ·rintro⟨h0,l,h,h1,h2,h3⟩;exact⟨h0,l,h1,h,h2,h3⟩
 ·rintro⟨h0,l,h1,h,h2,h3⟩;exact⟨h0,l,h,h1,h2,h3⟩
@[go_sem] theorem Yt{P:Program}{t:TypeId}{t':Option Nat}{q:Nat}{es:List AV}{lo hi:Option AV}{k:AV→Prop}:jy P t (.sl t' q es) lo hi k =
   ((∃e,P.underlying t=some (.slice e)∧bC P e=some q)∧aG (dI lo 0) fun l=>aG (dI hi es.length) fun h=>0≤l∧l≤h∧h≤(es.length:Int)∧k (.sl (tB lo t') q (lA lo hi es))):=by
 simp only[jy,aG,eq_iff_iff]
 constructor
 ·rintro⟨h0,l,h,h1,h2,h3⟩;exact⟨h0,l,h1,h,h2,h3⟩
 ·rintro⟨h0,l,h1,h,h2,h3⟩;exact⟨h0,l,h,h1,h2,h3⟩
@[go_sem] theorem Yq{P:Program}{t:TypeId}{lo hi:Option AV}{k:AV→Prop}:jy P t .aK lo hi k =
   ((∃e n,P.underlying t=some (.slice e)∧bC P e=some n)∧dI lo 0=some 0∧dI hi 0=some 0∧k .aK):=rfl
@[go_sem] theorem YI{P:Program}{t:TypeId}{id q off len cap:Nat}{lo hi:Option AV}{k:AV→Prop}:jy P t (.mu id q off len cap) lo hi k =
   ((∃e n,P.underlying t=some (.slice e)∧bC P e=some n)∧lo=none∧aG (dI hi len) fun h=>0≤h∧h≤(len:Int)∧k (.mu id q off h.toNat cap)):=rfl
@[go_sem] theorem Yw{P:Program}{t:TypeId}{cs:List AV}{lo hi:Option AV}{k:AV→Prop}:jy P t (.bR cs) lo hi k =
   (∃L e,P.underlying t=some (.array L e)∧bC P e=some 1∧lo=none∧aG (dI hi L) fun h=>0≤h∧h≤(cs.length:Int)∧h≤(L:Int)∧(∀c∈cs,c.leaves=[c])∧k (.sl none 1 (cs.take h.toNat))):=rfl
theorem M0{e:TypeId}{p:TypeId→Prop}:(∃x,some (TypeDesc.slice e)=some (TypeDesc.slice x)∧p x)=p e:=by simp
theorem Jb{e:TypeId}{p:TypeId→Nat→Prop}:(∃x n,some (TypeDesc.slice e)=some (TypeDesc.slice x)∧p x n)=∃n,p e n:=by simp
theorem Om{α β:Type}{p:α×β}:(p.1,p.2)=p:=rfl
attribute [go_sem] Om M0 Jb
end Go.Abs
namespace Go.Abs
open Go Go.RowKit
section
variable{P:Program}{t:TypeId}{k:Bool→Prop}
@[go_sem] theorem YP{a b:Bool}:fX P t (.v (.bool a)) (.v (.bool b)) k=(P.underlying t=some .bool∧k (decide (a=b))):=rfl
@[go_sem] theorem X7:fX P t .aK .aK k=((∃e,P.underlying t=some (.slice e))∧k true):=rfl
@[go_sem] theorem Ya{x:Option Nat}{y:Nat}{es:List AV}:fX P t (.sl x y es) .aK k=((∃e,P.underlying t=some (.slice e))∧∀b,(es≠[]→b=false)→k b):=rfl
@[go_sem] theorem Ze{x:Option Nat}{y:Nat}{es:List AV}:fX P t .aK (.sl x y es) k=((∃e,P.underlying t=some (.slice e))∧∀b,(es≠[]→b=false)→k b):=rfl
@[go_sem] theorem Zj{i x y z u:Nat}:fX P t (.mu i x y z u) .aK k=((∃e,P.underlying t=some (.slice e))∧∀b,(z≠0→b=false)→k b):=rfl
@[go_sem] theorem YJ:fX P t (.v .nilIface) (.v .nilIface) k=((∃ms,P.underlying t=some (.interface ms))∧k true):=rfl
@[go_sem] theorem Ym{x:TypeId}{y:Value}:fX P t (.v (.iface x y)) (.v .nilIface) k=((∃ms,P.underlying t=some (.interface ms))∧k false):=rfl
@[go_sem] theorem Yi{xs ys:List AV}:fX P t (.agg xs) (.agg ys) k=(aG (kb P t) fun ks=>aG (cJ ks xs ys) k):=by
 simp only[fX,aG,eq_iff_iff]
 constructor
 ·rintro⟨ks,b,h1,h2,h3⟩;exact⟨ks,h1,b,h2,h3⟩
 ·rintro⟨ks,h1,b,h2,h3⟩;exact⟨ks,b,h1,h2,h3⟩
end
end Go.Abs
namespace Go.Abs
theorem dD:(∀(p:Prop) [Decidable p],(decide p=true)=p)∧(∀(p:Prop) [Decidable p],(decide p=false)=¬p)∧(∀b:Bool,((!b)=true)=(b=false))∧(∀b:Bool,((!b)=false)=(b=true))∧
 (∀a b:Bool,((a||b)=true)=(a=true∨b=true))∧(∀a b:Bool,((a&&b)=true)=(a=true∧b=true))∧(∀a b:Bool,((a||b)=false)=(a=false∧b=false))∧
 (∀a b:Bool,((a&&b)=false)=(a=true→b=false))∧((!true)=false)∧((!false)=true)∧((true=false)=False)∧((false=true)=False)∧(∀(α:Type) (a b:α),(a≠b)=¬(a=b)):=
 ⟨fun p _=>by simp,fun p _=>by simp,by decide,by decide,by decide,by decide,by decide,by decide,rfl,rfl,by simp,by simp,fun _ _ _=>rfl⟩
end Go.Abs
namespace Go.Abs
open Go Go.RowKit
def bG(P:Program)(rs:List ResultVar)(st:St)(K:St→AV→Prop):Exit→St→Prop
 |.normal,s|.ret,s=>s.up=st.tmps++st.up∧iU P s rs fun l=>K { s with tmps:=st.tmps,up:=st.up } (gI l)
 |_,_=>False
def aj(E:Env)(ops:Array Oper)(l:List Oper)(Q:Exit→St→Prop)(st:St):Prop:=
 ∀(w0:World) (im0:di) (cx:Ctx) (a:Act) (w:World),E.ok w0→kA E im0→Rel w0 im0 cx st a w→wpList E.P ops (fun e a' w'=>gN w0 im0 (Q e) a' w') l a w
section
variable{E:Env}{Q:Exit→St→Prop}{st:St}{ops:Array Oper}{l l1 l2:List Oper}
theorem aa.bq{id:Nat}(h:aj E l.toArray l Q st):aa E (.region id l.toArray false) Q st:=fun w0 im0 cx a w h0 hG r=>wp_region_lit (h w0 im0 cx a w h0 hG r)
theorem aj.of(h:ct E ops l st (Q .normal)):aj E ops l Q st:=fun w0 im0 cx a w h0 hG r=>ru h0 hG (K:=Q .normal) (fun _ _ hh=>hh) l r h
theorem sr{w0:World}{im0:di}(h0:E.ok w0)(hG:kA E im0){K:St→Prop}{R:Exit→Act→World→Prop}(hQ:∀a w,gN w0 im0 K a w→wpList E.P ops R l2 a w):
 ∀(l:List Oper) {c:Ctx} {st:St} {a:Act} {w:World},Rel w0 im0 c st a w→ct E ops l st K→wpList E.P ops R (l++l2) a w
 |[],c,st,a,w,r,h=>hQ _ _ ⟨c,st,r,h⟩
 |o::rest,c,st,a,w,r,h=>by
  obtain⟨q,hq,h1,h2⟩:=h
  have hw:=uE r hq
  rw[List.cons_append]
  refine wpList_step (fun K' hK'=>?_)
  cases q with
  |true=>
   rw[if_pos hw]
   refine Oper.wp_mono (fun a' w' hh=>?_) (ur (Q:=R) h0 hG r (h1 rfl))
   obtain⟨c',st',r',h'⟩:=hh
   exact hK' _ _ (sr h0 hG hQ rest r' h')
  |false=>
   rw[if_neg (by rw[hw];exact Bool.false_ne_true)]
   exact hK' _ _ (sr h0 hG hQ rest (r.put o.dst (.base (.v undef))) (h2 rfl))
theorem aj.app(h:ct E ops l1 st (aj E ops l2 Q)):aj E ops (l1++l2) Q st:=fun w0 im0 cx a w h0 hG r=>
 sr h0 hG (K:=aj E ops l2 Q) (fun a' w' hh=>by obtain⟨c,s,r',k⟩:=hh;exact k w0 im0 c a' w' h0 hG r') l1 r h
theorem aj.call{g:FuncId}{fn:Func}{body:Code}{n:Nat}{rs:List ResultVar}{caps:List AV}{dst:Option Tmp}{f:Operand}{xs:Array Operand}{tys:Array TypeId}{ty:TypeId}{pos:String}{after:Array Edge}
 (hf:E.P.funcs[g]?=some fn) (hb:fn.body=some body) (hn:fn.ntmps=n) (hr:fn.results.toList=rs) (hc:ao E.P g=true) (he:st.ev f= .fn g caps) (hrsv:st.bP=none)
 (h:aa E body (bG E.P rs st fun s z=>aj E ops l Q (s.put dst z)) { st with tmps:=(xs.toList.map st.ev++caps)++List.replicate (n-(xs.toList.map st.ev++caps).length) (.v undef),up:=st.tmps++st.up }):
 aj E ops (⟨dst,.call ⟨.value f,xs,tys⟩,ty,pos,after,none⟩::l) Q st:=by
 intro w0 im0 cx a w h0 hG r
 subst hn;subst hr
 refine wpList_step (fun K' hK'=>?_)
 have hw:Region.wanted ⟨dst,.call ⟨.value f,xs,tys⟩,ty,pos,after,none⟩ (yielded ops a.tmps)=true:=rfl
 rw[if_pos hw]
 have hv:=r.ev f
 rw[he] at hv
 obtain⟨us,hfe,hnu,hpu⟩:=hv.gG
 have hargs:Pw cx (xs.toList.map st.ev++caps) (xs.toList.map a.eval++us):=by
  refine⟨by simp[hnu],fun i x v h1 h2=>?_⟩
  rcases gJ _ _ _ _ h1 with⟨l1,h1⟩|⟨l1,h1⟩
  ·rw[List.getElem?_append_left (by simpa using l1)] at h2
   rw[List.getElem?_map] at h1 h2
   cases hc:xs.toList[i]? with
   |none=>simp[hc] at h1
   |some z=>simp only[hc,Option.map_some,Option.some.injEq] at h1 h2;subst h1;subst h2;exact r.ev z
  ·rw[List.getElem?_append_right (by simpa using l1)] at h2
   have:(xs.toList.map a.eval).length=(xs.toList.map st.ev).length:=by simp
   rw[this] at h2
   exact hpu _ _ _ h1 h2
 have hrun:(execOp a.eval ⟨dst,.call ⟨.value f,xs,tys⟩,ty,pos,after,none⟩).run E.P w= .ok (.enter g (xs.toList.map a.eval++us).toArray) w:=by
  unfold ao at hc
  simp only[hf,Bool.and_eq_true,Bool.not_eq_true'] at hc
  obtain⟨hn1,hn2⟩:=hc
  have hbn:fn.body.isNone=false:=by rw[hb];rfl
  have harr:Array.map a.eval xs++us.toArray=(xs.toList.map a.eval++us).toArray:=by
   apply Array.ext'
   simp
  have he':a.eval f= .func (.func g) #[] us.toArray:=hfe
  simp only[execOp,resolve,he',Deferred.ofValue,Sem.run_bind,Sem.run_pure,Result.andThen_ok,invoke,callFunc,run_program,hf,hn1,Bool.false_eq_true,if_false,hbn,Array.empty_append,harr]
 unfold Oper.wp
 rw[hrun]
 simp only[Oper.upon]
 generalize hvs:xs.toList.map a.eval++us=vs at *
 generalize hys:xs.toList.map st.ev++caps=ys at *
 have hrel:Rel w0 ⟨im0.im,a.tmps.toList++im0.ex,im0.dr⟩ cx { st with tmps:=ys++List.replicate (fn.ntmps-ys.length) (.v undef),up:=st.tmps++st.up } { tmps:=vs.toArray++Array.replicate (fn.ntmps-vs.toArray.size) undef,defers:=[] } w:=by
  refine⟨⟨rfl,r.defers.2⟩,by simp[hargs.1],?_,r.below,r.c0,r.dd,r.cg,r.bU,r.own,r.cn,r.tail,r.tok,r.apart,r.dq,⟨?_,?_⟩,r.hole⟩
  ·intro i x v h1 h2
   rcases gJ _ _ _ _ h1 with⟨l1,h1⟩|⟨l1,h1⟩
   ·have:i<vs.length:=by rw[hargs.1];exact l1
    rw[Array.getElem?_append_left (by simpa using this)] at h2
    exact hargs.2 i x v h1 (by simpa using h2)
   ·have hlen:vs.length=ys.length:=hargs.1
    rw[Array.getElem?_append_right (by simp;omega)] at h2
    have e1:x= .v undef:=by
     have:=List.mem_of_getElem? h1
     simp only[List.mem_replicate] at this
     exact this.2
    have e2:v=undef:=by
     have:=Array.mem_of_getElem? h2
     simp only[Array.mem_replicate] at this
     exact this.2
    subst e1;subst e2
    exact .base (.v _)
  ·show(a.tmps.toList++im0.ex).length=(st.tmps++st.up).length
   rw[List.length_append,List.length_append,r.up.1,Array.length_toList,r.size]
  ·intro i x v h1 h2
   have h1:(st.tmps++st.up)[i]?=some x:=h1
   have h2:(a.tmps.toList++im0.ex)[i]?=some v:=h2
   rcases gJ _ _ _ _ h1 with⟨l1,h1⟩|⟨l1,h1⟩
   ·rw[List.getElem?_append_left (by rw[Array.length_toList,r.size];exact l1)] at h2
    exact r.tmps i x v h1 (by simpa using h2)
   ·rw[List.getElem?_append_right (by rw[Array.length_toList,r.size];exact l1),Array.length_toList,r.size] at h2
    exact r.up.2 _ x v h1 h2
 have hsz:vs.toArray.size=vs.length:=by simp
 refine(calls_of_wp (R:=fun e w'=>∃v,e= .returned v∧K' (a.put dst v) w') hf hb ?_).mono ?_
 ·refine wp_mono (h w0 ⟨im0.im,a.tmps.toList++im0.ex,im0.dr⟩ _ _ w h0 hG hrel) fun e a' w' hh=>?_
  obtain⟨c',st',r',q⟩:=hh
  have fin:(st'.up=st.tmps++st.up∧iU E.P st' fn.results.toList fun l'=>aj E ops l Q (St.put { st' with tmps:=st.tmps,up:=st.up } dst (gI l')))→
   a'.defers=[]∧∃v,(results fn a'.tmps).run E.P w'= .ok v w'∧∃v',Ending.returned v= .returned v'∧K' (a.put dst v') w':=by
   rintro⟨hup,q⟩
   obtain⟨l',us',h1,h2,h3⟩:=ki r' q
   refine⟨r'.defers.1,_,wz h1,_,rfl,hK' _ _ ?_⟩
   have hup1:=r'.up.1
   have hup2:=r'.up.2
   rw[hup] at hup1 hup2
   have hup2':∀(i:Nat) (x:AV) (v:Value),(st.tmps++st.up)[i]?=some x→(a.tmps.toList++im0.ex)[i]?=some v→VR c' x v:=hup2
   have rb:Rel w0 im0 c' { st' with tmps:=st.tmps,up:=st.up } a w':=by
    refine⟨r.defers,r.size,fun i x v e1 e2=>?_,r'.below,r'.c0,r'.dd,r'.cg,r'.bU,r'.own,r'.cn,r'.tail,r'.tok,r'.apart,r'.dq,⟨r.up.1,fun i x v e1 e2=>?_⟩,r'.hole⟩
    ·have e1:st.tmps[i]?=some x:=e1
     have hlt:i<st.tmps.length:=(List.getElem?_eq_some_iff.1 e1).1
     refine hup2' i x v ?_ ?_
     ·rw[List.getElem?_append_left hlt];exact e1
     ·rw[List.getElem?_append_left (by rw[Array.length_toList,r.size];exact hlt)];simpa using e2
    ·have e1:st.up[i]?=some x:=e1
     refine hup2' (st.tmps.length+i) x v ?_ ?_
     ·rw[List.getElem?_append_right (by omega)]
      rw[Nat.add_sub_cancel_left];exact e1
     ·rw[List.getElem?_append_right (by rw[Array.length_toList,r.size];omega),Array.length_toList,r.size,Nat.add_sub_cancel_left];exact e2
   refine h3 w0 im0 c' _ w' h0 hG (rb.put dst ?_)
   cases l' with
   |nil=>
    have:us'=[]:=List.eq_nil_of_length_eq_zero h2.1
    subst this
    exact .ax [] [] rfl (by simp)
   |cons x l'=>cases l' with
    |nil=>
     cases us' with
     |nil=>have:=h2.1;simp at this
     |cons u us'=>
      have:us'=[]:=List.eq_nil_of_length_eq_zero (by have:=h2.1;simpa using this)
      subst this
      exact h2.2 0 x u rfl rfl
    |cons z l'=>
     have hl2:us'.length=(x::z::l').length:=h2.1
     rw[if_neg (by rw[hl2];simp)]
     exact .ax _ us' h2.1 h2.2
  cases e<;>simp only[bG] at q<;>first|exact q.elim|skip
  case normal=>exact fin q
  case ret=>exact fin q
 ·rintro e w' ⟨v,rfl,hk⟩;exact hk
end
end Go.Abs
namespace Go.Abs
open Go Go.RowKit
end Go.Abs
namespace Go.Abs
open Go Go.RowKit
section
variable{w0:World}{im0:di}{c:Ctx}{st:St}{a:Act}{w:World}
def gO(im:Im)(w:World)(g n:Nat):Im:=fun b o=>if b=g then(if o<n then w.cell? ⟨g,o,none⟩ else none) else im b o
theorem Rel.qM(r:Rel w0 im0 c st a w){id g k:Nat}{es:List AV}(h1:c.β[id]?=some (some (g,k)))(h2:st.own[id]?=some (some es)){es':List AV}{n:Nat}(hes:es'=es.take n)(hc:∀e∈es',∀x∈e.leaves,x.dL=some x):
 ∃c',c.le c'∧c'.β=c.β∧c'.tk=c.tk∧(∀o,es'.length*k≤o→c'.im g o=none)∧Rel w0 im0 c' { st with own:=st.own.set id none } a w∧∃cv:Nat→Nat→Value,
  (∀(i:Nat) (e:AV),es'[i]?=some e→e.leaves.length=k)∧
  (∀(i:Nat) (e:AV) (j:Nat) (y:AV),es'[i]?=some e→e.leaves[j]?=some y→c'.im g (i*k+j)=some (cv i j))∧
  (∀(i:Nat) (e:AV) (j:Nat) (y:AV),es'[i]?=some e→e.leaves[j]?=some y→(cv i j).oneCell'=true)∧
  ∀(i:Nat) (e:AV) (j:Nat) (y:AV),es'[i]?=some e→e.leaves[j]?=some y→a8 c'.im y (cv i j):=by
 have ho:=r.own id g k es h1 h2
 obtain⟨cs,ty,lo,hi,hblk,_,hsz,hlv,hcell⟩:=ho.aV
 have hsub:∀(i:Nat) (e:AV),es'[i]?=some e→es[i]?=some e:=fun i e he=>by
  rw[hes,List.getElem?_take] at he
  split at he
  ·exact he
  ·simp at he
 have hle:c.im.le (gO c.im w g (es'.length*k)):=by
  intro b o v hv
  unfold gO
  rw[if_neg (fun e=>by subst e;rw[ho.im o] at hv;simp at hv)]
  exact hv
 have hcle:c.le ⟨c.β,c.tk,gO c.im w g (es'.length*k)⟩:=⟨fun _ _ h=>h,fun t T h=>⟨T,h,rfl,.inl rfl⟩,hle⟩
 have hgo:∀b o,b≠g→gO c.im w g (es'.length*k) b o=c.im b o:=fun b o hb=>by unfold gO;rw[if_neg hb]
 refine⟨⟨c.β,c.tk,gO c.im w g (es'.length*k)⟩,hcle,rfl,rfl,fun o ho'=>?_,?_,fun i j=>cs.getD (i*k+j) undef,fun i e he=>hlv i e (hsub i e he),?_,?_,?_⟩
 ·show gO c.im w g (es'.length*k) g o=none
  unfold gO
  rw[if_pos rfl,if_neg (by omega)]
 ·refine⟨r.defers,r.size,fun i x v e1 e2=>(r.tmps i x v e1 e2).mono hcle,r.below,r.c0.trans hle,fun b o hb=>?_,fun b o x hx=>?_,by simp[r.bU],fun i g' k' es2 e1 e2=>?_,r.cn,r.tail,fun t T b e1 e2=>?_,?_,fun g' cs' h=>(r.dq g' cs' h).mono hle,⟨r.up.1,fun i x v e1 e2=>(r.up.2 i x v e1 e2).mono hcle⟩,r.hole⟩
  ·show gO c.im w g (es'.length*k) b o=_
   rw[hgo b o (fun e=>by have:=ho.new;omega)];exact r.dd b o hb
  ·have hx:gO c.im w g (es'.length*k) b o=some x:=hx
   unfold gO at hx
   split at hx
   ·rename_i hb;subst hb
    split at hx
    ·exact hx
    ·simp at hx
   ·exact r.cg b o x hx
  ·have e2:(st.own.set id none)[i]?=some (some es2):=e2
   rw[List.getElem?_set] at e2
   by_cases hi':id=i
   ·subst hi';rw[if_pos rfl] at e2;split at e2<;>simp at e2
   ·rw[if_neg hi'] at e2
    have hne:=r.apart.oo i id g' k' g k es2 es e1 h1 e2 h2 (Ne.symm hi')
    exact(r.own i g' k' es2 e1 e2).mono hcle (fun o=>by show gO c.im w g (es'.length*k) g' o=none;rw[hgo g' o hne];exact(r.own i g' k' es2 e1 e2).im o) rfl
  ·have ht:=r.tok t T b e1 e2
   have hne:=r.apart.ot id t g k es T b h1 h2 e1 e2
   exact⟨ht.new,ht.room,fun o ho'=>by show gO c.im w g (es'.length*k) b o=none;rw[hgo b o (Ne.symm hne)];exact ht.im o ho',ht.aV⟩
  ·have conv:∀{i:Nat} {e:List AV},(st.own.set id none)[i]?=some (some e)→st.own[i]?=some (some e):=by
    intro i e he
    rw[List.getElem?_set] at he
    by_cases hi':id=i
    ·subst hi';rw[if_pos rfl] at he;split at he<;>simp at he
    ·rw[if_neg hi'] at he;exact he
   exact⟨fun i j g1 k1 g2 k2 e1 e2 a1 a2 a3 a4 hij=>r.apart.oo i j g1 k1 g2 k2 e1 e2 a1 a2 (conv a3) (conv a4) hij,fun i t g1 k1 e1 T b a1 a2 a3 a4=>r.apart.ot i t g1 k1 e1 T b a1 (conv a2) a3 a4,r.apart.tt⟩
 ·intro i e j y he hy
  have hlt:i*k+j<es'.length*k:=kW (bE he) (by rw[←hlv i e (hsub i e he)];exact bE hy)
  show gO c.im w g (es'.length*k) g (i*k+j)=_
  unfold gO
  rw[if_pos rfl,if_pos hlt]
  obtain⟨v,hv,_⟩:=hcell i e j y (hsub i e he) hy
  simp[World.cell?,hblk,hv,Array.getD_eq_getD_getElem?]
 ·intro i e j y he hy
  obtain⟨v,hv,_,h1⟩:=hcell i e j y (hsub i e he) hy
  simp only[Array.getD_eq_getD_getElem?,hv,Option.getD_some]
  rcases h1 with rfl|h1
  ·have:=hc e (List.mem_of_getElem? he) _ (List.mem_of_getElem? hy)
   simp[AV.dL] at this
  ·exact h1
 ·intro i e j y he hy
  obtain⟨v,hv,hvr,h1⟩:=hcell i e j y (hsub i e he) hy
  simp only[Array.getD_eq_getD_getElem?,hv,Option.getD_some]
  exact((ou hvr (hc e (List.mem_of_getElem? he) y (List.mem_of_getElem? hy))).1).mono hle
end
section
variable{E:Env}{c:Code}{Q:Exit→St→Prop}{s:St}
theorem Rel.pB{w0:World}{im0:di}{c:Ctx}{st:St}{a:Act}{w:World}(r:Rel w0 im0 c st a w){i:Nat}{y:AV}(h:∀v,a.tmps[i]?=some v→VR c y v):Rel w0 im0 c { st with tmps:=st.tmps.set i y } a w:=by
 refine⟨r.defers,by simp[r.size],fun j x v h1 h2=>?_,r.below,r.c0,r.dd,r.cg,r.bU,r.own,r.cn,r.tail,r.tok,r.apart,r.dq,r.up,r.hole⟩
 have h1:(st.tmps.set i y)[j]?=some x:=h1
 rw[List.getElem?_set] at h1
 by_cases hj:i=j
 ·subst hj
  rw[if_pos rfl] at h1
  split at h1
  ·simp only[Option.some.injEq] at h1;subst h1;exact h v h2
  ·simp at h1
 ·rw[if_neg hj] at h1;exact r.tmps j x v h1 h2
theorem Rel.lz{w0:World}{im0:di}{c:Ctx}{st:St}{a:Act}{w:World}(r:Rel w0 im0 c st a w)(id:Nat):Rel w0 im0 c { st with own:=st.own.set id none } a w:=by
 have conv:∀{i:Nat} {e:List AV},(st.own.set id none)[i]?=some (some e)→st.own[i]?=some (some e):=by
  intro i e he
  rw[List.getElem?_set] at he
  by_cases hi':id=i
  ·subst hi';rw[if_pos rfl] at he;split at he<;>simp at he
  ·rw[if_neg hi'] at he;exact he
 exact⟨r.defers,r.size,r.tmps,r.below,r.c0,r.dd,r.cg,by simp[r.bU],fun i g k es h1 h2=>r.own i g k es h1 (conv h2),r.cn,r.tail,r.tok,
  ⟨fun i j g1 k1 g2 k2 e1 e2 a1 a2 a3 a4 hij=>r.apart.oo i j g1 k1 g2 k2 e1 e2 a1 a2 (conv a3) (conv a4) hij,fun i t g1 k1 e1 T b a1 a2 a3 a4=>r.apart.ot i t g1 k1 e1 T b a1 (conv a2) a3 a4,r.apart.tt⟩,r.dq,r.up,r.hole⟩
end
end Go.Abs
end
