/- Texts of one chain, put together (Lc, Ld). -/
import Derived.Test.YthoonfpkfdjhiaaGreatDoorKaC
import Derived.ProofKit
import Derived.Lib.UnsafeStr
set_option linter.unusedVariables false
set_option linter.unusedSimpArgs false
set_option maxHeartbeats 16000000
set_option maxRecDepth 8000
section
namespace Go.Abs
open Go Go.RowKit
def AGuard(q:Option Bool)(E:Env)(ops:Array Oper)(o:Oper)(l:List Oper)(st:St)(K:St→Prop):Prop:=
 ∃b,q=some b∧(b=true→AOp E o st fun s=>AList E ops l s K)∧(b=false→AList E ops l (st.put o.dst (.v undef)) K)
def AV1(F:(AV→Prop)→Prop)(E:Env)(ops:Array Oper)(d:Option Tmp)(l:List Oper)(st:St)(K:St→Prop):Prop:=F fun y=>AList E ops l (st.put d y) K
def AV2(F:(St→AV→Prop)→Prop)(E:Env)(ops:Array Oper)(d:Option Tmp)(l:List Oper)(K:St→Prop):Prop:=F fun s y=>AList E ops l (s.put d y) K
def AV3(F:(St→Prop)→Prop)(E:Env)(ops:Array Oper)(d:Option Tmp)(l:List Oper)(K:St→Prop):Prop:=F fun s=>AList E ops l (s.put d (.v undef)) K
def ACall(E:Env)(ops:Array Oper)(f:AV)(xs:List AV)(d:Option Tmp)(l:List Oper)(st:St)(K:St→Prop):Prop:=ACallOp E st f xs fun s y=>AList E ops l (s.put d y) K
def AOp1(E:Env)(ops:Array Oper)(o:Oper)(l:List Oper)(st:St)(K:St→Prop):Prop:=AOp E o st fun s=>AList E ops l s K
def AConvO(u:Option TypeDesc)(E:Env)(ops:Array Oper)(o:Oper)(s d:TypeId)(x:Operand)(l:List Oper)(st:St)(K:St→Prop):Prop:=
 match u with
 |some (.slice _)=>AV2 (fun k=>ABytes E.P s d (st.ev x) st k) E ops o.dst l K
 |_=>AV1 (fun k=>AConv E.P s d (st.ev x) k) E ops o.dst l st K
@[congr] theorem AV1.congr{F G:(AV→Prop)→Prop}{E:Env}{ops:Array Oper}{d:Option Tmp}{l:List Oper}{st:St}{K:St→Prop}(h:∀k,F k=G k):AV1 F E ops d l st K=AV1 G E ops d l st K:=by rw[funext h]
@[congr] theorem AV2.congr{F G:(St→AV→Prop)→Prop}{E:Env}{ops:Array Oper}{d:Option Tmp}{l:List Oper}{K:St→Prop}(h:∀k,F k=G k):AV2 F E ops d l K=AV2 G E ops d l K:=by rw[funext h]
@[congr] theorem AV3.congr{F G:(St→Prop)→Prop}{E:Env}{ops:Array Oper}{d:Option Tmp}{l:List Oper}{K:St→Prop}(h:∀k,F k=G k):AV3 F E ops d l K=AV3 G E ops d l K:=by rw[funext h]
section
variable{E:Env}{ops:Array Oper}{o:Oper}{d:Option Tmp}{l:List Oper}{st:St}{K:St→Prop}
@[go_sem] theorem alist_nil:AList E ops [] st K=K st:=rfl
@[go_sem] theorem alist_cons:AList E ops (o::l) st K=AGuard (AWant ops o st) E ops o l st K:=rfl
@[go_sem] theorem AGuard.yes:AGuard (some true) E ops o l st K=AOp1 E ops o l st K:=by simp[AGuard,AOp1]
@[go_sem] theorem AGuard.no:AGuard (some false) E ops o l st K=AList E ops l (st.put o.dst (.v undef)) K:=by simp[AGuard]
theorem AGuard.split{b:Bool}(h1:b=true→AOp1 E ops o l st K)(h2:b=false→AList E ops l (st.put o.dst (.v undef)) K):AGuard (some b) E ops o l st K:=⟨b,rfl,h1,h2⟩
theorem AGuard.splitN{b:Bool}(h1:b=true→AList E ops l (st.put o.dst (.v undef)) K)(h2:b=false→AOp1 E ops o l st K):AGuard (some (!b)) E ops o l st K:=⟨!b,rfl,fun h=>h2 (by simpa using h),fun h=>h1 (by simpa using h)⟩
@[go_sem] theorem AV1.at{x:AV}:AV1 (fun k=>k x) E ops d l st K=AList E ops l (st.put d x) K:=rfl
@[go_sem] theorem AV1.and{p:Prop}{F:(AV→Prop)→Prop}:AV1 (fun k=>p∧F k) E ops d l st K=(p∧AV1 F E ops d l st K):=rfl
@[go_sem] theorem AV1.ex{α:Type}{F:α→(AV→Prop)→Prop}:AV1 (fun k=>∃x,F x k) E ops d l st K=(∃x,AV1 (F x) E ops d l st K):=rfl
@[go_sem] theorem AV1.all{p:Bool→Prop}{g:Bool→AV}:AV1 (fun k=>∀b,p b→k (g b)) E ops d l st K=(∀b,p b→AList E ops l (st.put d (g b)) K):=rfl
@[go_sem] theorem AV1.none:AV1 (fun _=>False) E ops d l st K=False:=rfl
@[go_sem] theorem AV2.at{s:St}{x:AV}:AV2 (fun k=>k s x) E ops d l K=AList E ops l (s.put d x) K:=rfl
@[go_sem] theorem AV2.and{p:Prop}{F:(St→AV→Prop)→Prop}:AV2 (fun k=>p∧F k) E ops d l K=(p∧AV2 F E ops d l K):=rfl
@[go_sem] theorem AV2.ex{α:Type}{F:α→(St→AV→Prop)→Prop}:AV2 (fun k=>∃x,F x k) E ops d l K=(∃x,AV2 (F x) E ops d l K):=rfl
@[go_sem] theorem AV2.none:AV2 (fun _=>False) E ops d l K=False:=rfl
@[go_sem] theorem AV3.at{s:St}:AV3 (fun k=>k s) E ops d l K=AList E ops l (s.put d (.v undef)) K:=rfl
@[go_sem] theorem AV3.and{p:Prop}{F:(St→Prop)→Prop}:AV3 (fun k=>p∧F k) E ops d l K=(p∧AV3 F E ops d l K):=rfl
@[go_sem] theorem AV3.ex{α:Type}{F:α→(St→Prop)→Prop}:AV3 (fun k=>∃x,F x k) E ops d l K=(∃x,AV3 (F x) E ops d l K):=rfl
@[go_sem] theorem AV3.none:AV3 (fun _=>False) E ops d l K=False:=rfl
theorem ACall.of{g:FuncId}{caps xs ys:List AV}{R:AV→List Nat→Prop}(hc:ACalls E g ys R)(hb:callable E.P g=true)(hy:cleanArgs (xs++caps)=some ys)
 (h:∀r t,R r t→AList E ops l (St.put { st with tk:=st.tk++t } d (r.shift st.tk.length)) K):ACall E ops (.fn g caps) xs d l st K:=⟨hb,.inl ⟨ys,hy,R,hc,h⟩⟩
theorem ACall.snap{g:FuncId}{caps xs ys:List AV}{R:AV→List Nat→Prop}(hc:ACalls E g ys R)(hb:callable E.P g=true)(hr:st.rsv=none)(hy:All2 (Snap st.own) (xs++caps) ys)
 (h:∀r t,R r t→Fresh t r∧AList E ops l (St.put { st with tk:=st.tk++t } d (r.shift st.tk.length)) K):ACall E ops (.fn g caps) xs d l st K:=⟨hb,.inr ⟨hr,ys,hy,R,hc,.inl h⟩⟩
theorem ACall.take{g:FuncId}{caps xs ys:List AV}{R:AV→List Nat→Prop}(hc:ACalls E g ys R)(hb:callable E.P g=true)(hr:st.rsv=none)(hy:All2 (Snap st.own) (xs++caps) ys)
 (h:∀r tks,R r tks→∃t k es,r= .sl (some t) k es∧tks[t]?=some es.length∧(∀e∈es,e.leaves.length=k∧∀y∈e.leaves,∃z,y= .v z)∧
   ∀m,AList E ops l (St.put { st with own:=st.own++[some (es++spare k m)] } d (.mu st.own.length k 0 es.length (es.length+m))) K):ACall E ops (.fn g caps) xs d l st K:=⟨hb,.inr ⟨hr,ys,hy,R,hc,.inr h⟩⟩
theorem ACall.one{g:FuncId}{caps xs ys:List AV}{x:AV}(hc:ACalls E g ys fun r t=>r=x∧t=[])(hb:callable E.P g=true)(hy:cleanArgs (xs++caps)=some ys)
 (h:AList E ops l (st.put d (x.shift st.tk.length)) K):ACall E ops (.fn g caps) xs d l st K:=ACall.of hc hb hy fun r t ⟨h1,h2⟩=>by
 subst h1;subst h2
 rw[List.append_nil];exact h
variable{ty:TypeId}{pos:String}{after:Array Edge}{guard:Option (Nat×Bool)}
@[go_sem] theorem op_alloc{t:TypeId}:AOp1 E ops ⟨d,.alloc t,ty,pos,after,guard⟩ l st K=AV2 (fun k=>AAllocD E.P t d st k) E ops d l K:=rfl
@[go_sem] theorem op_box{t:TypeId}{x:Operand}:AOp1 E ops ⟨d,.box t x,ty,pos,after,guard⟩ l st K=AV2 (fun k=>ABox (st.ev x) st k) E ops d l K:=rfl
@[go_sem] theorem op_store{t:TypeId}{x y:Operand}:AOp1 E ops ⟨d,.store t x y,ty,pos,after,guard⟩ l st K=AV3 (fun k=>AStore E.P t (st.ev x) (st.ev y) st k) E ops d l K:=rfl
@[go_sem] theorem op_mkslice{t:TypeId}{n:Nat}{ps:Array (Nat×Operand)}:AOp1 E ops ⟨d,.buildSlice t n ps,ty,pos,after,guard⟩ l st K=AV2 (fun k=>AMkSlice E.P t n (evParts st ps) st k) E ops d l K:=rfl
@[go_sem] theorem op_convert{s t:TypeId}{x:Operand}:AOp1 E ops ⟨d,.convert s t x,ty,pos,after,guard⟩ l st K=AConvO (E.P.underlying t) E ops ⟨d,.convert s t x,ty,pos,after,guard⟩ s t x l st K:=by
 simp only[AOp1,AOp,AConvO]
 generalize E.P.underlying t=u
 cases u with
 |none=>rfl
 |some u=>cases u<;>rfl
@[go_sem] theorem op_append{t tx:TypeId}{x y:Operand}:AOp1 E ops ⟨d,.call ⟨.builtin .append,#[x,y],#[t,tx]⟩,ty,pos,after,guard⟩ l st K=AV2 (fun k=>AAppend E.P t tx (st.ev x) (st.ev y) st k) E ops d l K:=rfl
@[go_sem] theorem op_call{f:Operand}{xs:Array Operand}{ts:Array TypeId}:AOp1 E ops ⟨d,.call ⟨.value f,xs,ts⟩,ty,pos,after,guard⟩ l st K=ACall E ops (st.ev f) (xs.toList.map st.ev) d l st K:=rfl
@[go_sem] theorem op_len{xs:Array Operand}{ts:Array TypeId}:AOp1 E ops ⟨d,.call ⟨.builtin .len,xs,ts⟩,ty,pos,after,guard⟩ l st K=AV1 (fun k=>ALight E.P st (.call ⟨.builtin .len,xs,ts⟩) k) E ops d l st K:=rfl
@[go_sem] theorem op_min{xs:Array Operand}{ts:Array TypeId}:AOp1 E ops ⟨d,.call ⟨.builtin .min,xs,ts⟩,ty,pos,after,guard⟩ l st K=AV1 (fun k=>ALight E.P st (.call ⟨.builtin .min,xs,ts⟩) k) E ops d l st K:=rfl
@[go_sem] theorem op_max{xs:Array Operand}{ts:Array TypeId}:AOp1 E ops ⟨d,.call ⟨.builtin .max,xs,ts⟩,ty,pos,after,guard⟩ l st K=AV1 (fun k=>ALight E.P st (.call ⟨.builtin .max,xs,ts⟩) k) E ops d l st K:=rfl
@[go_sem] theorem op_move{x:Operand}:AOp1 E ops ⟨d,.move x,ty,pos,after,guard⟩ l st K=AV1 (fun k=>ALight E.P st (.move x) k) E ops d l st K:=rfl
@[go_sem] theorem op_assign{x:Operand}:AOp1 E ops ⟨d,.assign x,ty,pos,after,guard⟩ l st K=AV1 (fun k=>ALight E.P st (.assign x) k) E ops d l st K:=rfl
@[go_sem] theorem op_pick{x y z:Operand}:AOp1 E ops ⟨d,.pick x y z,ty,pos,after,guard⟩ l st K=AV1 (fun k=>ALight E.P st (.pick x y z) k) E ops d l st K:=rfl
@[go_sem] theorem op_load{t:TypeId}{x:Operand}:AOp1 E ops ⟨d,.load t x,ty,pos,after,guard⟩ l st K=AV1 (fun k=>ALight E.P st (.load t x) k) E ops d l st K:=rfl
@[go_sem] theorem op_nilCheck{x:Operand}:AOp1 E ops ⟨d,.nilCheck x,ty,pos,after,guard⟩ l st K=AV1 (fun k=>ALight E.P st (.nilCheck x) k) E ops d l st K:=rfl
@[go_sem] theorem op_binOp{b:BinOp}{t:TypeId}{x y:Operand}{u:TypeId}:AOp1 E ops ⟨d,.binOp b t x y u,ty,pos,after,guard⟩ l st K=AV1 (fun k=>ALight E.P st (.binOp b t x y u) k) E ops d l st K:=rfl
@[go_sem] theorem op_unOp{u:UnOp}{t:TypeId}{x:Operand}:AOp1 E ops ⟨d,.unOp u t x,ty,pos,after,guard⟩ l st K=AV1 (fun k=>ALight E.P st (.unOp u t x) k) E ops d l st K:=rfl
@[go_sem] theorem op_slice{t:TypeId}{x:Operand}{lo hi mx:Option Operand}:AOp1 E ops ⟨d,.slice t x lo hi mx,ty,pos,after,guard⟩ l st K=AV1 (fun k=>ALight E.P st (.slice t x lo hi mx) k) E ops d l st K:=rfl
@[go_sem] theorem op_fieldAddr{t:TypeId}{x:Operand}{f:Nat}:AOp1 E ops ⟨d,.fieldAddr t x f,ty,pos,after,guard⟩ l st K=AV1 (fun k=>ALight E.P st (.fieldAddr t x f) k) E ops d l st K:=rfl
@[go_sem] theorem op_field{t:TypeId}{x:Operand}{f:Nat}:AOp1 E ops ⟨d,.field t x f,ty,pos,after,guard⟩ l st K=AV1 (fun k=>ALight E.P st (.field t x f) k) E ops d l st K:=rfl
@[go_sem] theorem op_indexAddr{t:TypeId}{x i:Operand}:AOp1 E ops ⟨d,.indexAddr t x i,ty,pos,after,guard⟩ l st K=AV1 (fun k=>ALight E.P st (.indexAddr t x i) k) E ops d l st K:=rfl
@[go_sem] theorem op_index{t:TypeId}{x i:Operand}:AOp1 E ops ⟨d,.index t x i,ty,pos,after,guard⟩ l st K=AV1 (fun k=>ALight E.P st (.index t x i) k) E ops d l st K:=rfl
@[go_sem] theorem op_extract{x:Operand}{i:Nat}:AOp1 E ops ⟨d,.extract x i,ty,pos,after,guard⟩ l st K=AV1 (fun k=>ALight E.P st (.extract x i) k) E ops d l st K:=rfl
@[go_sem] theorem op_build{t:TypeId}{ps:Array (Nat×Operand)}:AOp1 E ops ⟨d,.build t ps,ty,pos,after,guard⟩ l st K=AV1 (fun k=>ALight E.P st (.build t ps) k) E ops d l st K:=rfl
@[go_sem] theorem op_makeInterface{t:TypeId}{x:Operand}:AOp1 E ops ⟨d,.makeInterface t x,ty,pos,after,guard⟩ l st K=AV1 (fun k=>ALight E.P st (.makeInterface t x) k) E ops d l st K:=rfl
@[go_sem] theorem op_makeFunc{f:Fn}{a b:Array Operand}:AOp1 E ops ⟨d,.makeFunc f a b,ty,pos,after,guard⟩ l st K=AV1 (fun k=>ALight E.P st (.makeFunc f a b) k) E ops d l st K:=rfl
end
theorem aplan_take{i:Nat}{E:Env}{ops:Array Oper}{st:St}{K:St→Prop}{p:Plan}{o:Oper}(h:ops[i]?=some o):
 APlan E ops K (.take i p) st=∃b,AWant ops o st=some b∧(b=true→AOp E o st fun s=>APlan E ops K p s)∧(b=false→APlan E ops K p (st.put o.dst (.v undef))):=by
 show AStep E ops i (APlan E ops K p) st=_
 unfold AStep;rw[h]
theorem astep_list{E:Env}{ops:Array Oper}{i:Nat}{C:St→Prop}{st:St}:AStep E ops i C st=AList E ops (ops[i]?).toList st C:=by
 unfold AStep
 cases ops[i]?<;>rfl
@[go_sem] theorem ap_done{E:Env}{ops:Array Oper}{st:St}{K:St→Prop}:APlan E ops K .done st=K st:=rfl
@[go_sem] theorem ap_take{E:Env}{ops:Array Oper}{st:St}{K:St→Prop}{i:Nat}{p:Plan}:APlan E ops K (.take i p) st=AList E ops (ops[i]?).toList st (APlan E ops K p):=astep_list
@[go_sem] theorem ap_fork{E:Env}{ops:Array Oper}{st:St}{K:St→Prop}{p:Plan}:APlan E ops K (.fork p) st=APlan E ops K p st:=rfl
@[go_sem] theorem ap_alt{E:Env}{ops:Array Oper}{st:St}{K:St→Prop}{i:Nat}{p r:Plan}:APlan E ops K (.alt i p r) st=(AList E ops (ops[i]?).toList st (APlan E ops K p)∧APlan E ops K r st):=by
 rw[←astep_list];rfl
@[go_sem] theorem ap_ends{E:Env}{ops:Array Oper}{st:St}{K:St→Prop}:APlan E ops K .ends st=True:=rfl
attribute [go_sem] and_self Done St.keep mkRsv Option.toList_some Option.toList_none
def Plan.ofList:List Nat→Plan
 |[]=> .done
 |i::is=> .take i (Plan.ofList is)
def nthO:List Oper→Nat→Option Oper
 |[],_=>none
 |x::_,0=>some x
 |_::xs,n+1=>nthO xs n
theorem nthO_eq:∀(l:List Oper) (n:Nat),nthO l n=l[n]?
 |[],_=>by simp[nthO]
 |_::_,0=>rfl
 |_::xs,n+1=>by simp[nthO,nthO_eq xs n]
def pickOps(ops:List Oper):List Nat→Option (List Oper)
 |[]=>some []
 |i::is=>match nthO ops i,pickOps ops is with
  |some o,some l=>some (o::l)
  |_,_=>none
theorem aplan_list{E:Env}{ops:List Oper}{K:St→Prop}:∀{is:List Nat} {l:List Oper} {st:St},pickOps ops is=some l→AList E ops.toArray l st K→APlan E ops.toArray K (Plan.ofList is) st
 |[],l,st,h,hl=>by
  simp only[pickOps,Option.some.injEq] at h;subst h;exact hl
 |i::is,l,st,h,hl=>by
  simp only[pickOps] at h
  split at h
  ·rename_i o l' h1 h2
   simp only[Option.some.injEq] at h;subst h
   show APlan E ops.toArray K (.take i (Plan.ofList is)) st
   rw[nthO_eq] at h1
   rw[aplan_take (o:=o) (by simpa using h1)]
   obtain⟨b,h3,h4,h5⟩:=hl
   exact⟨b,h3,fun hb=>aop_mono (h4 hb) fun s hs=>aplan_list h2 hs,fun hb=>aplan_list h2 (h5 hb)⟩
  ·simp at h
theorem AWP.regionAs{E:Env}{st:St}{id:Nat}{l:List Oper}{Q:Exit→St→Prop}(is:List Nat)(anc:List (List Nat))(ds:List Tmp)(hm:E.P.follows .mixedOrders=true)
 (hx:(listedOK l.toArray anc&&planOK E.P l.toArray anc true (Plan.ofList is) (Array.replicate l.toArray.size false) l.toArray.size)=true) (hd:ds.Nodup) {l':List Oper} (hl:pickOps l is=some l') (h:AList E l.toArray l' (st.keep ds) (Done (Q .normal))):AWP E (.region id l.toArray true) Q st:=
 AWP.regionAny (Plan.ofList is) anc ds hm hx hd (aplan_list hl h)
theorem b_beq_true(b:Bool):(b==true)=b:=by cases b<;>rfl
theorem b_beq_false(b:Bool):(b==false)=!b:=by cases b<;>rfl
attribute [go_sem] b_beq_true b_beq_false Option.getD_some Option.getD_none List.getElem?_nil Nat.succ_eq_add_one
def AGet{α:Type}(f:Option α)(p:α→Prop):Prop:=∃y,f=some y∧p y
@[congr] theorem AGet.congr{α:Type}{f g:Option α}{p:α→Prop}(h:f=g):AGet f p=AGet g p:=by rw[h]
@[go_sem] theorem AGet.some{α:Type}{a:α}{p:α→Prop}:AGet (some a) p=p a:=by simp[AGet]
@[go_sem] theorem AGet.none{α:Type}{p:α→Prop}:AGet (none:Option α) p=False:=by simp[AGet]
@[go_sem ↓] theorem to_get{α:Type}{f:Option α}{p:α→Prop}:(∃y,f=Option.some y∧p y)=AGet f p:=rfl
def AGet2{α:Type}(f:Option (Option α))(p:α→Prop):Prop:=∃y,f=some (some y)∧p y
@[congr] theorem AGet2.congr{α:Type}{f g:Option (Option α)}{p:α→Prop}(h:f=g):AGet2 f p=AGet2 g p:=by rw[h]
@[go_sem] theorem AGet2.some{α:Type}{a:α}{p:α→Prop}:AGet2 (some (some a)) p=p a:=by simp[AGet2]
@[go_sem ↓] theorem to_get2{α:Type}{f:Option (Option α)}{p:α→Prop}:(∃y,f=Option.some (Option.some y)∧p y)=AGet2 f p:=rfl
theorem nn_int{k:IntKind}{n:Int}:(AV.v (.int k n)=AV.v .nilIface)=False:=by simp
theorem nn_bool{b:Bool}:(AV.v (.bool b)=AV.v .nilIface)=False:=by simp
theorem nn_str{s:ByteArray}:(AV.v (.string s)=AV.v .nilIface)=False:=by simp
theorem nn_agg{cs:List AV}:(AV.agg cs=AV.v .nilIface)=False:=by simp
theorem nn_nilS:(AV.nilS=AV.v .nilIface)=False:=by simp
theorem nn_sl{t:Option Nat}{k:Nat}{es:List AV}:(AV.sl t k es=AV.v .nilIface)=False:=by simp
theorem nn_iface{t:TypeId}{v:Value}:(AV.v (.iface t v)=AV.v .nilIface)=False:=by simp
theorem nn_ptr{i j k:Nat}:(AV.ptr i j k=AV.v .nilIface)=False:=by simp
theorem ex_const{x:Value}:(∃z,Operand.const x=Operand.const z)=True:=by simp
theorem ex_some2{α:Type}{a:α}{p:α→Prop}:(∃y,some (some a)=some (some y)∧p y)↔p a:=by simp
@[go_sem] theorem ex_any{α:Type}{a:α}:(∃y,some a=some y)=True:=by simp
theorem AStore_eq{P:Program}{t:TypeId}{id idx off:Nat}{x:AV}{st:St}{K:St→Prop}:AStore P t (.ptr id idx off) x st K↔
 ∃n,tsz P t=some n∧∃es,st.own[id]?=some (some es)∧∃e,es[idx]?=some e∧x.plain=true∧x.leaves.all AV.leafy=true∧x.leaves.length=n∧off+n≤e.leaves.length∧
  K { st with own:=st.own.set id (some (es.set idx (stEl e off x))) }:=by
 constructor
 ·rintro⟨n,es,e,h1,h2,h3,h4⟩;exact⟨n,h1,es,h2,e,h3,h4⟩
 ·rintro⟨n,h1,es,h2,e,h3,h4⟩;exact⟨n,es,e,h1,h2,h3,h4⟩
attribute [go_sem] aggD AConvO nn_int nn_bool nn_str nn_agg nn_nilS nn_sl nn_iface nn_ptr ex_const ex_some2 AStore_eq Bool.not_not Nat.reduceEqDiff Nat.reduceMul Int.reduceToNat Int.reduceLE Int.reduceLT Nat.reduceLeDiff Int.cast_ofNat_Int
 Nat.one_ne_zero Int.reduceNeg Nat.succ_ne_zero Int.reduceEq Int.reduceNe Bool.false_eq_true Bool.true_eq_false Int.reduceAdd Int.reduceSub Int.zero_le_ofNat Int.toNat_zero Nat.zero_mul Nat.mul_one Nat.zero_le Nat.reduceLT
 Bool.not_eq_true' Bool.not_eq_false'
end Go.Abs
namespace Go.Abs
open Go Go.RowKit
def havoc:List Nat→List AV→List AV
 |[],l=>l
 |i::is,l=>havoc is (l.set i .any)
def putsL:List (Nat×AV)→List AV→List AV
 |[],l=>l
 |p::ps,l=>putsL ps (l.set p.1 p.2)
def St.at(st:St)(hv:List Nat)(ps:List (Nat×AV))(own:List (Option (List AV)))(tk:List Nat):St:={ st with tmps:=putsL ps (havoc hv st.tmps),own:=own,tk:=tk }
theorem AWP.loopH{E:Env}{Q:Exit→St→Prop}{st:St}{ι:Type}{c:Code}(hv:List Nat)(ps:ι→List (Nat×AV))(I:ι→Prop)(μ:ι→Nat)(i:ι)
 (hw0:st.Wk (st.at hv (ps i) st.own st.tk)) (hI:I i)
 (round:∀i,I i→AWP E c (AThen (fun s'=>∃j,s'.Wk (st.at hv (ps j) st.own st.tk)∧I j∧μ j<μ i) Q) (st.at hv (ps i) st.own st.tk)):AWP E (.loop c) Q st:=
 AWP.loopS (fun i=>st.at hv (ps i) st.own st.tk) I μ i hw0 hI round
theorem AWP.loopO{E:Env}{Q:Exit→St→Prop}{st:St}{ι:Type}{c:Code}(hv:List Nat)(ps:ι→List (Nat×AV))(own:ι→List (Option (List AV)))(tk:ι→List Nat)(I:ι→Prop)(μ:ι→Nat)(i:ι)
 (hw0:st.Wk (st.at hv (ps i) (own i) (tk i))) (hI:I i)
 (round:∀i,I i→AWP E c (AThen (fun s'=>∃j,s'.Wk (st.at hv (ps j) (own j) (tk j))∧I j∧μ j<μ i) Q) (st.at hv (ps i) (own i) (tk i))):AWP E (.loop c) Q st:=
 AWP.loopS (fun i=>st.at hv (ps i) (own i) (tk i)) I μ i hw0 hI round
theorem wkT_nil{no nt:Nat}:WkT no nt [] []=True:=rfl
theorem wkT_cons{no nt:Nat}{x y:AV}{xs ys:List AV}:WkT no nt (x::xs) (y::ys)=((y= .any∨(y=x∧x.bel no nt=true))∧WkT no nt xs ys):=rfl
theorem wkO_nil{no nt:Nat}{xs:List (Option (List AV))}:WkO no nt xs []=True:=by cases xs<;>rfl
theorem wkO_cons{no nt:Nat}{x y:Option (List AV)}{xs ys:List (Option (List AV))}:WkO no nt (x::xs) (y::ys)=((y=none∨(y=x∧∀es,x=some es→∀e∈es,∀z∈e.leaves,z.bel no nt=true))∧WkO no nt xs ys):=rfl
theorem wkK_nil{xs:List Nat}:WkK xs []=True:=by cases xs<;>rfl
theorem wkK_cons{x y:Nat}{xs ys:List Nat}:WkK (x::xs) (y::ys)=(y=x∧WkK xs ys):=rfl
theorem wkB_same{no nt:Nat}{x:List AV}:(∀es,some x=some es→∀e∈es,∀z∈e.leaves,z.bel no nt=true)=(x.all fun e=>e.leaves.all fun z=>z.bel no nt):=by
 simp[List.all_eq_true]
theorem wkB_none{no nt:Nat}:(∀es,(none:Option (List AV))=some es→∀e∈es,∀z∈e.leaves,z.bel no nt=true)=True:=by simp
attribute [go_sem] St.at havoc putsL St.Wk wkT_nil wkT_cons wkO_nil wkO_cons wkK_nil wkK_cons wkB_same wkB_none true_or or_true AV.bel AV.bel1 AV.bel2 Bool.and_self
theorem bif_bool{c a b:Bool}:(bif c then AV.v (.bool a) else AV.v (.bool b))=AV.v (.bool (bif c then a else b)):=by cases c<;>rfl
theorem bif_false{c a:Bool}:(bif c then a else false)=(c&&a):=by cases c<;>rfl
theorem bif_true{c b:Bool}:(bif c then true else b)=(c||b):=by cases c<;>rfl
attribute [go_sem] bif_bool bif_false bif_true Bool.and_false Bool.false_and Bool.or_true Bool.true_or Bool.or_false Bool.false_or
theorem wrap64_id{x:Int}(h1:-9223372036854775808≤x)(h2:x≤9223372036854775807):IntKind.i64.wrap x=x:=by
 rw[IntKind.wrap_i64];omega
end Go.Abs
namespace Go.Abs
open Go Go.RowKit Go.ChangeShapes
section
variable{H:Type}{enc:TypeId×Value→H}{P:Program}
theorem trodAll_below(hl:laidOutB P=true){W W':World}(hB:Go.RowKit.Below W.heap.size W W'):∀{ts:List TypeId} {vs:List Value} {ds:List (DataW H)} {ps:List MemPlace},
 (ts.all fun t=>P.readableRec t&&decide (t<P.types.size))=true→(∀x∈ps,x.block<W.heap.size)→DataW.TrodAll enc P W 0 (fun _=>true) true ts vs ds ps→
 DataW.TrodAll enc P W' 0 (fun b=>decide (b<W.heap.size)) true ts vs ds ps
 |[],[],[],ps,_,_,h=>h
 |t::ts,v::vs,d::ds,ps,hr,hlt,h=>by
  obtain⟨p,q,h1,h2,rfl⟩:=h
  simp only[List.all_cons,Bool.and_eq_true,decide_eq_true_eq] at hr
  exact⟨p,q,Go.RowKit.Below.trod hl hr.1.1 hr.1.2 h1 hB (fun x hx=>hlt x (List.mem_append_left _ hx)),trodAll_below hl hB hr.2 (fun x hx=>hlt x (List.mem_append_right _ hx)) h2,rfl⟩
 |[],_::_,_,_,_,_,h=>by cases h
 |[],[],_::_,_,_,_,h=>by cases h
 |_::_,[],_,_,_,_,h=>by cases h
 |_::_,_::_,[],_,_,_,h=>by cases h
theorem law_post{f:Func}{s:ChangeSpec}{apart fresh:Bool}{W W':World}{args:Array Value}{ds gs:List (DataW H)}{before:List MemPlace}{tb:TypeId}
 (hl:laidOutB P=true) (hr:(f.params.toList.all fun t=>P.readableRec t&&decide (t<P.types.size))=true) (hv:s.vars=[]) (ht:f.resultTypes= #[tb]) (hb:P.underlying tb=some .bool)
 (hW:DataW.Whole enc P f.params.toList s.vars apart W args.toList ds gs before) (hB:Go.RowKit.Below W.heap.size W W') (hfn:s.fn H (ds++gs)={ results:=[.lit (.bool true)],args:=ds,vars:=gs }):
 s.post enc P f apart fresh false false W args (.bool true) W':=by
 have hW':=hW
 obtain⟨p,q,hA,hV,rfl,_,_⟩:=hW
 rw[hv] at hV
 obtain⟨rfl,rfl⟩:=trodVars_none hV
 refine⟨ds,[],p++[],[],p,[],hW',?_,?_,?_,hB.frame _,fun h=>by cases h⟩
 ·rw[hfn,ht]
  exact⟨[],[],shut_bool hb true,rfl,rfl⟩
 ·rw[hfn]
  exact trodAll_below hl hB hr (fun x hx=>hW'.lt x (by simpa using hx)) hA
 ·rw[hfn]
  rw[hv];rfl
end
end Go.Abs
namespace Go.Abs
open Go Go.RowKit Go.ChangeShapes Go.WideShapes
def imOf(w:World):Im:=fun b o=>w.cell? ⟨b,o,none⟩
structure Leafs(im:Im)(ls:List AV)(cs:List Value):Prop where
 len:cs.length=ls.length
 at':∀(i:Nat) (x:AV) (v:Value),ls[i]?=some x→cs[i]?=some v→VR0 im x v∧v.oneCell'=true∧x.leaves=[x]
def Reads{H:Type}(enc:TypeId×Value→H)(P:Program)(t:TypeId)(k:Nat)(S:List AV→Prop):Prop:=
 ∀(w:World) (base:Nat) (spare:Nat→Bool) (held:Bool) (fuel:Nat) (cs:List Value) (x:DataW H×List MemPlace),DataW.trod enc P w base spare held fuel t cs=some x→∃ls,S ls∧ls.length=k∧Leafs (imOf w) ls cs
section
variable{H:Type}{enc:TypeId×Value→H}{P:Program}{t:TypeId}
theorem Leafs.one{im:Im}{x:AV}{v:Value}(h:VR0 im x v)(h1:v.oneCell'=true)(h2:x.leaves=[x]):Leafs im [x] [v]:=by
 refine⟨rfl,fun i y u e1 e2=>?_⟩
 cases i with
 |zero=>simp only[List.getElem?_cons_zero,Option.some.injEq] at e1 e2;subst e1;subst e2;exact⟨h,h1,h2⟩
 |succ i=>simp at e1
theorem reads_int{kd:IntKind}(ht:P.underlying t=some (.int kd)):Reads enc P t 1 fun ls=>∃n,(Lit.int kd n).wf=true∧ls=[.v (.int kd n)]:=fun w base spare held fuel cs x h=>by
 obtain⟨n,rfl,_,hw⟩:=DataW.trod_int ht h
 exact⟨_,⟨n,hw,rfl⟩,rfl,.one (.v _) rfl rfl⟩
theorem reads_bool(ht:P.underlying t=some .bool):Reads enc P t 1 fun ls=>∃b:Bool,ls=[bl b]:=fun w base spare held fuel cs x h=>by
 obtain⟨b,rfl,_⟩:=DataW.trod_bool ht h
 exact⟨_,⟨b,rfl⟩,rfl,.one (.v _) rfl rfl⟩
theorem reads_string(ht:P.underlying t=some .string):Reads enc P t 1 fun ls=>∃l:List UInt8,l.length≤maxLen∧ls=[str l]:=fun w base spare held fuel cs x h=>by
 obtain⟨s,rfl,_,hw⟩:=DataW.trod_string ht h
 have e:(⟨s.data.toList.toArray⟩:ByteArray)=s:=by cases s;simp
 refine⟨[str s.data.toList],⟨s.data.toList,by simpa using hw,rfl⟩,rfl,.one ?_ rfl rfl⟩
 have h0:VR0 (imOf w) (.v (.string s)) (.string s):= .v _
 rw[←e] at h0 ⊢
 simpa using h0
def elOf:Bool→List AV→AV
 |true,ls=> .agg ls
 |false,ls=>ls.headD .any
theorem elOf_leaves{ag:Bool}{ls:List AV}{im:Im}{cs:List Value}(h:Leafs im ls cs)(hk:ag=false→ls.length=1):(elOf ag ls).leaves=ls:=by
 cases ag with
 |true=>rfl
 |false=>
  obtain⟨x,rfl⟩:∃x,ls=[x]:=by
   cases ls with
   |nil=>simp at hk
   |cons x l=>cases l with
    |nil=>exact⟨x,rfl⟩
    |cons=>simp at hk
  have hc:∃v,cs=[v]:=by
   have:=h.len
   cases cs with
   |nil=>simp at this
   |cons v l=>cases l with
    |nil=>exact⟨v,rfl⟩
    |cons=>simp at this
  obtain⟨v,rfl⟩:=hc
  exact(h.at' 0 x v rfl rfl).2.2
theorem gather{α:Type}{Q:Nat→α→Prop}:∀(n:Nat),(∀i,i<n→∃p,Q i p)→∃L:List α,L.length=n∧∀(i:Nat) (p:α),L[i]?=some p→Q i p
 |0,_=>⟨[],rfl,by simp⟩
 |m+1,h=>by
  obtain⟨L,hL,hL2⟩:=gather m (fun i hi=>h i (by omega))
  obtain⟨q,g⟩:=h m (by omega)
  refine⟨L++[q],by simp[hL],fun i p hp=>?_⟩
  rcases getElem?_app' _ _ _ _ hp with⟨_,hp⟩|⟨hi,hp⟩
  ·exact hL2 i p hp
  ·have:i=m:=by
    have:=(List.getElem?_eq_some_iff.1 hp).1
    simp at this
    omega
   subst this
   rw[hL] at hp
   simp at hp
   subst hp
   exact g
theorem reads_slice{e:TypeId}{k:Nat}{S:List AV→Prop}(ag:Bool)(ht:P.underlying t=some (.slice e))(hc:P.cellsOf e=k)(hk:0<k)(hag:ag=false→k=1)(he:Reads enc P e k S):
 Reads enc P t 1 fun ls=>ls=[.nilS]∨∃es:List AV,es.length≤maxLen∧(∀x∈es,∃l,S l∧x=elOf ag l)∧ls=[.sl none k es]:=fun w base spare held fuel cs x h=>by
 rcases DataW.trod_slice ht h with⟨rfl,_⟩|⟨a,len,cap,elems,rest,n,_,rfl,_,hb,hl,hm,hlen,hel,_⟩
 ·exact⟨_,.inl rfl,rfl,.one .nilS rfl rfl⟩
 ·
  have h1:∀i,i<len→∃ls cs,S ls∧ls.length=k∧Leafs (imOf w) ls cs∧∀j,j<k→w.cell? ((a.add (i*k)).add j)=cs[j]?:=fun i hi=>by
   have h2:=hel i hi
   rw[hc] at h2
   have h3:i<elems.length:=by omega
   rw[List.getElem?_eq_getElem h3] at h2
   cases hcs:w.cells? base (a.add (i*k)) k with
   |none=>rw[hcs] at h2;simp at h2
   |some cs=>
    rw[hcs] at h2
    obtain⟨ls,g1,g2,g3⟩:=he w base spare held n cs _ h2
    exact⟨ls,cs,g1,g2,g3,(World.cells?_some hcs).2.2⟩
  have h4:=gather (Q:=fun i p=>S p.1∧p.1.length=k∧Leafs (imOf w) p.1 p.2∧∀j,j<k→w.cell? ((a.add (i*k)).add j)=p.2[j]?) len (fun i hi=>let⟨ls,cs,g⟩:=h1 i hi;⟨(ls,cs),g⟩)
  obtain⟨L,hL,hL2⟩:=h4
  refine⟨[.sl none k (L.map fun p=>elOf ag p.1)],.inr ⟨_,by simp[hL];omega,?_,rfl⟩,rfl,.one ?_ rfl rfl⟩
  ·intro x hx
   obtain⟨p,hp,rfl⟩:=List.mem_map.1 hx
   obtain⟨i,hi⟩:=List.mem_iff_getElem?.1 hp
   exact⟨p.1,(hL2 i p hi).1,rfl⟩
  ·have hln:∀(i:Nat) (p:List AV×List Value),L[i]?=some p→(elOf ag p.1).leaves=p.1:=fun i p hp=>elOf_leaves (hL2 i p hp).2.2.1 (fun e=>by rw[(hL2 i p hp).2.1];exact hag e)
   by_cases h0:len=0
   ·have hnil:L=[]:=List.eq_nil_of_length_eq_zero (by omega)
    subst hnil;subst h0
    exact .sl0 k (some a) cap
   ·
    have hspot:a.spot=none:=by
     obtain⟨p,hp⟩:∃p,L[0]?=some p:=⟨L[0]'(by omega),List.getElem?_eq_getElem _⟩
     obtain⟨_,g2,g3,g4⟩:=hL2 0 p hp
     have g5:=g4 0 hk
     have g6:0<p.2.length:=by rw[g3.len,g2];exact hk
     rw[List.getElem?_eq_getElem g6] at g5
     have:=World.cell?_spot g5
     simpa[Addr.add] using this
    obtain⟨b,off,spot⟩:=a
    simp only at hspot;subst hspot
    have:=VR0.sl (im:=imOf w) k (L.map fun p=>elOf ag p.1) b off cap (fun i j=>(((L[i]?).bind fun p=>p.2[j]?).getD undef)) (by simp[hL];exact hl) ?_ ?_ ?_ ?_
    ·simpa[hL] using this
    ·intro i e he
     rw[List.getElem?_map] at he
     cases hp:L[i]? with
     |none=>simp[hp] at he
     |some p=>simp only[hp,Option.map_some,Option.some.injEq] at he;subst he;rw[hln i p hp];exact(hL2 i p hp).2.1
    all_goals
     intro i e j c he hc'
     rw[List.getElem?_map] at he
     cases hp:L[i]? with
     |none=>simp[hp] at he
     |some p=>
      simp only[hp,Option.map_some,Option.some.injEq] at he;subst he
      rw[hln i p hp] at hc'
      obtain⟨_,g2,g3,g4⟩:=hL2 i p hp
      have hj:j<k:=by rw[←g2];exact(List.getElem?_eq_some_iff.1 hc').1
      have hj2:j<p.2.length:=by rw[g3.len];exact(List.getElem?_eq_some_iff.1 hc').1
      have g5:=g4 j hj
      rw[List.getElem?_eq_getElem hj2] at g5
      have g6:=g3.at' j c _ hc' (List.getElem?_eq_getElem hj2)
      simp only[Option.bind_some,List.getElem?_eq_getElem hj2,Option.getD_some]
      first
       |exact g6.1
       |exact g6.2.1
       |(have e1:(Addr.add ⟨b,off,none⟩ (i*k)).add j=⟨b,off+i*k+j,none⟩:=by rw[add_plain,add_plain]
         rw[e1] at g5;exact g5)
theorem Leafs.app{im:Im}{a b:List AV}{cs ds:List Value}(h:Leafs im a cs)(k:Leafs im b ds):Leafs im (a++b) (cs++ds):=by
 refine⟨by simp[h.len,k.len],fun i x v h1 h2=>?_⟩
 rcases getElem?_app' _ _ _ _ h1 with⟨l1,h1⟩|⟨l1,h1⟩
 ·rw[List.getElem?_append_left (by rw[h.len];exact l1)] at h2
  exact h.at' i x v h1 h2
 ·rw[List.getElem?_append_right (by rw[h.len];exact l1),h.len] at h2
  exact k.at' _ x v h1 h2
def ReadsF{H:Type}(enc:TypeId×Value→H)(P:Program)(fl:List Field)(off:Nat)(S:List AV→Prop)(total:Nat):Prop:=
 ∀(w:World) (base:Nat) (spare:Nat→Bool) (held:Bool) (n:Nat) (cs:List Value),cs.length=total→
  (∀f∈fl,∃y,DataW.trod enc P w base spare held n f.type ((cs.drop f.offset).take (P.cellsOf f.type))=some y)→∃ls,S ls∧ls.length+off=total∧Leafs (imOf w) ls (cs.drop off)
theorem readsF_nil(total:Nat):ReadsF enc P [] total (fun ls=>ls=[]) total:=fun w base spare held n cs hl _=>
 ⟨[],rfl,by simp,by rw[List.drop_eq_nil_of_le (by omega)];exact⟨rfl,by simp⟩⟩
theorem readsF_cons{f:Field}{fl:List Field}{off k total:Nat}{Sf Sr:List AV→Prop}(hf:Reads enc P f.type k Sf)(hc:P.cellsOf f.type=k)(ho:f.offset=off)(hr:ReadsF enc P fl (off+k) Sr total):
 ReadsF enc P (f::fl) off (fun ls=>∃a b,Sf a∧Sr b∧ls=a++b) total:=fun w base spare held n cs hl h=>by
 obtain⟨y,hy⟩:=h f (List.mem_cons_self ..)
 rw[ho,hc] at hy
 obtain⟨a,a1,a2,a3⟩:=hf w base spare held n _ y hy
 obtain⟨b,b1,b2,b3⟩:=hr w base spare held n cs hl (fun g hg=>h g (List.mem_cons_of_mem _ hg))
 refine⟨a++b,⟨a,b,a1,b1,rfl⟩,by simp;omega,?_⟩
 have e:cs.drop off=(cs.drop off).take k++cs.drop (off+k):=by rw[←List.drop_drop,List.take_append_drop]
 rw[e]
 exact a3.app b3
theorem reads_struct{fs:Array Field}{fl:List Field}{S:List AV→Prop}{total:Nat}(ht:P.underlying t=some (.struct fs))(hl:fs.toList=fl)(hc:P.cellsOf t=total)(h:ReadsF enc P fl 0 S total):Reads enc P t total S:=fun w base spare held fuel cs x hx=>by
 obtain⟨xs,n,_,_,h1,h2,h3⟩:=DataW.trod_struct ht hx
 subst hl
 obtain⟨ls,g1,g2,g3⟩:=h w base spare held n cs (h1.trans hc) (fun f hf=>by
  obtain⟨i,hi⟩:=List.mem_iff_getElem?.1 hf
  have hi2:fs[i]?=some f:=by simpa using hi
  have hlt:i<xs.length:=by rw[h2];exact(Array.getElem?_eq_some_iff.1 hi2).1
  exact⟨xs[i],by rw[h3 i f hi2,List.getElem?_eq_getElem hlt]⟩)
 exact⟨ls,g1,by omega,by simpa using g3⟩
section
variable{w:World}{base:Nat}{spare:Nat→Bool}{held:Bool}{r:Reach}{b0:Nat}{v:Value}{d:DataW H}{ps:List MemPlace}
theorem arg_one{S:List AV→Prop}(hc:v.cells.toList=[v])(hR:Reads enc P t 1 S)(hd:DataW.Trod enc P w base spare held t v d ps):∃x,S [x]∧VR0 (imOf w) x v:=by
 obtain⟨fuel,hf⟩:=hd
 rw[hc] at hf
 obtain⟨ls,h1,h2,h3⟩:=hR _ _ _ _ _ _ _ hf
 obtain⟨x,rfl⟩:∃x,ls=[x]:=by
  cases ls with
  |nil=>simp at h2
  |cons x l=>cases l with
   |nil=>exact⟨x,rfl⟩
   |cons=>simp at h2
 exact⟨x,h1,(h3.at' 0 x v rfl rfl).1⟩
theorem arg_slice{e:TypeId}{k:Nat}{S:List AV→Prop}(ag:Bool)(ht:P.underlying t=some (.slice e))(hc:P.cellsOf e=k)(hk:0<k)(hag:ag=false→k=1)(he:Reads enc P e k S)
 (hv:Value.okWide P w r b0 t v) (hd:DataW.Trod enc P w base spare held t v d ps):∃x,VR0 (imOf w) x v∧(x= .nilS∨∃es:List AV,es.length≤maxLen∧(∀y∈es,∃l,S l∧y=elOf ag l)∧x= .sl none k es):=by
 obtain⟨a0,len,cap,rfl⟩:=okWide_slice ht hv
 obtain⟨x,h2,h3⟩:=arg_one (by simp[Value.cells]) (reads_slice ag ht hc hk hag he) hd
 refine⟨x,h3,?_⟩
 rcases h2 with h2|⟨es,h4,h5,h2⟩<;>simp only[List.cons.injEq,and_true] at h2
 ·exact .inl h2
 ·exact .inr ⟨es,h4,h5,h2⟩
theorem arg_struct{fs:Array Field}{k:Nat}{S:List AV→Prop}(ht:P.underlying t=some (.struct fs))(hR:Reads enc P t k S)(hv:Value.okWide P w r b0 t v)(hd:DataW.Trod enc P w base spare held t v d ps):∃ls,S ls∧VR0 (imOf w) (.agg ls) v:=by
 obtain⟨cs,rfl,hsz⟩:=okWide_struct ht hv
 obtain⟨fuel,hf⟩:=hd
 obtain⟨ls,h1,h2,h3⟩:=hR _ _ _ _ _ _ _ hf
 refine⟨ls,h1,?_⟩
 have:=VR0.agg (im:=imOf w) ls cs.toList (by simpa[Value.cells] using h3.len) (fun i c u e1 e2=>(h3.at' i c u e1 (by simpa[Value.cells] using e2)).1)
 simpa using this
end
end
theorem pw0_nil{im:Im}:Pw0 im [] []:=⟨rfl,by simp⟩
theorem pw0_cons{im:Im}{x:AV}{v:Value}{xs:List AV}{vs:List Value}(h:VR0 im x v)(k:Pw0 im xs vs):Pw0 im (x::xs) (v::vs):=by
 refine⟨by simp[k.1],fun i y u h1 h2=>?_⟩
 cases i with
 |zero=>simp only[List.getElem?_cons_zero,Option.some.injEq] at h1 h2;subst h1;subst h2;exact h
 |succ i=>exact k.2 i y u (by simpa using h1) (by simpa using h2)
theorem calls_law{E:Env}{f:FuncId}{xs:List AV}{args:Array Value}{W:World}(hok:E.ok W)(hg:GOK E (imOf W))(h:ACalls E f xs fun r t=>r=bl true∧t=[])(hp:Pw0 (imOf W) xs args.toList):
 Calls E.P f args W fun e W'=>e= .returned (.bool true)∧Go.RowKit.Below W.heap.size W W':=by
 have:=h W (imOf W) args.toList hok hg (fun b o x e=>e) hp
 refine(show Calls E.P f args.toList.toArray W _ from this).mono ?_
 rintro e W' ⟨v,r,tks,im',rfl,hB,_,_,_,_,hv,rfl,_⟩
 cases hv.inv_v
 exact⟨rfl,hB.toBelow⟩
end Go.Abs
namespace Go.Abs
open Go Go.RowKit
theorem map_take'{α β:Type}{f:α→β}{l:List α}{n:Nat}:(l.map f).take n=(l.take n).map f:=List.map_take.symm
theorem map_drop'{α β:Type}{f:α→β}{l:List α}{n:Nat}:(l.map f).drop n=(l.drop n).map f:=List.map_drop.symm
theorem map_app'{α β:Type}{f:α→β}{l m:List α}:l.map f++m.map f=(l++m).map f:=List.map_append.symm
theorem map_len{α β:Type}{f:α→β}{l:List α}:(l.map f).length=l.length:=List.length_map f
theorem map_get{α β:Type}{f:α→β}{l:List α}{i:Nat}:(l.map f)[i]?=(l[i]?).map f:=List.getElem?_map
theorem u8_at(b:UInt8):u8 b= .v (.int .u8 b.toNat):=rfl
theorem app_lit{l:List UInt8}{n:Int}(h0:0≤n)(h1:n<256):l.map u8++[.v (.int .u8 n)]=(l++[UInt8.ofNat n.toNat]).map u8:=by
 rw[List.map_append]
 congr 1
 have:((UInt8.ofNat n.toNat).toNat:Int)=n:=by simp;omega
 simp only[List.map_cons,List.map_nil,u8_at,this]
theorem app_u8{l:List UInt8}{b:UInt8}:l.map u8++[.v (.int .u8 b.toNat)]=(l++[b]).map u8:=by
 rw[List.map_append];rfl
theorem ba_eq{A B:List UInt8}:((⟨A.toArray⟩:ByteArray)=⟨B.toArray⟩)=(A=B):=by
 simp only[ByteArray.mk.injEq,eq_iff_iff]
 exact⟨fun h=>by simpa using h,fun h=>by rw[h]⟩
theorem ba_list{A:List UInt8}:(⟨A.toArray⟩:ByteArray).data.toList=A:=rfl
theorem AGet.nth{α β:Type}{l:List α}{i:Nat}{f:α→β}{p:β→Prop}(h:i<l.length)(hp:∀b,l[i]?=Option.some b→p (f b)):AGet ((l[i]?).map f) p:=by
 obtain⟨b,hb⟩:∃b,l[i]?=Option.some b:=⟨_,List.getElem?_eq_getElem h⟩
 exact⟨f b,by rw[hb];rfl,hp b hb⟩
theorem AGet.nth1{β:Type}{l:List β}{i:Nat}{p:β→Prop}(h:i<l.length)(hp:∀b,l[i]?=Option.some b→p b):AGet (l[i]?) p:=by
 obtain⟨b,hb⟩:∃b,l[i]?=Option.some b:=⟨_,List.getElem?_eq_getElem h⟩
 exact⟨b,hb,hp b hb⟩
theorem arr_get{A:List UInt8}{i:Nat}:(A.toArray)[i]?=A[i]?:=by simp
theorem toNat_cast{n:Nat}:((n:Int)).toNat=n:=rfl
theorem nn_cast{n:Nat}:(0≤(n:Int))=True:=by simp
section
variable{E:Env}{ops:Array Oper}{d:Option Tmp}{l:List Oper}{st:St}{K:St→Prop}
@[go_sem] theorem AV1.get{α:Type}{o:Option α}{F:α→(AV→Prop)→Prop}:AV1 (fun k=>AGet o fun y=>F y k) E ops d l st K=AGet o (fun y=>AV1 (F y) E ops d l st K):=rfl
@[go_sem] theorem AV2.get{α:Type}{o:Option α}{F:α→(St→AV→Prop)→Prop}:AV2 (fun k=>AGet o fun y=>F y k) E ops d l K=AGet o (fun y=>AV2 (F y) E ops d l K):=rfl
@[go_sem] theorem AV3.get{α:Type}{o:Option α}{F:α→(St→Prop)→Prop}:AV3 (fun k=>AGet o fun y=>F y k) E ops d l K=AGet o (fun y=>AV3 (F y) E ops d l K):=rfl
end
attribute [go_sem] map_take' map_drop' map_app' map_len map_get u8_at app_lit app_u8 ba_eq ba_list arr_get toNat_cast nn_cast List.length_append List.length_map Option.map_some Option.map_none
section
variable{E:Env}{f:FuncId}{R:AV→List Nat→Prop}
theorem pw0_vals{im:Im}:∀{xs vs:List Value},Pw0 im (xs.map .v) vs→vs=xs
 |[],vs,h=>List.eq_nil_of_length_eq_zero (by simpa using h.1)
 |x::xs,vs,h=>by
  cases vs with
  |nil=>have:=h.1;simp at this
  |cons v vs=>
   have h0:=h.2 0 (.v x) v rfl rfl
   cases h0
   have:=pw0_vals (im:=im) (xs:=xs) (vs:=vs) ⟨by have:=h.1;simpa using this,fun i y u h1 h2=>h.2 (i+1) y u (by simpa using h1) (by simpa using h2)⟩
   rw[this]
theorem ACalls.of_pure{xs:List Value}{S:Value→Prop}(h:∀w,E.ok w→Calls E.P f xs.toArray w fun e w'=>(∃v,e= .returned v∧S v)∧w'=w)(hR:∀v,S v→∃r,(∀im,VR0 im r v)∧R r []):ACalls E f (xs.map .v) R:=by
 intro w im vs hok hg him hpw
 rw[pw0_vals hpw]
 refine(h w hok).mono ?_
 rintro e w' ⟨⟨v,rfl,hs⟩,rfl⟩
 obtain⟨r,h1,h2⟩:=hR v hs
 exact⟨v,r,[],im,rfl,Below.refl _ _,.refl _,fun _ _ _=>rfl,him,⟨by simp,by simp⟩,.base (h1 im),h2⟩
theorem ACalls.of_below{xs:List Value}{S:Value→Prop}(h:∀w,E.ok w→Calls E.P f xs.toArray w fun e w'=>(∃v,e= .returned v∧S v)∧Below E.dr w.heap.size w w')(hR:∀v,S v→∃r,(∀im,VR0 im r v)∧R r []):ACalls E f (xs.map .v) R:=by
 intro w im vs hok hg him hpw
 rw[pw0_vals hpw]
 refine(h w hok).mono ?_
 rintro e w' ⟨⟨v,rfl,hs⟩,hb⟩
 obtain⟨r,h1,h2⟩:=hR v hs
 refine⟨v,r,[],im,rfl,hb,.refl _,fun _ _ _=>rfl,fun b o x hx=>?_,⟨by simp,by simp⟩,.base (h1 im),h2⟩
 have:=him b o x hx
 rw[←this]
 exact cell_of_block (hb.block b (World.block_lt_of_cell? w ⟨b,o,none⟩ this)) o
end
end Go.Abs
namespace Go.Abs
open Go Go.RowKit
end Go.Abs
namespace Go.Abs
open Go Go.RowKit
end Go.Abs
namespace Go.Abs
theorem AGet.have'{α:Type}{o:Option α}{b:α}{p:α→Prop}(h:o=Option.some b)(hp:p b):AGet o p:=⟨b,h,hp⟩
theorem AGet.haveM{α β:Type}{o:Option α}{b:α}{f:α→β}{p:β→Prop}(h:o=Option.some b)(hp:p (f b)):AGet (o.map f) p:=⟨f b,by rw[h];rfl,hp⟩
end Go.Abs
namespace Go.Abs
open Go Go.RowKit
def AAppTo(s:AV)(k n:Nat)(xs:List AV)(st:St)(K:St→AV→Prop):Prop:=
 match s with
  |.sl (some tk) q es=>q=k∧st.tk[tk]?=some es.length∧es.length+xs.length≤4611686018427387904∧(es.length+xs.length)*n≤140737488355328∧
    K { st with tk:=st.tk.set tk (es.length+xs.length) } (.sl (some tk) k (es++xs))
  |.nilS=>xs.length≤4611686018427387904∧xs.length*n≤140737488355328∧K { st with tk:=st.tk++[xs.length] } (.sl (some st.tk.length) k xs)
  |.mu id q off len cap=>q=k∧off=0∧xs≠[]∧len+xs.length≤4611686018427387904∧(len+xs.length)*n≤140737488355328∧
    AGet2 st.own[id]? fun l=>len≤l.length∧cap=l.length∧
    ∀m,K { st with own:=st.own.set id none++[some (l.take len++xs++spare k m)] } (.mu st.own.length k 0 (len+xs.length) (len+xs.length+m))
  |_=>False
@[go_sem] theorem AAppend_eq{P:Program}{t tx:TypeId}{s x:AV}{st:St}{K:St→AV→Prop}:AAppend P t tx s x st K =
   (srcTy P tx=true∧AGet (appInfo P t) fun p=>AGet (ASrc x p.2.1) fun xs=>AAppTo s p.2.1 p.2.2 xs st K):=by
 simp only[AAppend,AGet,AAppTo,eq_iff_iff]
 constructor
 ·rintro⟨h0,e,k,n,xs,h1,h2,h3⟩;exact⟨h0,(e,k,n),h1,xs,h2,h3⟩
 ·rintro⟨h0,⟨e,k,n⟩,h1,xs,h2,h3⟩;exact⟨h0,e,k,n,xs,h1,h2,h3⟩
attribute [go_sem] AAppTo
end Go.Abs
namespace Go.Abs
open Go Go.RowKit
@[go_sem] theorem AMkSlice_eq{P:Program}{t:TypeId}{len:Nat}{ps:List (Nat×AV)}{st:St}{K:St→AV→Prop}:AMkSlice P t len ps st K =
   (AGet (appInfo P t) fun p=>ps.length=len∧idxFrom 0 ps=true∧len*p.2.1≤16777216∧AGet (cleanAll p.2.1 ps) fun ys=>K { st with tk:=st.tk++[ys.length] } (.sl (some st.tk.length) p.2.1 ys)):=by
 simp only[AMkSlice,AGet,eq_iff_iff]
 constructor
 ·rintro⟨e,k,n,ys,h1,h2,h3,h4,h5,h6⟩;exact⟨(e,k,n),h1,h2,h3,h4,ys,h5,h6⟩
 ·rintro⟨⟨e,k,n⟩,h1,h2,h3,h4,ys,h5,h6⟩;exact⟨e,k,n,ys,h1,h2,h3,h4,h5,h6⟩
end Go.Abs
namespace Go.Abs
open Go Go.RowKit
@[go_sem] theorem ASlice_str{P:Program}{t:TypeId}{s:ByteArray}{lo hi:Option AV}{k:AV→Prop}:ASlice P t (.v (.string s)) lo hi k =
   (P.underlying t=some .string∧AGet (bnd lo 0) fun l=>AGet (bnd hi s.data.toList.length) fun h=>0≤l∧l≤h∧h≤(s.data.toList.length:Int)∧k (.v (.string ⟨(cutL lo hi s.data.toList).toArray⟩))):=by
 simp only[ASlice,AGet,eq_iff_iff]
 constructor
 ·rintro⟨h0,l,h,h1,h2,h3⟩;exact⟨h0,l,h1,h,h2,h3⟩
 ·rintro⟨h0,l,h1,h,h2,h3⟩;exact⟨h0,l,h,h1,h2,h3⟩
@[go_sem] theorem ASlice_sl{P:Program}{t:TypeId}{t':Option Nat}{q:Nat}{es:List AV}{lo hi:Option AV}{k:AV→Prop}:ASlice P t (.sl t' q es) lo hi k =
   ((∃e,P.underlying t=some (.slice e)∧tsz P e=some q)∧AGet (bnd lo 0) fun l=>AGet (bnd hi es.length) fun h=>0≤l∧l≤h∧h≤(es.length:Int)∧k (.sl (loTok lo t') q (cutL lo hi es))):=by
 simp only[ASlice,AGet,eq_iff_iff]
 constructor
 ·rintro⟨h0,l,h,h1,h2,h3⟩;exact⟨h0,l,h1,h,h2,h3⟩
 ·rintro⟨h0,l,h1,h,h2,h3⟩;exact⟨h0,l,h,h1,h2,h3⟩
@[go_sem] theorem ASlice_nil{P:Program}{t:TypeId}{lo hi:Option AV}{k:AV→Prop}:ASlice P t .nilS lo hi k =
   ((∃e n,P.underlying t=some (.slice e)∧tsz P e=some n)∧bnd lo 0=some 0∧bnd hi 0=some 0∧k .nilS):=rfl
@[go_sem] theorem ASlice_mu{P:Program}{t:TypeId}{id q off len cap:Nat}{lo hi:Option AV}{k:AV→Prop}:ASlice P t (.mu id q off len cap) lo hi k =
   ((∃e n,P.underlying t=some (.slice e)∧tsz P e=some n)∧lo=none∧AGet (bnd hi len) fun h=>0≤h∧h≤(len:Int)∧k (.mu id q off h.toNat cap)):=rfl
@[go_sem] theorem ASlice_rptr{P:Program}{t:TypeId}{cs:List AV}{lo hi:Option AV}{k:AV→Prop}:ASlice P t (.rptr cs) lo hi k =
   (∃L e,P.underlying t=some (.array L e)∧tsz P e=some 1∧lo=none∧AGet (bnd hi L) fun h=>0≤h∧h≤(cs.length:Int)∧h≤(L:Int)∧(∀c∈cs,c.leaves=[c])∧k (.sl none 1 (cs.take h.toNat))):=rfl
theorem ex_slice{e:TypeId}{p:TypeId→Prop}:(∃x,some (TypeDesc.slice e)=some (TypeDesc.slice x)∧p x)=p e:=by simp
theorem ex_slice2{e:TypeId}{p:TypeId→Nat→Prop}:(∃x n,some (TypeDesc.slice e)=some (TypeDesc.slice x)∧p x n)=∃n,p e n:=by simp
theorem pair_eta{α β:Type}{p:α×β}:(p.1,p.2)=p:=rfl
attribute [go_sem] pair_eta ex_slice ex_slice2
end Go.Abs
namespace Go.Abs
open Go Go.RowKit
section
variable{P:Program}{t:TypeId}{k:Bool→Prop}
@[go_sem] theorem AEq_bool{a b:Bool}:AEq P t (.v (.bool a)) (.v (.bool b)) k=(P.underlying t=some .bool∧k (decide (a=b))):=rfl
@[go_sem] theorem AEq_nn:AEq P t .nilS .nilS k=((∃e,P.underlying t=some (.slice e))∧k true):=rfl
@[go_sem] theorem AEq_sn{x:Option Nat}{y:Nat}{es:List AV}:AEq P t (.sl x y es) .nilS k=((∃e,P.underlying t=some (.slice e))∧∀b,(es≠[]→b=false)→k b):=rfl
@[go_sem] theorem AEq_ns{x:Option Nat}{y:Nat}{es:List AV}:AEq P t .nilS (.sl x y es) k=((∃e,P.underlying t=some (.slice e))∧∀b,(es≠[]→b=false)→k b):=rfl
@[go_sem] theorem AEq_mn{i x y z u:Nat}:AEq P t (.mu i x y z u) .nilS k=((∃e,P.underlying t=some (.slice e))∧∀b,(z≠0→b=false)→k b):=rfl
@[go_sem] theorem AEq_ii:AEq P t (.v .nilIface) (.v .nilIface) k=((∃ms,P.underlying t=some (.interface ms))∧k true):=rfl
@[go_sem] theorem AEq_fi{x:TypeId}{y:Value}:AEq P t (.v (.iface x y)) (.v .nilIface) k=((∃ms,P.underlying t=some (.interface ms))∧k false):=rfl
@[go_sem] theorem AEq_agg{xs ys:List AV}:AEq P t (.agg xs) (.agg ys) k=(AGet (flatKinds P t) fun ks=>AGet (aggEq ks xs ys) k):=by
 simp only[AEq,AGet,eq_iff_iff]
 constructor
 ·rintro⟨ks,b,h1,h2,h3⟩;exact⟨ks,h1,b,h2,h3⟩
 ·rintro⟨ks,h1,b,h2,h3⟩;exact⟨ks,b,h1,h2,h3⟩
end
end Go.Abs
namespace Go.Abs
theorem dD:(∀(p:Prop) [Decidable p],(decide p=true)=p)∧(∀(p:Prop) [Decidable p],(decide p=false)=¬p)∧(∀b:Bool,((!b)=true)=(b=false))∧(∀b:Bool,((!b)=false)=(b=true))∧
 (∀a b:Bool,((a||b)=true)=(a=true∨b=true))∧(∀a b:Bool,((a&&b)=true)=(a=true∧b=true))∧(∀a b:Bool,((a||b)=false)=(a=false∧b=false))∧
 (∀a b:Bool,((a&&b)=false)=(a=true→b=false))∧((!true)=false)∧((!false)=true)∧((true=false)=False)∧((false=true)=False)∧(∀(α:Type) (a b:α),(a≠b)=¬(a=b)):=
 ⟨fun p _=>by simp,fun p _=>by simp,by decide,by decide,by decide,by decide,by decide,by decide,rfl,rfl,by simp,by simp,fun _ _ _=>rfl⟩
end Go.Abs
namespace Go.Abs
open Go Go.RowKit
def AInPost(P:Program)(rs:List ResultVar)(st:St)(K:St→AV→Prop):Exit→St→Prop
 |.normal,s|.ret,s=>s.up=st.tmps++st.up∧ARes P s rs fun l=>K { s with tmps:=st.tmps,up:=st.up } (tupOf l)
 |_,_=>False
def AWPL(E:Env)(ops:Array Oper)(l:List Oper)(Q:Exit→St→Prop)(st:St):Prop:=
 ∀(w0:World) (im0:Base) (cx:Ctx) (a:Act) (w:World),E.ok w0→GOB E im0→Rel w0 im0 cx st a w→wpList E.P ops (fun e a' w'=>Hands w0 im0 (Q e) a' w') l a w
section
variable{E:Env}{Q:Exit→St→Prop}{st:St}{ops:Array Oper}{l l1 l2:List Oper}
theorem AWP.regionL{id:Nat}(h:AWPL E l.toArray l Q st):AWP E (.region id l.toArray false) Q st:=fun w0 im0 cx a w h0 hG r=>wp_region_lit (h w0 im0 cx a w h0 hG r)
theorem AWPL.of(h:AList E ops l st (Q .normal)):AWPL E ops l Q st:=fun w0 im0 cx a w h0 hG r=>alist_sound h0 hG (K:=Q .normal) (fun _ _ hh=>hh) l r h
theorem alist_app{w0:World}{im0:Base}(h0:E.ok w0)(hG:GOB E im0){K:St→Prop}{R:Exit→Act→World→Prop}(hQ:∀a w,Hands w0 im0 K a w→wpList E.P ops R l2 a w):
 ∀(l:List Oper) {c:Ctx} {st:St} {a:Act} {w:World},Rel w0 im0 c st a w→AList E ops l st K→wpList E.P ops R (l++l2) a w
 |[],c,st,a,w,r,h=>hQ _ _ ⟨c,st,r,h⟩
 |o::rest,c,st,a,w,r,h=>by
  obtain⟨q,hq,h1,h2⟩:=h
  have hw:=want_ok r hq
  rw[List.cons_append]
  refine wpList_step (fun K' hK'=>?_)
  cases q with
  |true=>
   rw[if_pos hw]
   refine Oper.wp_mono (fun a' w' hh=>?_) (aop_sound (Q:=R) h0 hG r (h1 rfl))
   obtain⟨c',st',r',h'⟩:=hh
   exact hK' _ _ (alist_app h0 hG hQ rest r' h')
  |false=>
   rw[if_neg (by rw[hw];exact Bool.false_ne_true)]
   exact hK' _ _ (alist_app h0 hG hQ rest (r.put o.dst (.base (.v undef))) (h2 rfl))
theorem AWPL.app(h:AList E ops l1 st (AWPL E ops l2 Q)):AWPL E ops (l1++l2) Q st:=fun w0 im0 cx a w h0 hG r=>
 alist_app h0 hG (K:=AWPL E ops l2 Q) (fun a' w' hh=>by obtain⟨c,s,r',k⟩:=hh;exact k w0 im0 c a' w' h0 hG r') l1 r h
theorem AWPL.call{g:FuncId}{fn:Func}{body:Code}{n:Nat}{rs:List ResultVar}{caps:List AV}{dst:Option Tmp}{f:Operand}{xs:Array Operand}{tys:Array TypeId}{ty:TypeId}{pos:String}{after:Array Edge}
 (hf:E.P.funcs[g]?=some fn) (hb:fn.body=some body) (hn:fn.ntmps=n) (hr:fn.results.toList=rs) (hc:callable E.P g=true) (he:st.ev f= .fn g caps) (hrsv:st.rsv=none)
 (h:AWP E body (AInPost E.P rs st fun s z=>AWPL E ops l Q (s.put dst z)) { st with tmps:=(xs.toList.map st.ev++caps)++List.replicate (n-(xs.toList.map st.ev++caps).length) (.v undef),up:=st.tmps++st.up }):
 AWPL E ops (⟨dst,.call ⟨.value f,xs,tys⟩,ty,pos,after,none⟩::l) Q st:=by
 intro w0 im0 cx a w h0 hG r
 subst hn;subst hr
 refine wpList_step (fun K' hK'=>?_)
 have hw:Region.wanted ⟨dst,.call ⟨.value f,xs,tys⟩,ty,pos,after,none⟩ (yielded ops a.tmps)=true:=rfl
 rw[if_pos hw]
 have hv:=r.ev f
 rw[he] at hv
 obtain⟨us,hfe,hnu,hpu⟩:=hv.inv_fn
 have hargs:Pw cx (xs.toList.map st.ev++caps) (xs.toList.map a.eval++us):=by
  refine⟨by simp[hnu],fun i x v h1 h2=>?_⟩
  rcases getElem?_app _ _ _ _ h1 with⟨l1,h1⟩|⟨l1,h1⟩
  ·rw[List.getElem?_append_left (by simpa using l1)] at h2
   rw[List.getElem?_map] at h1 h2
   cases hc:xs.toList[i]? with
   |none=>simp[hc] at h1
   |some z=>simp only[hc,Option.map_some,Option.some.injEq] at h1 h2;subst h1;subst h2;exact r.ev z
  ·rw[List.getElem?_append_right (by simpa using l1)] at h2
   have:(xs.toList.map a.eval).length=(xs.toList.map st.ev).length:=by simp
   rw[this] at h2
   exact hpu _ _ _ h1 h2
 have hrun:(execOp a.eval ⟨dst,.call ⟨.value f,xs,tys⟩,ty,pos,after,none⟩).run E.P w= .ok (.enter g (xs.toList.map a.eval++us).toArray) w:=by
  unfold callable at hc
  simp only[hf,Bool.and_eq_true,Bool.not_eq_true'] at hc
  obtain⟨hn1,hn2⟩:=hc
  have hbn:fn.body.isNone=false:=by rw[hb];rfl
  have harr:Array.map a.eval xs++us.toArray=(xs.toList.map a.eval++us).toArray:=by
   apply Array.ext'
   simp
  have he':a.eval f= .func (.func g) #[] us.toArray:=hfe
  simp only[execOp,resolve,he',Deferred.ofValue,Sem.run_bind,Sem.run_pure,Result.andThen_ok,invoke,callFunc,run_program,hf,hn1,Bool.false_eq_true,if_false,hbn,Array.empty_append,harr]
 unfold Oper.wp
 rw[hrun]
 simp only[Oper.upon]
 generalize hvs:xs.toList.map a.eval++us=vs at *
 generalize hys:xs.toList.map st.ev++caps=ys at *
 have hrel:Rel w0 ⟨im0.im,a.tmps.toList++im0.ex,im0.dr⟩ cx { st with tmps:=ys++List.replicate (fn.ntmps-ys.length) (.v undef),up:=st.tmps++st.up } { tmps:=vs.toArray++Array.replicate (fn.ntmps-vs.toArray.size) undef,defers:=[] } w:=by
  refine⟨⟨rfl,r.defers.2⟩,by simp[hargs.1],?_,r.below,r.imle,r.imold,r.imok,r.ownlen,r.own,r.tklen,r.tail,r.tok,r.apart,r.glob,⟨?_,?_⟩,r.hole⟩
  ·intro i x v h1 h2
   rcases getElem?_app _ _ _ _ h1 with⟨l1,h1⟩|⟨l1,h1⟩
   ·have:i<vs.length:=by rw[hargs.1];exact l1
    rw[Array.getElem?_append_left (by simpa using this)] at h2
    exact hargs.2 i x v h1 (by simpa using h2)
   ·have hlen:vs.length=ys.length:=hargs.1
    rw[Array.getElem?_append_right (by simp;omega)] at h2
    have e1:x= .v undef:=by
     have:=List.mem_of_getElem? h1
     simp only[List.mem_replicate] at this
     exact this.2
    have e2:v=undef:=by
     have:=Array.mem_of_getElem? h2
     simp only[Array.mem_replicate] at this
     exact this.2
    subst e1;subst e2
    exact .base (.v _)
  ·show(a.tmps.toList++im0.ex).length=(st.tmps++st.up).length
   rw[List.length_append,List.length_append,r.up.1,Array.length_toList,r.size]
  ·intro i x v h1 h2
   have h1:(st.tmps++st.up)[i]?=some x:=h1
   have h2:(a.tmps.toList++im0.ex)[i]?=some v:=h2
   rcases getElem?_app _ _ _ _ h1 with⟨l1,h1⟩|⟨l1,h1⟩
   ·rw[List.getElem?_append_left (by rw[Array.length_toList,r.size];exact l1)] at h2
    exact r.tmps i x v h1 (by simpa using h2)
   ·rw[List.getElem?_append_right (by rw[Array.length_toList,r.size];exact l1),Array.length_toList,r.size] at h2
    exact r.up.2 _ x v h1 h2
 have hsz:vs.toArray.size=vs.length:=by simp
 refine(calls_of_wp (R:=fun e w'=>∃v,e= .returned v∧K' (a.put dst v) w') hf hb ?_).mono ?_
 ·refine wp_mono (h w0 ⟨im0.im,a.tmps.toList++im0.ex,im0.dr⟩ _ _ w h0 hG hrel) fun e a' w' hh=>?_
  obtain⟨c',st',r',q⟩:=hh
  have fin:(st'.up=st.tmps++st.up∧ARes E.P st' fn.results.toList fun l'=>AWPL E ops l Q (St.put { st' with tmps:=st.tmps,up:=st.up } dst (tupOf l')))→
   a'.defers=[]∧∃v,(results fn a'.tmps).run E.P w'= .ok v w'∧∃v',Ending.returned v= .returned v'∧K' (a.put dst v') w':=by
   rintro⟨hup,q⟩
   obtain⟨l',us',h1,h2,h3⟩:=res_ok r' q
   refine⟨r'.defers.1,_,results_run h1,_,rfl,hK' _ _ ?_⟩
   have hup1:=r'.up.1
   have hup2:=r'.up.2
   rw[hup] at hup1 hup2
   have hup2':∀(i:Nat) (x:AV) (v:Value),(st.tmps++st.up)[i]?=some x→(a.tmps.toList++im0.ex)[i]?=some v→VR c' x v:=hup2
   have rb:Rel w0 im0 c' { st' with tmps:=st.tmps,up:=st.up } a w':=by
    refine⟨r.defers,r.size,fun i x v e1 e2=>?_,r'.below,r'.imle,r'.imold,r'.imok,r'.ownlen,r'.own,r'.tklen,r'.tail,r'.tok,r'.apart,r'.glob,⟨r.up.1,fun i x v e1 e2=>?_⟩,r'.hole⟩
    ·have e1:st.tmps[i]?=some x:=e1
     have hlt:i<st.tmps.length:=(List.getElem?_eq_some_iff.1 e1).1
     refine hup2' i x v ?_ ?_
     ·rw[List.getElem?_append_left hlt];exact e1
     ·rw[List.getElem?_append_left (by rw[Array.length_toList,r.size];exact hlt)];simpa using e2
    ·have e1:st.up[i]?=some x:=e1
     refine hup2' (st.tmps.length+i) x v ?_ ?_
     ·rw[List.getElem?_append_right (by omega)]
      rw[Nat.add_sub_cancel_left];exact e1
     ·rw[List.getElem?_append_right (by rw[Array.length_toList,r.size];omega),Array.length_toList,r.size,Nat.add_sub_cancel_left];exact e2
   refine h3 w0 im0 c' _ w' h0 hG (rb.put dst ?_)
   cases l' with
   |nil=>
    have:us'=[]:=List.eq_nil_of_length_eq_zero h2.1
    subst this
    exact .tup [] [] rfl (by simp)
   |cons x l'=>cases l' with
    |nil=>
     cases us' with
     |nil=>have:=h2.1;simp at this
     |cons u us'=>
      have:us'=[]:=List.eq_nil_of_length_eq_zero (by have:=h2.1;simpa using this)
      subst this
      exact h2.2 0 x u rfl rfl
    |cons z l'=>
     have hl2:us'.length=(x::z::l').length:=h2.1
     rw[if_neg (by rw[hl2];simp)]
     exact .tup _ us' h2.1 h2.2
  cases e<;>simp only[AInPost] at q<;>first|exact q.elim|skip
  case normal=>exact fin q
  case ret=>exact fin q
 ·rintro e w' ⟨v,rfl,hk⟩;exact hk
end
end Go.Abs
namespace Go.Abs
open Go Go.RowKit
end Go.Abs
namespace Go.Abs
open Go Go.RowKit
section
variable{w0:World}{im0:Base}{c:Ctx}{st:St}{a:Act}{w:World}
def pubIm(im:Im)(w:World)(g n:Nat):Im:=fun b o=>if b=g then(if o<n then w.cell? ⟨g,o,none⟩ else none) else im b o
theorem Rel.publish(r:Rel w0 im0 c st a w){id g k:Nat}{es:List AV}(h1:c.β[id]?=some (some (g,k)))(h2:st.own[id]?=some (some es)){es':List AV}{n:Nat}(hes:es'=es.take n)(hc:∀e∈es',∀x∈e.leaves,x.clean1=some x):
 ∃c',c.le c'∧c'.β=c.β∧c'.tk=c.tk∧(∀o,es'.length*k≤o→c'.im g o=none)∧Rel w0 im0 c' { st with own:=st.own.set id none } a w∧∃cv:Nat→Nat→Value,
  (∀(i:Nat) (e:AV),es'[i]?=some e→e.leaves.length=k)∧
  (∀(i:Nat) (e:AV) (j:Nat) (y:AV),es'[i]?=some e→e.leaves[j]?=some y→c'.im g (i*k+j)=some (cv i j))∧
  (∀(i:Nat) (e:AV) (j:Nat) (y:AV),es'[i]?=some e→e.leaves[j]?=some y→(cv i j).oneCell'=true)∧
  ∀(i:Nat) (e:AV) (j:Nat) (y:AV),es'[i]?=some e→e.leaves[j]?=some y→VR0 c'.im y (cv i j):=by
 have ho:=r.own id g k es h1 h2
 obtain⟨cs,ty,lo,hi,hblk,_,hsz,hlv,hcell⟩:=ho.blk
 have hsub:∀(i:Nat) (e:AV),es'[i]?=some e→es[i]?=some e:=fun i e he=>by
  rw[hes,List.getElem?_take] at he
  split at he
  ·exact he
  ·simp at he
 have hle:c.im.le (pubIm c.im w g (es'.length*k)):=by
  intro b o v hv
  unfold pubIm
  rw[if_neg (fun e=>by subst e;rw[ho.im o] at hv;simp at hv)]
  exact hv
 have hcle:c.le ⟨c.β,c.tk,pubIm c.im w g (es'.length*k)⟩:=⟨fun _ _ h=>h,fun t T h=>⟨T,h,rfl,.inl rfl⟩,hle⟩
 have hgo:∀b o,b≠g→pubIm c.im w g (es'.length*k) b o=c.im b o:=fun b o hb=>by unfold pubIm;rw[if_neg hb]
 refine⟨⟨c.β,c.tk,pubIm c.im w g (es'.length*k)⟩,hcle,rfl,rfl,fun o ho'=>?_,?_,fun i j=>cs.getD (i*k+j) undef,fun i e he=>hlv i e (hsub i e he),?_,?_,?_⟩
 ·show pubIm c.im w g (es'.length*k) g o=none
  unfold pubIm
  rw[if_pos rfl,if_neg (by omega)]
 ·refine⟨r.defers,r.size,fun i x v e1 e2=>(r.tmps i x v e1 e2).mono hcle,r.below,r.imle.trans hle,fun b o hb=>?_,fun b o x hx=>?_,by simp[r.ownlen],fun i g' k' es2 e1 e2=>?_,r.tklen,r.tail,fun t T b e1 e2=>?_,?_,fun g' cs' h=>(r.glob g' cs' h).mono hle,⟨r.up.1,fun i x v e1 e2=>(r.up.2 i x v e1 e2).mono hcle⟩,r.hole⟩
  ·show pubIm c.im w g (es'.length*k) b o=_
   rw[hgo b o (fun e=>by have:=ho.new;omega)];exact r.imold b o hb
  ·have hx:pubIm c.im w g (es'.length*k) b o=some x:=hx
   unfold pubIm at hx
   split at hx
   ·rename_i hb;subst hb
    split at hx
    ·exact hx
    ·simp at hx
   ·exact r.imok b o x hx
  ·have e2:(st.own.set id none)[i]?=some (some es2):=e2
   rw[List.getElem?_set] at e2
   by_cases hi':id=i
   ·subst hi';rw[if_pos rfl] at e2;split at e2<;>simp at e2
   ·rw[if_neg hi'] at e2
    have hne:=r.apart.oo i id g' k' g k es2 es e1 h1 e2 h2 (Ne.symm hi')
    exact(r.own i g' k' es2 e1 e2).mono hcle (fun o=>by show pubIm c.im w g (es'.length*k) g' o=none;rw[hgo g' o hne];exact(r.own i g' k' es2 e1 e2).im o) rfl
  ·have ht:=r.tok t T b e1 e2
   have hne:=r.apart.ot id t g k es T b h1 h2 e1 e2
   exact⟨ht.new,ht.room,fun o ho'=>by show pubIm c.im w g (es'.length*k) b o=none;rw[hgo b o (Ne.symm hne)];exact ht.im o ho',ht.blk⟩
  ·have conv:∀{i:Nat} {e:List AV},(st.own.set id none)[i]?=some (some e)→st.own[i]?=some (some e):=by
    intro i e he
    rw[List.getElem?_set] at he
    by_cases hi':id=i
    ·subst hi';rw[if_pos rfl] at he;split at he<;>simp at he
    ·rw[if_neg hi'] at he;exact he
   exact⟨fun i j g1 k1 g2 k2 e1 e2 a1 a2 a3 a4 hij=>r.apart.oo i j g1 k1 g2 k2 e1 e2 a1 a2 (conv a3) (conv a4) hij,fun i t g1 k1 e1 T b a1 a2 a3 a4=>r.apart.ot i t g1 k1 e1 T b a1 (conv a2) a3 a4,r.apart.tt⟩
 ·intro i e j y he hy
  have hlt:i*k+j<es'.length*k:=idx_lt (lt_of_get he) (by rw[←hlv i e (hsub i e he)];exact lt_of_get hy)
  show pubIm c.im w g (es'.length*k) g (i*k+j)=_
  unfold pubIm
  rw[if_pos rfl,if_pos hlt]
  obtain⟨v,hv,_⟩:=hcell i e j y (hsub i e he) hy
  simp[World.cell?,hblk,hv,Array.getD_eq_getD_getElem?]
 ·intro i e j y he hy
  obtain⟨v,hv,_,h1⟩:=hcell i e j y (hsub i e he) hy
  simp only[Array.getD_eq_getD_getElem?,hv,Option.getD_some]
  rcases h1 with rfl|h1
  ·have:=hc e (List.mem_of_getElem? he) _ (List.mem_of_getElem? hy)
   simp[AV.clean1] at this
  ·exact h1
 ·intro i e j y he hy
  obtain⟨v,hv,hvr,h1⟩:=hcell i e j y (hsub i e he) hy
  simp only[Array.getD_eq_getD_getElem?,hv,Option.getD_some]
  exact((clean1_ok hvr (hc e (List.mem_of_getElem? he) y (List.mem_of_getElem? hy))).1).mono hle
end
section
variable{E:Env}{c:Code}{Q:Exit→St→Prop}{s:St}
theorem Rel.setTmp{w0:World}{im0:Base}{c:Ctx}{st:St}{a:Act}{w:World}(r:Rel w0 im0 c st a w){i:Nat}{y:AV}(h:∀v,a.tmps[i]?=some v→VR c y v):Rel w0 im0 c { st with tmps:=st.tmps.set i y } a w:=by
 refine⟨r.defers,by simp[r.size],fun j x v h1 h2=>?_,r.below,r.imle,r.imold,r.imok,r.ownlen,r.own,r.tklen,r.tail,r.tok,r.apart,r.glob,r.up,r.hole⟩
 have h1:(st.tmps.set i y)[j]?=some x:=h1
 rw[List.getElem?_set] at h1
 by_cases hj:i=j
 ·subst hj
  rw[if_pos rfl] at h1
  split at h1
  ·simp only[Option.some.injEq] at h1;subst h1;exact h v h2
  ·simp at h1
 ·rw[if_neg hj] at h1;exact r.tmps j x v h1 h2
theorem Rel.dropOwn{w0:World}{im0:Base}{c:Ctx}{st:St}{a:Act}{w:World}(r:Rel w0 im0 c st a w)(id:Nat):Rel w0 im0 c { st with own:=st.own.set id none } a w:=by
 have conv:∀{i:Nat} {e:List AV},(st.own.set id none)[i]?=some (some e)→st.own[i]?=some (some e):=by
  intro i e he
  rw[List.getElem?_set] at he
  by_cases hi':id=i
  ·subst hi';rw[if_pos rfl] at he;split at he<;>simp at he
  ·rw[if_neg hi'] at he;exact he
 exact⟨r.defers,r.size,r.tmps,r.below,r.imle,r.imold,r.imok,by simp[r.ownlen],fun i g k es h1 h2=>r.own i g k es h1 (conv h2),r.tklen,r.tail,r.tok,
  ⟨fun i j g1 k1 g2 k2 e1 e2 a1 a2 a3 a4 hij=>r.apart.oo i j g1 k1 g2 k2 e1 e2 a1 a2 (conv a3) (conv a4) hij,fun i t g1 k1 e1 T b a1 a2 a3 a4=>r.apart.ot i t g1 k1 e1 T b a1 (conv a2) a3 a4,r.apart.tt⟩,r.glob,r.up,r.hole⟩
theorem AWP.publish(i id:Nat)(e:AV)(hi:s.tmps[i]?=some (.ptr id 0 0))(ho:s.own[id]?=some (some [e]))(hc:∀x∈e.leaves,x.clean1=some x)
 (hw:AWP E c Q { s with tmps:=s.tmps.set i (.rptr e.leaves),own:=s.own.set id none }):AWP E c Q s:=by
 intro w0 im0 cx a w h0 hG r
 have hlt:i<a.tmps.size:=by rw[r.size];exact lt_of_get hi
 obtain⟨g,k,hb,hv⟩:=(r.tmps i _ _ hi (Array.getElem?_eq_getElem hlt)).inv_ptr
 obtain⟨c',hle,hβ,_,_,r',cv,_,hm,h1,hvr⟩:=r.publish (n:=1) hb ho rfl (fun x hx=>by simp at hx;subst hx;exact hc)
 refine hw w0 im0 c' a w h0 hG (r'.setTmp fun v hv'=>?_)
 rw[Array.getElem?_eq_getElem hlt,Option.some.injEq] at hv'
 rw[←hv',hv]
 have:=VR0.rptr (im:=c'.im) e.leaves g 0 (fun j=>cv 0 j) (fun j x hj=>by have:=hm 0 e j x rfl hj;simpa using this) (fun j x hj=>h1 0 e j x rfl hj) (fun j x hj=>hvr 0 e j x rfl hj)
 simpa using VR.base this
theorem AWP.publishSl(i id k cap:Nat)(es:List AV)(hi:s.tmps[i]?=some (.mu id k 0 es.length cap))(ho:s.own[id]?=some (some es))(hc:∀e∈es,∀x∈e.leaves,x.clean1=some x)
 (hw:AWP E c Q { s with tmps:=s.tmps.set i (.sl none k es),own:=s.own.set id none }):AWP E c Q s:=by
 intro w0 im0 cx a w h0 hG r
 have hlt:i<a.tmps.size:=by rw[r.size];exact lt_of_get hi
 rcases(r.tmps i _ _ hi (Array.getElem?_eq_getElem hlt)).inv_mu with⟨g,hb,hcap,hv⟩|⟨hz,_,hv⟩
 ·obtain⟨c',hle,hβ,_,_,r',cv,hl,hm,h1,hvr⟩:=r.publish (n:=es.length) hb ho (List.take_length).symm hc
  refine hw w0 im0 c' a w h0 hG (r'.setTmp fun v hv'=>?_)
  rw[Array.getElem?_eq_getElem hlt,Option.some.injEq] at hv'
  rw[←hv',hv]
  have:=VR0.sl (im:=c'.im) k es g (0*k) cap cv hcap hl (fun i e j x he hj=>by rw[Nat.zero_mul,Nat.zero_add];exact hm i e j x he hj) h1 hvr
  exact .base this
 ·have hes:es=[]:=List.eq_nil_of_length_eq_zero hz
  subst hes
  have r':=r.setTmp (i:=i) (y:= .sl none k []) fun v hv'=>by
   rw[Array.getElem?_eq_getElem hlt,Option.some.injEq] at hv'
   rw[←hv',hv];exact .base (.sl0 k none 0)
  exact hw w0 im0 cx a w h0 hG (r'.dropOwn id)
end
section
variable{E:Env}{c:Code}{Q:Exit→St→Prop}{s:St}
end
end Go.Abs
namespace Go.Abs
open Go Go.RowKit
section
variable{w0:World}{im0:Base}{c:Ctx}{st:St}{a:Act}{w:World}
end
end Go.Abs
namespace Go.Abs
open Go Go.RowKit
def AV.ren1(σ:Nat→Option Nat):AV→AV
 |.mu id k off n cap=>match σ id with|some j=> .mu j k off n cap|none=> .any
 |.ptr id i o=>match σ id with|some j=> .ptr j i o|none=> .any
 |.agg _=> .any
 |.tup _=> .any
 |.fn _ (_::_)=> .any
 |x=>x
def AV.ren2(σ:Nat→Option Nat):AV→AV
 |.agg cs=> .agg (cs.map (AV.ren1 σ))
 |.fn f cs=> .fn f (cs.map (AV.ren1 σ))
 |x=>x.ren1 σ
def AV.ren(σ:Nat→Option Nat):AV→AV
 |.tup cs=> .tup (cs.map (AV.ren2 σ))
 |x=>x.ren2 σ
def selAt(sel:List Nat)(id:Nat):Option Nat:=if id∈sel then some (sel.idxOf id) else none
theorem selAt_some{sel:List Nat}{id j:Nat}(h:selAt sel id=some j):sel[j]?=some id:=by
 unfold selAt at h
 split at h
 ·rename_i hm
  simp only[Option.some.injEq] at h;subst h
  rw[List.getElem?_eq_getElem (List.idxOf_lt_length_of_mem hm)]
  simp
 ·simp at h
def selβ(β:List (Option (Nat×Nat)))(sel:List Nat):List (Option (Nat×Nat)):=sel.map fun id=>(β[id]?).join
def selOwn(own:List (Option (List AV)))(sel:List Nat):List (Option (List AV)):=sel.map fun id=>((own[id]?).join).map (·.map (AV.ren (selAt sel)))
section
variable{w0:World}{im0:Base}{c:Ctx}{st:St}{a:Act}{w:World}{sel:List Nat}
theorem selβ_at{β:List (Option (Nat×Nat))}{i:Nat}{p:Nat×Nat}(h:(selβ β sel)[i]?=some (some p)):∃id,sel[i]?=some id∧β[id]?=some (some p):=by
 unfold selβ at h
 rw[List.getElem?_map] at h
 cases hs:sel[i]? with
 |none=>simp[hs] at h
 |some id=>
  simp only[hs,Option.map_some,Option.some.injEq] at h
  refine⟨id,rfl,?_⟩
  cases hb:β[id]? with
  |none=>simp[hb] at h
  |some q=>simp only[hb,Option.join_some] at h;rw[h]
theorem selβ_of{β:List (Option (Nat×Nat))}{i id:Nat}{p:Nat×Nat}(h1:sel[i]?=some id)(h2:β[id]?=some (some p)):(selβ β sel)[i]?=some (some p):=by
 unfold selβ
 rw[List.getElem?_map,h1]
 simp[h2]
theorem selOwn_at{own:List (Option (List AV))}{i:Nat}{es:List AV}(h:(selOwn own sel)[i]?=some (some es)):∃id es0,sel[i]?=some id∧own[id]?=some (some es0)∧es=es0.map (AV.ren (selAt sel)):=by
 unfold selOwn at h
 rw[List.getElem?_map] at h
 cases hs:sel[i]? with
 |none=>simp[hs] at h
 |some id=>
  simp only[hs,Option.map_some,Option.some.injEq] at h
  cases hb:own[id]? with
  |none=>simp[hb] at h
  |some q=>
   cases q with
   |none=>simp[hb] at h
   |some es0=>
    simp only[hb,Option.join_some,Option.map_some,Option.some.injEq] at h
    exact⟨id,es0,rfl,hb,h.symm⟩
abbrev selC(c:Ctx)(sel:List Nat):Ctx:=⟨selβ c.β sel,c.tk,c.im⟩
theorem VR.ren1{x:AV}{v:Value}(h:VR c x v):VR (selC c sel) (x.ren1 (selAt sel)) v:=by
 cases x with
 |any=>exact .base (.any _)
 |v x=>cases h.inv_v;exact .base (.v _)
 |agg cs=>exact .base (.any _)
 |tup cs=>exact .base (.any _)
 |nilS=>cases h.inv_nilS;exact .base .nilS
 |sl t k es=>
  cases t with
  |none=>exact .base h.sl_base
  |some t=>
   cases h with
   |base h=>cases h
   |tok hT h0 hk hle hcur=>exact .tok hT h0 hk hle hcur
 |mu id k off n cap=>
  simp only[AV.ren1]
  rcases h.inv_mu with⟨g,hb,hcap,rfl⟩|⟨rfl,rfl,rfl⟩
  ·cases hs:selAt sel id with
   |none=>exact .base (.any _)
   |some j=>exact .mu (selβ_of (selAt_some hs) hb) hcap
  ·cases hs:selAt sel id with
   |none=>exact .base (.any _)
   |some j=>exact .muN
 |ptr id i o=>
  simp only[AV.ren1]
  obtain⟨g,k,hb,rfl⟩:=h.inv_ptr
  cases hs:selAt sel id with
  |none=>exact .base (.any _)
  |some j=>exact .ptr (selβ_of (selAt_some hs) hb)
 |rptr cs=>obtain⟨b,o,rfl,h0⟩:=h.rptr_pt;exact .base h0
 |fn f cs=>
  cases cs with
  |nil=>
   obtain⟨vs,rfl,hn,_⟩:=h.inv_fn
   have:vs=[]:=List.eq_nil_of_length_eq_zero (by simpa using hn)
   subst this
   exact .base (.fn f [] [] rfl (by simp))
  |cons=>exact .base (.any _)
theorem VR.renL{cs:List AV}{vs:List Value}{f:AV→AV}{d:Ctx}(hf:∀x v,VR c x v→VR d (f x) v)(hp:∀(i:Nat) (x:AV) (u:Value),cs[i]?=some x→vs[i]?=some u→VR c x u):∀(i:Nat) (x:AV) (u:Value),(cs.map f)[i]?=some x→vs[i]?=some u→VR d x u:=fun i x u h1 h2=>by
 rw[List.getElem?_map] at h1
 cases hc:cs[i]? with
 |none=>simp[hc] at h1
 |some z=>simp only[hc,Option.map_some,Option.some.injEq] at h1;subst h1;exact hf _ _ (hp i z u hc h2)
theorem VR.ren2{x:AV}{v:Value}(h:VR c x v):VR (selC c sel) (x.ren2 (selAt sel)) v:=by
 cases x with
 |agg cs=>
  obtain⟨vs,rfl,hn,hp⟩:=h.inv_agg
  exact .agg _ vs (by simp[hn]) (VR.renL (fun _ _ h=>h.ren1) hp)
 |fn f cs=>
  obtain⟨vs,rfl,hn,hp⟩:=h.inv_fn
  exact .fn f _ vs (by simp[hn]) (VR.renL (fun _ _ h=>h.ren1) hp)
 |_=>exact h.ren1
theorem VR.ren{x:AV}{v:Value}(h:VR c x v):VR (selC c sel) (x.ren (selAt sel)) v:=by
 cases x with
 |tup cs=>
  obtain⟨vs,rfl,hn,hp⟩:=h.inv_tup
  exact .tup _ vs (by simp[hn]) (VR.renL (fun _ _ h=>h.ren2) hp)
 |_=>exact h.ren2
theorem ren_leaves(e:AV)(σ:Nat→Option Nat):(e.ren σ).leaves.length=e.leaves.length∧∀(j:Nat) (y:AV),(e.ren σ).leaves[j]?=some y→∃x,e.leaves[j]?=some x∧(y=x.ren1 σ∨y=x.ren σ):=by
 cases e with
 |agg cs=>
  refine⟨by simp[AV.ren,AV.ren2,AV.leaves],fun j y h=>?_⟩
  simp only[AV.ren,AV.ren2,AV.leaves,List.getElem?_map] at h
  cases hc:cs[j]? with
  |none=>simp[hc] at h
  |some z=>simp only[hc,Option.map_some,Option.some.injEq] at h;exact⟨z,hc,.inl h.symm⟩
 |mu id k off n cap=>
  have hl:(AV.ren σ (.mu id k off n cap)).leaves=[AV.ren σ (.mu id k off n cap)]:=by simp only[AV.ren,AV.ren2,AV.ren1];cases σ id<;>rfl
  rw[hl]
  refine⟨rfl,fun j y h=>?_⟩
  cases j with
  |zero=>simp only[List.getElem?_cons_zero,Option.some.injEq] at h;exact⟨_,rfl,.inr h.symm⟩
  |succ j=>simp at h
 |ptr id i o=>
  have hl:(AV.ren σ (.ptr id i o)).leaves=[AV.ren σ (.ptr id i o)]:=by simp only[AV.ren,AV.ren2,AV.ren1];cases σ id<;>rfl
  rw[hl]
  refine⟨rfl,fun j y h=>?_⟩
  cases j with
  |zero=>simp only[List.getElem?_cons_zero,Option.some.injEq] at h;exact⟨_,rfl,.inr h.symm⟩
  |succ j=>simp at h
 |fn f cs=>
  refine⟨rfl,fun j y h=>?_⟩
  cases j with
  |zero=>simp only[AV.ren,AV.ren2,AV.leaves,List.getElem?_cons_zero,Option.some.injEq] at h;exact⟨_,rfl,.inr h.symm⟩
  |succ j=>simp[AV.ren,AV.ren2,AV.leaves] at h
 |_=>
  refine⟨rfl,fun j y h=>?_⟩
  cases j with
  |zero=>simp only[AV.ren,AV.ren2,AV.ren1,AV.leaves,List.getElem?_cons_zero,Option.some.injEq] at h;exact⟨_,rfl,.inr h.symm⟩
  |succ j=>simp[AV.ren,AV.ren2,AV.ren1,AV.leaves] at h
theorem Rel.norm(r:Rel w0 im0 c st a w)(sel:List Nat)(hnd:sel.Nodup)(hrsv:st.rsv=none)(hup:st.up.map (AV.ren (selAt sel))=st.up):
 Rel w0 im0 (selC c sel) { st with tmps:=st.tmps.map (AV.ren (selAt sel)),own:=selOwn st.own sel } a w:=by
 have inj:∀{i j id:Nat},sel[i]?=some id→sel[j]?=some id→i=j:=fun{i j id} h1 h2=>by
  have hi:=lt_of_get h1
  have hj:=lt_of_get h2
  rw[List.getElem?_eq_getElem hi,Option.some.injEq] at h1
  rw[List.getElem?_eq_getElem hj,Option.some.injEq] at h2
  have hp:=List.pairwise_iff_getElem.1 hnd
  rcases Nat.lt_trichotomy i j with h|h|h
  ·exact absurd (h1.trans h2.symm) (hp i j hi hj h)
  ·exact h
  ·exact absurd (h2.trans h1.symm) (hp j i hj hi h)
 refine⟨r.defers,by simp[r.size],fun i x v h1 h2=>VR.renL (d:=selC c sel) (vs:=a.tmps.toList) (fun _ _ h=>h.ren) (fun i x u e1 e2=>r.tmps i x u e1 (by simpa using e2)) i x v h1 (by simpa using h2),r.below,r.imle,r.imold,r.imok,by simp[selβ,selOwn],fun i g k es h1 h2=>?_,r.tklen,r.tail,r.tok,⟨fun i j g1 k1 g2 k2 e1 e2 a1 a2 a3 a4 hij=>?_,fun i t g1 k1 e1 T b a1 a2 a3 a4=>?_,r.apart.tt⟩,r.glob,⟨r.up.1,fun i x v h1 h2=>?_⟩,fun l d i h1=>by rw[hrsv] at h1;simp at h1⟩
 ·obtain⟨id,hs,hb⟩:=selβ_at h1
  obtain⟨id',es0,hs',ho,rfl⟩:=selOwn_at h2
  rw[hs,Option.some.injEq] at hs';subst hs'
  obtain⟨hnew,him,cs,ty,lo,hi,hblk,hfr,hsz,hlv,hcell⟩:=r.own id g k es0 hb ho
  refine⟨hnew,him,cs,ty,lo,hi,hblk,hfr,by rw[List.length_map];exact hsz,fun i e he=>?_,fun i e j y he hy=>?_⟩
  ·rw[List.getElem?_map] at he
   cases hc:es0[i]? with
   |none=>simp[hc] at he
   |some z=>simp only[hc,Option.map_some,Option.some.injEq] at he;subst he;rw[(ren_leaves z _).1];exact hlv i z hc
  ·rw[List.getElem?_map] at he
   cases hc:es0[i]? with
   |none=>simp[hc] at he
   |some z=>
    simp only[hc,Option.map_some,Option.some.injEq] at he;subst he
    obtain⟨x,hx,hyx⟩:=(ren_leaves z _).2 j y hy
    obtain⟨v,hv,hvr,h1⟩:=hcell i z j x hc hx
    refine⟨v,hv,?_,?_⟩
    ·rcases hyx with rfl|rfl
     ·exact hvr.ren1
     ·exact hvr.ren
    ·rcases h1 with rfl|h1
     ·rcases hyx with rfl|rfl<;>exact .inl rfl
     ·exact .inr h1
 ·obtain⟨id,hs,hb⟩:=selβ_at a1
  obtain⟨jd,hs2,hb2⟩:=selβ_at a2
  obtain⟨id',es0,hs',ho,rfl⟩:=selOwn_at a3
  obtain⟨jd',es2,hs2',ho2,rfl⟩:=selOwn_at a4
  rw[hs,Option.some.injEq] at hs';subst hs'
  rw[hs2,Option.some.injEq] at hs2';subst hs2'
  exact r.apart.oo id jd g1 k1 g2 k2 es0 es2 hb hb2 ho ho2 (fun e=>hij (by subst e;exact inj hs hs2))
 ·obtain⟨id,hs,hb⟩:=selβ_at a1
  obtain⟨id',es0,hs',ho,rfl⟩:=selOwn_at a2
  rw[hs,Option.some.injEq] at hs';subst hs'
  exact r.apart.ot id t g1 k1 es0 T b hb ho a3 a4
 ·have h3:(st.up.map (AV.ren (selAt sel)))[i]?=some x:=by rw[hup];exact h1
  exact VR.renL (d:=selC c sel) (fun _ _ h=>h.ren) r.up.2 i x v h3 h2
theorem Rel.addNil(r:Rel w0 im0 c st a w):c.le ⟨c.β++[none],c.tk,c.im⟩∧Rel w0 im0 ⟨c.β++[none],c.tk,c.im⟩ { st with own:=st.own++[some []] } a w:=by
 have hle:c.le ⟨c.β++[none],c.tk,c.im⟩:=⟨fun i p h=>by
  show(c.β++[none])[i]?=some (some p)
  rw[List.getElem?_append_left (lt_of_get h)];exact h,fun t T h=>⟨T,h,rfl,.inl rfl⟩,.refl _⟩
 have hβ:∀{i:Nat} {p:Nat×Nat},(c.β++[none])[i]?=some (some p)→i<st.own.length∧c.β[i]?=some (some p):=fun{i p} h=>by
  rcases getElem?_snoc _ _ _ _ h with⟨hl,h⟩|⟨_,h⟩
  ·exact⟨by rw[←r.ownlen];exact hl,h⟩
  ·simp at h
 have ho:∀{i:Nat} {e:List AV},i<st.own.length→(st.own++[some []])[i]?=some (some e)→st.own[i]?=some (some e):=fun{i e} hi h=>by
  rw[List.getElem?_append_left hi] at h;exact h
 exact⟨hle,r.defers,r.size,fun i x v e1 e2=>(r.tmps i x v e1 e2).mono hle,r.below,r.imle,r.imold,r.imok,by simp[r.ownlen],fun i g' k' es' e1 e2=>by
  obtain⟨hi,e1⟩:=hβ e1
  have:=r.own i g' k' es' e1 (ho hi e2)
  exact this.mono hle this.im rfl,r.tklen,r.tail,r.tok,
  ⟨fun i j g1 k1 g2 k2 e1 e2 a1 a2 a3 a4 hij=>by
    obtain⟨hi,a1⟩:=hβ a1
    obtain⟨hj,a2⟩:=hβ a2
    exact r.apart.oo i j g1 k1 g2 k2 e1 e2 a1 a2 (ho hi a3) (ho hj a4) hij,fun i t g1 k1 e1 T b a1 a2 a3 a4=>by
    obtain⟨hi,a1⟩:=hβ a1
    exact r.apart.ot i t g1 k1 e1 T b a1 (ho hi a2) a3 a4,r.apart.tt⟩,r.glob,⟨r.up.1,fun i x v e1 e2=>(r.up.2 i x v e1 e2).mono hle⟩,fun l d i e1 e2=>by
    have:=r.hole l d i e1 e2
    show(c.β++[none])[i]?=some none
    rw[List.getElem?_append_left (lt_of_get this)];exact this⟩
theorem Rel.setLeaf(r:Rel w0 im0 c st a w){id j:Nat}{cs:List AV}{x y:AV}(ho:st.own[id]?=some (some [.agg cs]))(hx:cs[j]?=some x)(hxn:x≠.any)(hy:∀v,VR c x v→VR c y v):Rel w0 im0 c { st with own:=st.own.set id (some [.agg (cs.set j y)]) } a w:=by
 have hlt:=lt_of_get ho
 have conv:∀{i:Nat} {e:List AV},(st.own.set id (some [.agg (cs.set j y)]))[i]?=some (some e)→(i=id∧e=[.agg (cs.set j y)])∨(i≠id∧st.own[i]?=some (some e)):=by
  intro i e he
  rw[List.getElem?_set] at he
  by_cases hi':id=i
  ·subst hi';rw[if_pos rfl,if_pos hlt] at he
   simp only[Option.some.injEq] at he;exact .inl ⟨rfl,he.symm⟩
  ·rw[if_neg hi'] at he;exact .inr ⟨Ne.symm hi',he⟩
 have old:∀{i:Nat} {e:List AV},(st.own.set id (some [.agg (cs.set j y)]))[i]?=some (some e)→∃e',st.own[i]?=some (some e'):=fun{i e} he=>by
  rcases conv he with⟨rfl,_⟩|⟨_,h⟩
  ·exact⟨_,ho⟩
  ·exact⟨_,h⟩
 refine⟨r.defers,r.size,r.tmps,r.below,r.imle,r.imold,r.imok,by simp[r.ownlen],fun i g k es h1 h2=>?_,r.tklen,r.tail,r.tok,
  ⟨fun i j g1 k1 g2 k2 e1 e2 a1 a2 a3 a4 hij=>by
    obtain⟨_,a3⟩:=old a3
    obtain⟨_,a4⟩:=old a4
    exact r.apart.oo i j g1 k1 g2 k2 _ _ a1 a2 a3 a4 hij,fun i t g1 k1 e1 T b a1 a2 a3 a4=>by
    obtain⟨_,a2⟩:=old a2
    exact r.apart.ot i t g1 k1 _ T b a1 a2 a3 a4,r.apart.tt⟩,r.glob,r.up,r.hole⟩
 rcases conv h2 with⟨rfl,rfl⟩|⟨_,h2⟩
 ·obtain⟨hnew,him,ds,ty,lo,hi,hblk,hfr,hsz,hlv,hcell⟩:=r.own i g k _ h1 ho
  refine⟨hnew,him,ds,ty,lo,hi,hblk,hfr,hsz,fun i' e he=>?_,fun i' e j' z he hz=>?_⟩
  ·cases i' with
   |succ i'=>simp at he
   |zero=>
    simp only[List.getElem?_cons_zero,Option.some.injEq] at he;subst he
    have:=hlv 0 _ rfl
    simpa[AV.leaves] using this
  ·cases i' with
   |succ i'=>simp at he
   |zero=>
    simp only[List.getElem?_cons_zero,Option.some.injEq] at he;subst he
    have hz:(cs.set j y)[j']?=some z:=hz
    rw[List.getElem?_set] at hz
    by_cases hj:j=j'
    ·subst hj
     rw[if_pos rfl] at hz
     split at hz
     ·simp only[Option.some.injEq] at hz;subst hz
      obtain⟨v,e1,e2,e3⟩:=hcell 0 _ j x rfl hx
      refine⟨v,e1,hy v e2,.inr ?_⟩
      rcases e3 with e3|e3
      ·exact absurd e3 hxn
      ·exact e3
     ·simp at hz
    ·rw[if_neg hj] at hz;exact hcell 0 _ j' z rfl hz
 ·exact r.own i g k es h1 h2
end
section
variable{E:Env}{c:Code}{Q:Exit→St→Prop}{s:St}{ops:Array Oper}{l:List Oper}
theorem AWP.norm(sel:List Nat)(hnd:sel.Nodup)(hrsv:s.rsv=none)(hup:s.up.map (AV.ren (selAt sel))=s.up)(hw:AWP E c Q { s with tmps:=s.tmps.map (AV.ren (selAt sel)),own:=selOwn s.own sel }):AWP E c Q s:=
 fun w0 im0 _ a w h0 hG r=>hw w0 im0 _ a w h0 hG (r.norm sel hnd hrsv hup)
theorem set_app{α:Type}(l m:List α)(i:Nat)(x:α)(h:i<l.length):(l++m).set i x=l.set i x++m:=by rw[List.set_append_left _ _ h]
theorem AWP.nilOwn(id j k:Nat)(cs:List AV)(ho:s.own[id]?=some (some [.agg cs]))(hx:cs[j]?=some .nilS)(hw:AWP E c Q { s with own:=s.own.set id (some [.agg (cs.set j (.mu s.own.length k 0 0 0))])++[some []] }):AWP E c Q s:=by
 intro w0 im0 cx a w h0 hG r
 obtain⟨_,r1⟩:=r.addNil
 have r2:=r1.setLeaf (id:=id) (j:=j) (cs:=cs) (x:= .nilS) (y:= .mu s.own.length k 0 0 0) (by show(s.own++[some []])[id]?=_;rw[List.getElem?_append_left (lt_of_get ho)];exact ho) hx (by simp) (fun v hv=>by cases hv.inv_nilS;exact .muN)
 have e:(s.own++[some []]).set id (some [.agg (cs.set j (.mu s.own.length k 0 0 0))])=s.own.set id (some [.agg (cs.set j (.mu s.own.length k 0 0 0))])++[some []]:=set_app _ _ _ _ (lt_of_get ho)
 have r2:Rel w0 im0 _ { s with own:=(s.own++[some []]).set id (some [.agg (cs.set j (.mu s.own.length k 0 0 0))]) } a w:=r2
 rw[e] at r2
 exact hw w0 im0 _ a w h0 hG r2
theorem AWP.publishLeaf(id j:Nat){jd k n cap:Nat}(cs es:List AV)(hne:jd≠id)(ho:s.own[id]?=some (some [.agg cs]))(hx:cs[j]?=some (.mu jd k 0 n cap))(ho2:s.own[jd]?=some (some es))(hn:n≤es.length)(hc:∀e∈es.take n,∀x∈e.leaves,x.clean1=some x)
 (hw:AWP E c Q { s with own:=(s.own.set jd none).set id (some [.agg (cs.set j (.sl none k (es.take n)))]) }):AWP E c Q s:=by
 intro w0 im0 cx a w h0 hG r
 have hlen:(es.take n).length=n:=by rw[List.length_take];omega
 have key:∃c',cx.le c'∧Rel w0 im0 c' { s with own:=s.own.set jd none } a w∧∀v,VR c' (.mu jd k 0 n cap) v→VR c' (.sl none k (es.take n)) v:=by
  cases hb:cx.β[jd]? with
  |none=>exact⟨cx,.refl _,r.dropOwn jd,fun v hv=>by
    rcases hv.inv_mu with⟨g,hb',_,_⟩|⟨rfl,rfl,rfl⟩
    ·rw[hb] at hb';simp at hb'
    ·rw[List.take_zero];exact .base (.sl0 k none 0)⟩
  |some p=>
   cases p with
   |none=>exact⟨cx,.refl _,r.dropOwn jd,fun v hv=>by
     rcases hv.inv_mu with⟨g,hb',_,_⟩|⟨rfl,rfl,rfl⟩
     ·rw[hb] at hb';simp at hb'
     ·rw[List.take_zero];exact .base (.sl0 k none 0)⟩
   |some p=>
    obtain⟨g,k'⟩:=p
    obtain⟨c',hle,hβ,_,_,r',cv,hl,hm,h1,hvr⟩:=r.publish (n:=n) hb ho2 rfl hc
    refine⟨c',hle,r',fun v hv=>?_⟩
    rcases hv.inv_mu with⟨g',hb',hcap,rfl⟩|⟨rfl,rfl,rfl⟩
    ·rw[hβ,hb] at hb'
     simp only[Option.some.injEq,Prod.mk.injEq] at hb'
     obtain⟨rfl,rfl⟩:=hb'
     have:=VR0.sl (im:=c'.im) k' (es.take n) g 0 cap cv (by omega) hl (fun i e j x he hj=>by rw[Nat.zero_add];exact hm i e j x he hj) h1 hvr
     rw[hlen] at this
     rw[Nat.zero_mul];exact .base this
    ·rw[List.take_zero];exact .base (.sl0 k none 0)
 obtain⟨c',hle,r',hv⟩:=key
 have hown:(s.own.set jd none)[id]?=some (some [.agg cs]):=by rw[List.getElem?_set_ne hne];exact ho
 have r2:=r'.setLeaf (y:= .sl none k (es.take n)) hown hx (by simp) hv
 exact hw w0 im0 c' a w h0 hG r2
end
theorem Snap1.mu'{own:List (Option (List AV))}{id k n cap:Nat}{es sp:List AV}(h:own[id]?=some (some (es++sp)))(hn:n=es.length)(hc:∀e∈es,∀x∈e.leaves,x.clean1=some x):Snap1 own (.mu id k 0 n cap) (.sl none k es):=by
 subst hn
 have:=Snap1.mu (k:=k) (cap:=cap) h (n:=es.length) (by simp) (by rw[List.take_left];exact hc)
 rw[List.take_left] at this;exact this
theorem ACall.snapOne{E:Env}{ops:Array Oper}{d:Option Tmp}{l:List Oper}{st:St}{K:St→Prop}{g:FuncId}{caps xs ys:List AV}{x:Value}(hc:ACalls E g ys fun r t=>r= .v x∧t=[])(hb:callable E.P g=true)(hr:st.rsv=none)(hy:All2 (Snap st.own) (xs++caps) ys)
 (h:AList E ops l (st.put d (.v x)) K):ACall E ops (.fn g caps) xs d l st K:=ACall.snap hc hb hr hy fun r t ⟨h1,h2⟩=>by
 subst h1;subst h2
 rw[List.append_nil];exact⟨trivial,h⟩
theorem AWP.publishN{E:Env}{c:Code}{Q:Exit→St→Prop}{s:St}(i id k n cap:Nat)(es sp:List AV)(hi:s.tmps[i]?=some (.mu id k 0 n cap))(ho:s.own[id]?=some (some (es++sp)))(hn:n=es.length)(hc:∀e∈es,∀x∈e.leaves,x.clean1=some x)
 (hw:AWP E c Q { s with tmps:=s.tmps.set i (.sl none k es),own:=s.own.set id none }):AWP E c Q s:=by
 subst hn
 intro w0 im0 cx a w h0 hG r
 have hlt:i<a.tmps.size:=by rw[r.size];exact lt_of_get hi
 rcases(r.tmps i _ _ hi (Array.getElem?_eq_getElem hlt)).inv_mu with⟨g,hb,hcap,hv⟩|⟨hz,_,hv⟩
 ·obtain⟨c',hle,hβ,_,_,r',cv,hl,hm,h1,hvr⟩:=r.publish (n:=es.length) (es':=es) hb ho List.take_left.symm hc
  refine hw w0 im0 c' a w h0 hG (r'.setTmp fun v hv'=>?_)
  rw[Array.getElem?_eq_getElem hlt,Option.some.injEq] at hv'
  rw[←hv',hv]
  have:=VR0.sl (im:=c'.im) k es g (0*k) cap cv hcap hl (fun i e j x he hj=>by rw[Nat.zero_mul,Nat.zero_add];exact hm i e j x he hj) h1 hvr
  exact .base this
 ·have hes:es=[]:=List.eq_nil_of_length_eq_zero hz
  subst hes
  have r':=r.setTmp (i:=i) (y:= .sl none k []) fun v hv'=>by
   rw[Array.getElem?_eq_getElem hlt,Option.some.injEq] at hv'
   rw[←hv',hv];exact .base (.sl0 k none 0)
  exact hw w0 im0 cx a w h0 hG (r'.dropOwn id)
end Go.Abs
namespace Go.Abs
open Go Go.RowKit
theorem AWP.fin{E:Env}{y:Code}{Q:Exit→St→Prop}{K:St→Prop}{s:St}(h:∀s,AWP E y Q s→K s)(g:AWP E y Q s):K s:=h s g
def codeSig:Nat→Code→Nat×Nat×Nat
 |_+1,.region i ops _=>(i,(match ops[0]? with|some o=>o.dst.getD 0|none=>0),ops.size)
 |n+1,.seq a _=>codeSig n a
 |n+1,.cond _ a _=>codeSig n a
 |n+1,.block _ b=>codeSig n b
 |n+1,.loop b=>codeSig n b
 |n+1,.scope b=>codeSig n b
 |_,_=>(0,0,0)
theorem AWP.loopN{E:Env}{Q:Exit→St→Prop}{st:St}{ι:Type}{c:Code}(hv:List Nat)(ps:ι→List (Nat×AV))(I:ι→Prop)(μ:ι→Nat)(i:ι)
 (hw0:st.Wk (st.at hv (ps i) st.own st.tk)) (hI:I i)
 (round:∀i,I i→AWP E c (AThen (fun s'=>∃j,s'.Wk (st.at hv (ps j) st.own st.tk)∧I j∧μ j<μ i) Q) (st.at hv (ps i) st.own st.tk)):AWP E (.loop c) Q st:=AWP.loopH hv ps I μ i hw0 hI round
theorem AWP.loopM{E:Env}{Q:Exit→St→Prop}{st:St}{ι:Type}{c:Code}(hv:List Nat)(ps:ι→List (Nat×AV))(own:ι→List (Option (List AV)))(tk:ι→List Nat)(I:ι→Prop)(μ:ι→Nat)(i:ι)
 (hw0:st.Wk (st.at hv (ps i) (own i) (tk i))) (hI:I i)
 (round:∀i,I i→AWP E c (AThen (fun s'=>∃j,s'.Wk (st.at hv (ps j) (own j) (tk j))∧I j∧μ j<μ i) Q) (st.at hv (ps i) (own i) (tk i))):AWP E (.loop c) Q st:=AWP.loopO hv ps own tk I μ i hw0 hI round
theorem AWP.here(n d k:Nat){E:Env}{Q:Exit→St→Prop}{st:St}{c:Code}(hn:(codeSig 30 c==(n,d,k))=true)(h:AWP E c Q st):AWP E c Q st:=h
theorem AInPost.ret{P:Program}{rs:List ResultVar}{st s:St}{K:St→AV→Prop}(hu:s.up=st.tmps++st.up)(h:ARes P s rs fun l=>K { s with tmps:=st.tmps,up:=st.up } (tupOf l)):AInPost P rs st K .ret s:=⟨hu,h⟩
theorem drop_of{α:Type}{l:List α}{i:Nat}{x:α}(h:l[i]?=some x):l.drop i=x::l.drop (i+1):=by
 obtain⟨hi,rfl⟩:=List.getElem?_eq_some_iff.1 h
 exact List.drop_eq_getElem_cons hi
theorem AEnd.is{P:Program}{rs:List ResultVar}{X:AV}{st:St}(h:ARes P st rs fun l=>OutT [] (tupOf l) X):AEnd P rs (fun r t=>r=X∧t=[]) st:=by
 have key:∀(rs:List ResultVar) (k k':List AV→Prop),(∀l,k l→k' l)→ARes P st rs k→ARes P st rs k':=by
  intro rs
  induction rs with
  |nil=>intro k k' hk h;exact hk _ h
  |cons r rs ih=>
   intro k k' hk h
   cases r with
   |tmp t=>exact ih _ _ (fun l hl=>hk _ hl) h
   |cell x t=>
    obtain⟨cs,h1,h2⟩:=h
    refine⟨cs,h1,?_⟩
    split at h2
    ·exact⟨h2.1,ih _ _ (fun l hl=>hk _ hl) h2.2⟩
    ·obtain⟨y,h3,h4⟩:=h2;exact⟨y,h3,ih _ _ (fun l hl=>hk _ hl) h4⟩
    ·exact h2
 exact key rs _ _ (fun l hl=>⟨[],X,rfl,hl,rfl,rfl⟩) h
theorem out_v{x y:Value}{sel:List (Bool×Nat)}:OutV sel (.v x) (.v y)=(x=y):=rfl
theorem out_s{t:Option Nat}{k k':Nat}{es es':List AV}{sel:List (Bool×Nat)}:OutV sel (.sl t k es) (.sl none k' es')=(k=k'∧es=es'):=by cases t<;>rfl
theorem out_n{k':Nat}{es':List AV}{sel:List (Bool×Nat)}:OutV sel .nilS (.sl none k' es')=(es'=[]):=by cases es'<;>simp[OutV]
theorem v_int{k k':IntKind}{n n':Int}:(Value.int k n=Value.int k' n')=(k=k'∧n=n'):=by simp
theorem v_bool{n n':Bool}:(Value.bool n=Value.bool n')=(n=n'):=by simp
theorem v_str{n n':ByteArray}:(Value.string n=Value.string n')=(n=n'):=by simp
end Go.Abs
namespace Go.Abs
open Go Go.RowKit
def ancOf:List Oper→List (List Nat)→List (List Nat)
 |[],acc=>acc
 |o::l,acc=>ancOf l (acc++[(o.after.toList.filter (Region.binds .any)).flatMap fun e=>e.on::acc.getD e.on []])
theorem AWP.regionO{E:Env}{st:St}{id:Nat}{l:List Oper}{Q:Exit→St→Prop}(is:List Nat)(ds:List Tmp)(hm:E.P.follows .mixedOrders=true)
 (hx:(let anc:=ancOf l [];listedOK l.toArray anc&&planOK E.P l.toArray anc true (Plan.ofList is) (Array.replicate l.toArray.size false) l.toArray.size&&decide ds.Nodup)=true) {l':List Oper} (hl:pickOps l is=some l') (h:AList E l.toArray l' (st.keep ds) (Done (Q .normal))):AWP E (.region id l.toArray true) Q st:=by
 simp only[Bool.and_eq_true,decide_eq_true_eq] at hx
 exact AWP.regionAs is (ancOf l []) ds hm (by simp only[Bool.and_eq_true];exact hx.1) hx.2 hl h
end Go.Abs
namespace Go.Abs
open Go Go.RowKit
theorem AWPL.callRaw{E:Env}{Q:Exit→St→Prop}{st:St}{ops:Array Oper}{l:List Oper}{g:FuncId}{caps:List AV}{dst:Option Tmp}{f:Operand}{xs:Array Operand}{tys:Array TypeId}{ty:TypeId}{pos:String}{after:Array Edge}
 (hc:callable E.P g=true) (he:st.ev f= .fn g caps)
 (h:∀(w0:World) (im0:Base) (cx:Ctx) (a:Act) (w:World) (vs:List Value),E.ok w0→GOB E im0→Rel w0 im0 cx st a w→Pw cx (xs.toList.map st.ev++caps) vs→
   Calls E.P g vs.toArray w fun e w'=>∃v,e= .returned v∧∃cx' st' z,Rel w0 im0 cx' st' a w'∧VR cx' z v∧AWPL E ops l Q (st'.put dst z)):
 AWPL E ops (⟨dst,.call ⟨.value f,xs,tys⟩,ty,pos,after,none⟩::l) Q st:=by
 intro w0 im0 cx a w h0 hG r
 refine wpList_step (fun K' hK'=>?_)
 have hw:Region.wanted ⟨dst,.call ⟨.value f,xs,tys⟩,ty,pos,after,none⟩ (yielded ops a.tmps)=true:=rfl
 rw[if_pos hw]
 have hv:=r.ev f
 rw[he] at hv
 obtain⟨us,hfe,hnu,hpu⟩:=hv.inv_fn
 have hargs:Pw cx (xs.toList.map st.ev++caps) (xs.toList.map a.eval++us):=by
  refine⟨by simp[hnu],fun i x v h1 h2=>?_⟩
  rcases getElem?_app _ _ _ _ h1 with⟨l1,h1⟩|⟨l1,h1⟩
  ·rw[List.getElem?_append_left (by simpa using l1)] at h2
   rw[List.getElem?_map] at h1 h2
   cases hc:xs.toList[i]? with
   |none=>simp[hc] at h1
   |some z=>simp only[hc,Option.map_some,Option.some.injEq] at h1 h2;subst h1;subst h2;exact r.ev z
  ·rw[List.getElem?_append_right (by simpa using l1)] at h2
   have:(xs.toList.map a.eval).length=(xs.toList.map st.ev).length:=by simp
   rw[this] at h2
   exact hpu _ _ _ h1 h2
 have hrun:(execOp a.eval ⟨dst,.call ⟨.value f,xs,tys⟩,ty,pos,after,none⟩).run E.P w= .ok (.enter g (xs.toList.map a.eval++us).toArray) w:=by
  unfold callable at hc
  split at hc
  ·rename_i fn hf
   simp only[Bool.and_eq_true,Bool.not_eq_true'] at hc
   obtain⟨hn1,hn2⟩:=hc
   have hbn:fn.body.isNone=false:=by
    cases hb:fn.body with
    |none=>rw[hb] at hn2;simp at hn2
    |some b=>rfl
   have harr:Array.map a.eval xs++us.toArray=(xs.toList.map a.eval++us).toArray:=by
    apply Array.ext'
    simp
   have he':a.eval f= .func (.func g) #[] us.toArray:=hfe
   simp only[execOp,resolve,he',Deferred.ofValue,Sem.run_bind,Sem.run_pure,Result.andThen_ok,invoke,callFunc,run_program,hf,hn1,Bool.false_eq_true,if_false,hbn,Array.empty_append,harr]
  ·simp at hc
 unfold Oper.wp
 rw[hrun]
 simp only[Oper.upon]
 refine(h w0 im0 cx a w _ h0 hG r hargs).mono ?_
 rintro e w' ⟨v,rfl,cx',st',z,r',hz,hk⟩
 exact hK' _ _ (hk w0 im0 cx' _ w' h0 hG (r'.put dst hz))
end Go.Abs
namespace Go.Abs
open Go Go.RowKit
theorem AWPL.at(n k:Nat){E:Env}{Q:Exit→St→Prop}{st:St}{ops:Array Oper}{l:List Oper}(hn:(l.length==n)=true)(h:AList E ops (l.take k) st (AWPL E ops (l.drop k) Q)):AWPL E ops l Q st:=by
 have:=AWPL.app h
 rwa[List.take_append_drop] at this
end Go.Abs
namespace Go.Abs
open Go Go.RowKit
theorem AWP.nilMu{E:Env}{c:Code}{Q:Exit→St→Prop}{s:St}(i k:Nat)(h:s.tmps[i]?=some .nilS)(hw:AWP E c Q { s with tmps:=s.tmps.set i (.mu s.own.length k 0 0 0),own:=s.own++[some []] }):AWP E c Q s:=by
 intro w0 im0 cx a w h0 hG r
 obtain⟨_,r'⟩:=r.addNil
 refine hw w0 im0 ⟨cx.β++[none],cx.tk,cx.im⟩ a w h0 hG ?_
 refine⟨r'.defers,by simp[r'.size],fun j x v h1 h2=>?_,r'.below,r'.imle,r'.imold,r'.imok,r'.ownlen,r'.own,r'.tklen,r'.tail,r'.tok,r'.apart,r'.glob,r'.up,r'.hole⟩
 rw[List.getElem?_set] at h1
 split at h1
 ·rename_i hij
  subst hij
  split at h1
  ·simp only[Option.some.injEq] at h1;subst h1
   have:=r'.tmps i .nilS v h h2
   cases this.inv_nilS
   exact .muN
  ·simp at h1
 ·exact r'.tmps j x v h1 h2
theorem selAt_nil{n:Nat}:selAt [] n=none:=by simp[selAt]
theorem selAt_cons{x n:Nat}{l:List Nat}:selAt (x::l) n=if n=x then some 0 else(selAt l n).map (· +1):=by
 unfold selAt
 by_cases h:n=x
 ·subst h;simp
 ·by_cases h2:n∈l
  ·have:¬x=n:=fun e=>h e.symm
   have hb:(x==n)=false:=by simp[this]
   simp[h,h2,List.idxOf_cons,hb]
  ·simp[h,h2]
theorem ren_row{α:Type}{f:α→AV}{σ:Nat→Option Nat}{l:List α}{k m:Nat}(h:∀x,AV.ren σ (f x)=f x):(l.map f++spare k m).map (AV.ren σ)=l.map f++spare k m:=by
 rw[List.map_append,List.map_map]
 congr 1
 ·exact List.map_congr_left fun x _=>h x
 ·simp[spare,AV.ren,AV.ren2,AV.ren1]
theorem ren_strs{σ:Nat→Option Nat}{l:List (List UInt8)}{m:Nat}:(l.map str++spare 1 m).map (AV.ren σ)=l.map str++spare 1 m:=ren_row fun _=>rfl
attribute [go_sem] selAt_nil selAt_cons ren_strs Option.join_some Option.join_none
theorem AWP.renum{E:Env}{c:Code}{Q:Exit→St→Prop}{s:St}(sel:List Nat)(hnd:sel.Nodup)(hrsv:s.rsv=none)(hup:s.up.map (AV.ren (selAt sel))=s.up)(hw:AWP E c Q { s with tmps:=s.tmps.map (AV.ren (selAt sel)),own:=sel.map fun id=>((s.own[id]?).join).map (·.map (AV.ren (selAt sel))) }):AWP E c Q s:=AWP.norm sel hnd hrsv hup hw
attribute [go_sem] AV.ren AV.ren1 AV.ren2
end Go.Abs
namespace Go.Abs
open Go Go.RowKit
theorem bel_row{α:Type}{no nt k m:Nat}{f:α→AV}{l:List α}(h:∀x,∀z∈(f x).leaves,z.bel no nt=true):∀es,some (l.map f++spare k m)=some es→∀e∈es,∀z∈e.leaves,z.bel no nt=true:=by
 intro es he e hm z hz
 cases he
 rcases List.mem_append.1 hm with hm|hm
 ·obtain⟨x,_,rfl⟩:=List.mem_map.1 hm
  exact h x z hz
 ·have:=(List.mem_replicate.1 hm).2
  subst this
  have:=(List.mem_replicate.1 hz).2
  subst this;rfl
theorem bel_strs{no nt m:Nat}{l:List (List UInt8)}:∀es,some (l.map str++spare 1 m)=some es→∀e∈es,∀z∈e.leaves,z.bel no nt=true:=bel_row fun x z hz=>by
 simp only[AV.leaves,List.mem_cons,List.not_mem_nil,or_false] at hz
 subst hz;rfl
end Go.Abs
namespace Go.Abs
open Go Go.RowKit
theorem oblA{no nt:Nat}{r:List AV}(h:(r.all fun e=>e.leaves.all (AV.bel no nt))=true):∀es,some r=some es→∀e∈es,∀z∈e.leaves,z.bel no nt=true:=by
 intro es he e hm z hz
 cases he
 exact List.all_eq_true.1 (List.all_eq_true.1 h e hm) z hz
end Go.Abs
namespace Go.Abs
structure Stop(p:Prop):Prop where
 out:p
theorem Stop.at{p:Prop}(h:Stop p):p:=h.out
theorem Stop.go{p:Prop}(h:p):Stop p:=⟨h⟩
end Go.Abs
namespace Go.Abs
open Go Go.RowKit
theorem astep_mono{E:Env}{ops:Array Oper}{i:Nat}{C D:St→Prop}{st:St}(hcd:∀s,C s→D s)(h:AStep E ops i C st):AStep E ops i D st:=by
 unfold AStep at h ⊢
 split at h
 ·exact hcd _ h
 ·obtain⟨q,h1,h2,h3⟩:=h
  exact⟨q,h1,fun hq=>aop_mono (h2 hq) hcd,fun hq=>hcd _ (h3 hq)⟩
theorem aplan_mono{E:Env}{ops:Array Oper}{K L:St→Prop}(hk:∀s,K s→L s):∀{p:Plan} {st:St},APlan E ops K p st→APlan E ops L p st
 |.done,_,h=>hk _ h
 |.take i p,_,h=>astep_mono (fun s hs=>aplan_mono hk hs) h
 |.fork p,_,h=>aplan_mono (p:=p) hk h
 |.alt i p r,_,h=>⟨astep_mono (fun s hs=>aplan_mono hk hs) h.1,aplan_mono hk h.2⟩
 |.ends,_,h=>h
theorem AWP.regionAnyJ{E:Env}{st:St}{id:Nat}{l:List Oper}{Q:Exit→St→Prop}(x:Plan)(anc:List (List Nat))(ds:List Tmp)(hm:E.P.follows .mixedOrders=true)
 (hx:(listedOK l.toArray anc&&planOK E.P l.toArray anc true x (Array.replicate l.toArray.size false) l.toArray.size)=true) (hd:ds.Nodup) (S:St) (h:APlan E l.toArray (Done fun s=>s=S) x (st.keep ds)) (hk:Q .normal S):AWP E (.region id l.toArray true) Q st:=
 AWP.regionAny x anc ds hm hx hd (aplan_mono (fun s (hs:Done (fun s=>s=S) s)=>(show Q .normal { s with rsv:=none } from by
  have:({ s with rsv:=none }:St)=S:=hs
  rw[this];exact hk)) h)
end Go.Abs
end
