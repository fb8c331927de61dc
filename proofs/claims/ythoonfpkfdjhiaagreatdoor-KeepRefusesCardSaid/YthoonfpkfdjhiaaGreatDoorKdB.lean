/- Texts of one chain, put together (La). -/
import Derived.Test.YthoonfpkfdjhiaaGreatDoorKdA
import Derived.WalkKit
import Derived.Laws.StructEq
import Derived.WalkLawsBesides
import Derived.Laws.IdiomStrings
import Derived.Laws.CopyOwn
import Derived.Laws.BytesArg
set_option linter.unusedVariables false
set_option linter.unusedSimpArgs false
set_option maxHeartbeats 16000000
set_option maxRecDepth 8000
section
namespace Go.az
open Go Go.RowKit
inductive AV where
 |any
 |v (x:Value)
 |agg (cs:List AV)
 |ax (cs:List AV)
 |aw
 |sl (t:Option Nat) (k:Nat) (es:List AV)
 |mu (id k off len cap:Nat)
 |ptr (id idx off:Nat)
 |bQ (cs:List AV)
 |fn (f:FuncId) (cs:List AV)
 deriving Inhabited
def AV.leaves:AV→List AV
 |.agg cs=>cs
 |x=>[x]
abbrev Im:=Nat→Nat→Option Value
inductive aT(im:Im):AV→Value→Prop
 |any (v:Value):aT im .any v
 |v (x:Value):aT im (.v x) x
 |agg (cs:List AV) (vs:List Value) (hn:vs.length=cs.length) (h:∀(i:Nat) (c:AV) (u:Value),cs[i]?=some c→vs[i]?=some u→aT im c u):aT im (.agg cs) (.agg vs.toArray)
 |ax (cs:List AV) (vs:List Value) (hn:vs.length=cs.length) (h:∀(i:Nat) (c:AV) (u:Value),cs[i]?=some c→vs[i]?=some u→aT im c u):aT im (.ax cs) (.tuple vs.toArray)
 |aw:aT im .aw (.slice none 0 0)
 |sl (k:Nat) (es:List AV) (b o cap:Nat) (cv:Nat→Nat→Value) (hc:es.length≤cap)
   (hk:∀(i:Nat) (e:AV),es[i]?=some e→e.leaves.length=k)
   (hm:∀(i:Nat) (e:AV) (j:Nat) (c:AV),es[i]?=some e→e.leaves[j]?=some c→im b (o+i*k+j)=some (cv i j))
   (h1:∀(i:Nat) (e:AV) (j:Nat) (c:AV),es[i]?=some e→e.leaves[j]?=some c→(cv i j).oneCell'=true)
   (hv:∀(i:Nat) (e:AV) (j:Nat) (c:AV),es[i]?=some e→e.leaves[j]?=some c→aT im c (cv i j)):
   aT im (.sl none k es) (.slice (some ⟨b,o,none⟩) es.length cap)
 |de (k:Nat) (a:Option Addr) (cap:Nat):aT im (.sl none k []) (.slice a 0 cap)
 |bQ (cs:List AV) (b o:Nat) (cv:Nat→Value) (hm:∀(j:Nat) (c:AV),cs[j]?=some c→im b (o+j)=some (cv j)) (h1:∀(j:Nat) (c:AV),cs[j]?=some c→(cv j).oneCell'=true) (hv:∀(j:Nat) (c:AV),cs[j]?=some c→aT im c (cv j)):
   aT im (.bQ cs) (.pointer (some ⟨b,o,none⟩))
 |fn (f:FuncId) (cs:List AV) (vs:List Value) (hn:vs.length=cs.length) (h:∀(i:Nat) (c:AV) (u:Value),cs[i]?=some c→vs[i]?=some u→aT im c u):aT im (.fn f cs) (.func (.func f) #[] vs.toArray)
def Im.le(a b:Im):Prop:=∀x y v,a x y=some v→b x y=some v
theorem Im.le.refl(a:Im):a.le a:=fun _ _ _ h=>h
theorem Im.le.trans{a b c:Im}(h:a.le b)(k:b.le c):a.le c:=fun x y v e=>k x y v (h x y v e)
theorem aT.mono{a b:Im}(h:a.le b){x:AV}{v:Value}(r:aT a x v):aT b x v:=by
 induction r with
 |any v=>exact .any v
 |v x=>exact .v x
 |agg cs vs hn _ ih=>exact .agg cs vs hn ih
 |ax cs vs hn _ ih=>exact .ax cs vs hn ih
 |aw=>exact .aw
 |sl k es b o cap cv hc hk hm h1 _ ih=>exact .sl k es b o cap cv hc hk (fun i e j c h1 h2=>h _ _ _ (hm i e j c h1 h2)) h1 ih
 |de k a cap=>exact .de k a cap
 |bQ cs b o cv hm h1 _ ih=>exact .bQ cs b o cv (fun j c h1=>h _ _ _ (hm j c h1)) h1 ih
 |fn f cs vs hn _ ih=>exact .fn f cs vs hn ih
structure Tok where
 aZ:Option Nat
 tail:Nat
 cap:Nat
 k:Nat
structure Ctx where
 β:List (Option (Nat×Nat))
 tk:List Tok
 im:Im
def Tok.at(T:Tok)(n:Nat)(v:Value):Prop:=(n=0∧v= .slice none 0 0)∨∃b,T.aZ=some b∧v= .slice (some ⟨b,0,none⟩) n T.cap
inductive VR(c:Ctx):AV→Value→Prop
 |base {x:AV} {v:Value} (h:aT c.im x v):VR c x v
 |tok {t k:Nat} {es:List AV} {v:Value} {T:Tok} (h:c.tk[t]?=some T) (h0:aT c.im (.sl none k es) v) (hk:T.k=k) (hle:es.length≤T.tail)
   (hcur:es.length=T.tail→T.at es.length v):VR c (.sl (some t) k es) v
 |mu {id off len g k cap:Nat} (h:c.β[id]?=some (some (g,k))) (hc:len≤cap):VR c (.mu id k off len cap) (.slice (some ⟨g,off*k,none⟩) len cap)
 |jR {id k off:Nat}:VR c (.mu id k off 0 0) (.slice none 0 0)
 |ptr {id idx off g k:Nat} (h:c.β[id]?=some (some (g,k))):VR c (.ptr id idx off) (.pointer (some ⟨g,idx*k+off,none⟩))
 |agg (cs:List AV) (vs:List Value) (hn:vs.length=cs.length) (h:∀(i:Nat) (x:AV) (u:Value),cs[i]?=some x→vs[i]?=some u→VR c x u):VR c (.agg cs) (.agg vs.toArray)
 |ax (cs:List AV) (vs:List Value) (hn:vs.length=cs.length) (h:∀(i:Nat) (x:AV) (u:Value),cs[i]?=some x→vs[i]?=some u→VR c x u):VR c (.ax cs) (.tuple vs.toArray)
 |fn (f:FuncId) (cs:List AV) (vs:List Value) (hn:vs.length=cs.length) (h:∀(i:Nat) (x:AV) (u:Value),cs[i]?=some x→vs[i]?=some u→VR c x u):VR c (.fn f cs) (.func (.func f) #[] vs.toArray)
structure Ctx.le(c d:Ctx):Prop where
 β:∀(i:Nat) (p:Nat×Nat),c.β[i]?=some (some p)→d.β[i]?=some (some p)
 tk:∀(t:Nat) (T:Tok),c.tk[t]?=some T→∃T',d.tk[t]?=some T'∧T'.k=T.k∧(T'=T∨T.tail<T'.tail)
 im:c.im.le d.im
theorem Ctx.le.refl(c:Ctx):c.le c:=⟨fun _ _ h=>h,fun _ T h=>⟨T,h,rfl,.inl rfl⟩,.refl _⟩
theorem Ctx.le.trans{a b c:Ctx}(h:a.le b)(k:b.le c):a.le c:=
 ⟨fun i p e=>k.β i p (h.β i p e),fun t T e=>by
   obtain⟨T1,e1,k1,o1⟩:=h.tk t T e
   obtain⟨T2,e2,k2,o2⟩:=k.tk t T1 e1
   refine⟨T2,e2,k2.trans k1,?_⟩
   rcases o1 with rfl|o1
   ·exact o2
   ·rcases o2 with rfl|o2
    ·exact .inr o1
    ·exact .inr (Nat.lt_trans o1 o2),h.im.trans k.im⟩
theorem VR.mono{c d:Ctx}(h:c.le d){x:AV}{v:Value}(r:VR c x v):VR d x v:=by
 induction r with
 |base h0=>exact .base (h0.mono h.im)
 |tok e h0 hk hle hcur=>
  obtain⟨T',e',k',o'⟩:=h.tk _ _ e
  refine .tok e' (h0.mono h.im) (k'.trans hk) ?_ ?_
  ·rcases o' with rfl|o'<;>omega
  ·rcases o' with rfl|o'
   ·exact hcur
   ·intro hh;omega
 |mu e hc=>exact .mu (h.β _ _ e) hc
 |jR=>exact .jR
 |ptr e=>exact .ptr (h.β _ _ e)
 |agg cs vs hn _ ih=>exact .agg cs vs hn ih
 |ax cs vs hn _ ih=>exact .ax cs vs hn ih
 |fn f cs vs hn _ ih=>exact .fn f cs vs hn ih
structure St where
 tmps:List AV
 own:List (Option (List AV))
 tk:List Nat
 gl:Nat→Option (List AV):=fun _=>none
 bR:Option (List (Tmp×Nat)):=none
 up:List AV:=[]
structure rO(c:Ctx)(B:Nat)(w:World)(g k:Nat)(es:List AV):Prop where
 new:B≤g
 im:∀o,c.im g o=none
 aZ:∃cs ty lo hi,w.heap[g]?=some (.cells cs ty (lo,hi))∧(lo=hi∨k=1∧cs.size≤lo)∧es.length*k≤cs.size∧
  (∀(i:Nat) (e:AV),es[i]?=some e→e.leaves.length=k)∧∀(i:Nat) (e:AV) (j:Nat) (x:AV),es[i]?=some e→e.leaves[j]?=some x→∃v,cs[i*k+j]?=some v∧VR c x v∧(x= .any∨v.oneCell'=true)
structure tQ(im:Im)(B:Nat)(w:World)(T:Tok)(b:Nat):Prop where
 new:B≤b
 room:T.tail≤T.cap
 im:∀o,T.tail*T.k≤o→im b o=none
 aZ:∃cs ty lo hi,w.heap[b]?=some (.cells cs ty (lo,hi))∧(lo=hi∨T.k=1∧cs.size≤lo)∧T.cap*T.k≤cs.size
structure CT(c:Ctx)(own:List (Option (List AV))):Prop where
 oo:∀(i j g k g' k':Nat) (es es':List AV),c.β[i]?=some (some (g,k))→c.β[j]?=some (some (g',k'))→own[i]?=some (some es)→own[j]?=some (some es')→i≠j→g≠g'
 ot:∀(i t g k:Nat) (es:List AV) (T:Tok) (b:Nat),c.β[i]?=some (some (g,k))→own[i]?=some (some es)→c.tk[t]?=some T→T.aZ=some b→g≠b
 tt:∀(t u:Nat) (T U:Tok) (b d:Nat),c.tk[t]?=some T→c.tk[u]?=some U→T.aZ=some b→U.aZ=some d→t≠u→b≠d
structure cU where
 im:Im
 ex:List Value:=[]
 dr:Prop:=False
structure Rel(w0:World)(im0:cU)(c:Ctx)(st:St)(a:Act)(w:World):Prop where
 defers:a.defers=[]∧∀(b o:Nat),w0.heap.size≤b→im0.im b o=none
 size:a.tmps.size=st.tmps.length
 tmps:∀(i:Nat) (x:AV) (v:Value),st.tmps[i]?=some x→a.tmps[i]?=some v→VR c x v
 below:Below im0.dr w0.heap.size w0 w
 c8:im0.im.le c.im
 dp:∀(b o:Nat),b<w0.heap.size→c.im b o=im0.im b o
 ck:∀(b o:Nat) (x:Value),c.im b o=some x→w.cell? ⟨b,o,none⟩=some x
 bS:c.β.length=st.own.length
 own:∀(i g k:Nat) (es:List AV),c.β[i]?=some (some (g,k))→st.own[i]?=some (some es)→rO c w0.heap.size w g k es
 cH:c.tk.length=st.tk.length
 tail:∀(t:Nat) (T:Tok),c.tk[t]?=some T→st.tk[t]?=some T.tail
 tok:∀(t:Nat) (T:Tok) (b:Nat),c.tk[t]?=some T→T.aZ=some b→tQ c.im w0.heap.size w T b
 apart:CT c st.own
 dv:∀(g:Nat) (cs:List AV),st.gl g=some cs→aT c.im (.bQ cs) (.pointer (some ⟨g,0,none⟩))
 up:im0.ex.length=st.up.length∧∀(i:Nat) (x:AV) (v:Value),st.up[i]?=some x→im0.ex[i]?=some v→VR c x v
 hole:∀(l:List (Tmp×Nat)) (d:Tmp) (i:Nat),st.bR=some l→(d,i)∈l→c.β[i]?=some none
def gS:Value→AV
 |.slice none 0 0=> .aw
 |x=> .v x
def AV.kG:Value→AV
 |.agg cs=> .agg (cs.toList.map gS)
 |.tuple cs=> .ax (cs.toList.map gS)
 |x=>gS x
def St.ev(st:St):Operand→AV
 |.tmp t=>st.tmps.getD t .any
 |.const x=>AV.kG x
 |.global g=>match st.gl g with
  |some cs=> .bQ cs
  |none=> .v (.pointer (some ⟨g,0,none⟩))
 |.func f=> .fn f []
def St.put(st:St)(d:Option Tmp)(x:AV):St:=
 match d with
 |some d=>{ st with tmps:=st.tmps.set d x }
 |none=>st
theorem pq(im:Im)(x:Value):aT im (gS x) x:=by
 unfold gS;split
 ·exact .aw
 ·exact .v _
theorem Us(im:Im)(x:Value):aT im (AV.kG x) x:=by
 unfold AV.kG;split
 ·rename_i cs
  have:=aT.agg (im:=im) (cs.toList.map gS) cs.toList aB (fun i c u h1 h2=>by
   simp only[List.getElem?_map,h2,Option.map_some,Option.some.injEq] at h1
   subst h1;exact pq im u)
  simpa using this
 ·rename_i cs
  have:=aT.ax (im:=im) (cs.toList.map gS) cs.toList aB (fun i c u h1 h2=>by
   simp only[List.getElem?_map,h2,Option.map_some,Option.some.injEq] at h1
   subst h1;exact pq im u)
  simpa using this
 ·exact pq im _
section
variable{w0:World}{im0:cU}{c:Ctx}{st:St}{a:Act}{w:World}
theorem Rel.ev(r:Rel w0 im0 c st a w)(x:Operand):VR c (st.ev x) (a.eval x):=by
 cases x with
 |tmp t=>
  simp only[St.ev,Act.eval]
  by_cases h:t<st.tmps.length
  ·have h2:t<a.tmps.size:=by rw[r.size];exact h
   have:=r.tmps t st.tmps[t] a.tmps[t] (by simp[h]) (by simp[h2])
   simpa[List.getD_eq_getElem?_getD,h,h2] using this
  ·have:st.tmps.getD t .any= .any:=by simp[List.getD_eq_getElem?_getD,List.getElem?_eq_none (Nat.le_of_not_lt h)]
   rw[this];exact .base (.any _)
 |const v=>exact .base (Us _ v)
 |global g=>
  simp only[St.ev,Act.eval]
  cases h:st.gl g with
  |none=>exact .base (.v _)
  |some cs=>exact .base (r.dv g cs h)
 |func f=>
  have:=aT.fn (im:=c.im) f [] [] rfl aB
  exact .base this
theorem Rel.put(r:Rel w0 im0 c st a w)(d:Option Tmp){x:AV}{v:Value}(h:VR c x v):Rel w0 im0 c (st.put d x) (a.put d v) w:=by
 cases d with
 |none=>exact r
 |some d=>
  refine⟨r.defers,?_,?_,r.below,r.c8,r.dp,r.ck,r.bS,r.own,r.cH,r.tail,r.tok,r.apart,r.dv,r.up,r.hole⟩
  ·simp[St.put,Act.put,r.size]
  ·intro i y u h1 h2
   simp only[St.put,Act.put,List.getElem?_set,Array.getElem?_setIfInBounds] at h1 h2
   by_cases hi:d=i
   ·subst hi
    rw[if_pos rfl] at h1 h2
    split at h1<;>split at h2<;>simp_all
   ·rw[if_neg hi] at h1 h2
    exact r.tmps i y u h1 h2
end
end Go.az
namespace Go.az
open Go Go.RowKit
def kg:TypeDesc→Bool
 |.struct _|.array _ _=>true
 |_=>false
def bf(P:Program)(t:TypeId):Option Nat:=(P.info? t).map (·.size)
def di(P:Program)(t:TypeId):Option (Bool×Nat):=
 match P.underlying t,bf P t with
 |some d,some n=>some (kg d,n)
 |_,_=>none
def fieldInfo(P:Program)(s:TypeId)(f:Nat):Option (Nat×TypeId×Nat):=
 match P.underlying s with
 |some (.struct fs)=>
  match fs[f]? with
  |some fd=>(bf P fd.type).map fun n=>(fd.offset,fd.type,n)
  |none=>none
 |_=>none
def fm(P:Program)(t:TypeId):Option (Option Nat×TypeId×Nat):=
 match P.underlying t with
 |some (.slice e)=>(bf P e).map fun n=>(none,e,n)
 |some (.array l e)=>(bf P e).map fun n=>(some l,e,n)
 |_=>none
theorem dq{P:Program}{t:TypeId}{n:Nat}(h:bf P t=some n)(w:World):(sizeOf t).run P w= .ok n w:=by
 unfold bf at h
 cases hi:P.info? t with
 |none=>simp[hi] at h
 |some i=>simp only[hi,Option.map_some,Option.some.injEq] at h;simp[sizeOf,typeInfo,hi,h]
theorem bV{P:Program}{t:TypeId}{d:TypeDesc}(h:P.underlying t=some d)(w:World):(underlying t).run P w= .ok d w:=by
 simp[underlying,h]
theorem qI{P:Program}{t:TypeId}{d:TypeDesc}(h:P.underlying t=some d)(w:World):(isAgg t).run P w= .ok (kg d) w:=by
 cases d<;>simp[isAgg,underlying,h,kg]
section inv
variable{c:Ctx}{im:Im}
theorem VR.bc{x v:Value}(h:VR c (.v x) v):v=x:=by
 cases h with
 |base h=>cases h;rfl
theorem VR.jt{cs:List AV}{v:Value}(h:VR c (.agg cs) v):∃vs:List Value,v= .agg vs.toArray∧vs.length=cs.length∧∀(i:Nat) (x:AV) (u:Value),cs[i]?=some x→vs[i]?=some u→VR c x u:=by
 cases h with
 |base h=>cases h with
  |agg _ vs hn h=>exact⟨vs,rfl,hn,fun i x u h1 h2=> .base (h i x u h1 h2)⟩
 |agg _ vs hn h=>exact⟨vs,rfl,hn,h⟩
theorem VR.nN{cs:List AV}{v:Value}(h:VR c (.ax cs) v):∃vs:List Value,v= .tuple vs.toArray∧vs.length=cs.length∧∀(i:Nat) (x:AV) (u:Value),cs[i]?=some x→vs[i]?=some u→VR c x u:=by
 cases h with
 |base h=>cases h with
  |ax _ vs hn h=>exact⟨vs,rfl,hn,fun i x u h1 h2=> .base (h i x u h1 h2)⟩
 |ax _ vs hn h=>exact⟨vs,rfl,hn,h⟩
theorem VR.iq{f:FuncId}{cs:List AV}{v:Value}(h:VR c (.fn f cs) v):∃vs:List Value,v= .func (.func f) #[] vs.toArray∧vs.length=cs.length∧∀(i:Nat) (x:AV) (u:Value),cs[i]?=some x→vs[i]?=some u→VR c x u:=by
 cases h with
 |base h=>cases h with
  |fn _ _ vs hn h=>exact⟨vs,rfl,hn,fun i x u h1 h2=> .base (h i x u h1 h2)⟩
 |fn _ _ vs hn h=>exact⟨vs,rfl,hn,h⟩
theorem VR.gR{id idx off:Nat}{v:Value}(h:VR c (.ptr id idx off) v):∃g k,c.β[id]?=some (some (g,k))∧v= .pointer (some ⟨g,idx*k+off,none⟩):=by
 cases h with
 |base h=>cases h
 |ptr h=>exact⟨_,_,h,rfl⟩
theorem VR.cW{id k off len cap:Nat}{v:Value}(h:VR c (.mu id k off len cap) v):(∃g,c.β[id]?=some (some (g,k))∧len≤cap∧v= .slice (some ⟨g,off*k,none⟩) len cap)∨(len=0∧cap=0∧v= .slice none 0 0):=by
 cases h with
 |base h=>cases h
 |mu h hc=>exact .inl ⟨_,h,hc,rfl⟩
 |jR=>exact .inr ⟨rfl,rfl,rfl⟩
theorem VR.ez{v:Value}(h:VR c .aw v):v= .slice none 0 0:=by
 cases h with
 |base h=>cases h;rfl
theorem VR.nM{cs:List AV}{v:Value}(h:VR c (.bQ cs) v):∃b o,v= .pointer (some ⟨b,o,none⟩)∧∃cv:Nat→Value,(∀(j:Nat) (x:AV),cs[j]?=some x→c.im b (o+j)=some (cv j))∧(∀(j:Nat) (x:AV),cs[j]?=some x→(cv j).oneCell'=true)∧∀(j:Nat) (x:AV),cs[j]?=some x→aT c.im x (cv j):=by
 cases h with
 |base h=>cases h with
  |bQ _ b o cv hm h1 hv=>exact⟨b,o,rfl,cv,hm,h1,hv⟩
theorem VR.fu{t:Option Nat}{k:Nat}{es:List AV}{v:Value}(h:VR c (.sl t k es) v):aT c.im (.sl none k es) v:=by
 cases h with
 |base h=>cases h with
  |sl k es b o cap cv hc hk hm h1 hv=>exact .sl k es b o cap cv hc hk hm h1 hv
  |de k a cap=>exact .de k a cap
 |tok _ h0 _ _ _=>exact h0
theorem aT.fp{k:Nat}{es:List AV}{v:Value}(h:aT im (.sl none k es) v):∃a cap,v= .slice a es.length cap∧es.length≤cap∧
 (es=[]∨∃b o,a=some ⟨b,o,none⟩∧(∀(i:Nat) (e:AV),es[i]?=some e→e.leaves.length=k)∧∃cv:Nat→Nat→Value,
   (∀(i:Nat) (e:AV) (j:Nat) (x:AV),es[i]?=some e→e.leaves[j]?=some x→im b (o+i*k+j)=some (cv i j))∧
   (∀(i:Nat) (e:AV) (j:Nat) (x:AV),es[i]?=some e→e.leaves[j]?=some x→(cv i j).oneCell'=true)∧
   ∀(i:Nat) (e:AV) (j:Nat) (x:AV),es[i]?=some e→e.leaves[j]?=some x→aT im x (cv i j)):=by
 cases h with
 |sl _ _ b o cap cv hc hk hm h1 hv=>exact⟨_,cap,rfl,hc,.inr ⟨b,o,rfl,hk,cv,hm,h1,hv⟩⟩
 |de _ a cap=>exact⟨a,cap,rfl,Nat.zero_le _,.inl rfl⟩
end inv
def nv(st:St):AV→Option (List AV)
 |.bQ cs=>some cs
 |.ptr id idx off=>
  match st.own[id]? with
  |some (some es)=>(es[idx]?).map fun e=>e.leaves.drop off
  |_=>none
 |_=>none
theorem FH{w0:World}{im0:cU}{c:Ctx}{st:St}{a:Act}{w:World}(r:Rel w0 im0 c st a w){x:AV}{v:Value}(h:VR c x v){cs:List AV}(hc:nv st x=some cs):
 ∃b o,v= .pointer (some ⟨b,o,none⟩)∧∀(j:Nat) (y:AV),cs[j]?=some y→∃u,w.cell? ⟨b,o+j,none⟩=some u∧VR c y u:=by
 unfold nv at hc
 split at hc
 ·rename_i cs'
  simp only[Option.some.injEq] at hc;subst hc
  obtain⟨b,o,rfl,cv,hm,h1,hv⟩:=h.nM
  exact⟨b,o,rfl,fun j y hj=>⟨cv j,r.ck _ _ _ (hm j y hj),.base (hv j y hj)⟩⟩
 ·rename_i id idx off
  obtain⟨g,k,hb,rfl⟩:=h.gR
  split at hc
  ·rename_i es hes
   cases he:es[idx]? with
   |none=>simp[he] at hc
   |some e=>
    simp only[he,Option.map_some,Option.some.injEq] at hc
    subst hc
    refine⟨g,_,rfl,fun j y hj=>?_⟩
    rw[List.getElem?_drop] at hj
    obtain⟨bs,ty,lo,hi,hblk,_,_,_,hcell⟩:=(r.own id g k es hb hes).aZ
    obtain⟨u,hu,hvr,_⟩:=hcell idx e (off+j) y he hj
    refine⟨u,?_,hvr⟩
    simp only[World.cell?,hblk,Option.isSome_none,Bool.false_eq_true,if_false]
    rw[←Nat.add_assoc] at hu
    exact hu
  ·simp at hc
 ·simp at hc
theorem aa3{c:Ctx}{w:World}{b o n:Nat}{cs:List AV}(hn:n≤cs.length)(h:∀(j:Nat) (y:AV),cs[j]?=some y→∃u,w.cell? ⟨b,o+j,none⟩=some u∧VR c y u):
 ∃us:List Value,us.length=n∧(∀(j:Nat) (u:Value),us[j]?=some u→w.cell? ⟨b,o+j,none⟩=some u)∧∀(j:Nat) (y:AV) (u:Value),(cs.take n)[j]?=some y→us[j]?=some u→VR c y u:=by
 induction n with
 |zero=>exact⟨[],rfl,by simp,by simp⟩
 |succ n ih=>
  obtain⟨us,hl,h1,h2⟩:=ih ab
  have hlt:n<cs.length:=by omega
  obtain⟨u,hu,hv⟩:=h n cs[n] (by simp[hlt])
  refine⟨us++[u],by simp[hl],?_,?_⟩
  ·intro j x hj
   by_cases hjn:j<us.length
   ·rw[List.getElem?_append_left hjn] at hj;exact h1 j x hj
   ·rw[List.getElem?_append_right ab] at hj
    have:j-us.length=0:=by
     rcases Nat.eq_zero_or_pos (j-us.length) with h|h
     ·exact h
     ·rw[List.getElem?_eq_none (by simp;omega)] at hj;simp at hj
    rw[this] at hj
    simp only[List.getElem?_cons_zero,Option.some.injEq] at hj
    subst hj
    have:j=n:=by omega
    subst this;exact hu
  ·intro j y x hy hx
   rw[List.getElem?_take] at hy
   split at hy
   ·rename_i hjn
    by_cases hj:j<us.length
    ·rw[List.getElem?_append_left hj] at hx
     refine h2 j y x ?_ hx
     rw[List.getElem?_take,if_pos ab];exact hy
    ·have:j=n:=by omega
     subst this
     rw[List.getElem?_append_right ab,hl,Nat.sub_self] at hx
     simp only[List.getElem?_cons_zero,Option.some.injEq] at hx
     subst hx
     have:cs[j]=y:=by simpa[hlt] using hy
     rw[←this];exact hv
   ·simp at hy
theorem fC(b o n:Nat):(⟨b,o,none⟩:Addr).add n=⟨b,o+n,none⟩:=by
 unfold Addr.add;split
 ·rename_i h;subst h;rfl
 ·rfl
theorem Xb(P:Program)(w:World)(b o:Nat)(us:List Value)(h:∀(j:Nat) (u:Value),us[j]?=some u→w.cell? ⟨b,o+j,none⟩=some u):
 (loadCells ⟨b,o,none⟩ us.length).run P w= .ok us.toArray w:=
 run_loadCells_list (P:=P) w ⟨b,o,none⟩ us (fun j u hj=>by rw[fC];exact h j u hj)
section
variable{P:Program}{w0:World}{im0:cU}{c:Ctx}{st:St}{a:Act}{w:World}
def qf(P:Program)(st:St)(t:TypeId)(x:AV)(k:AV→Prop):Prop:=
 ∃cs,nv st x=some cs∧
  match di P t with
  |some (true,n)=>n≤cs.length∧k (.agg (cs.take n))
  |some (false,_)=>∃y,cs[0]?=some y∧k y
  |none=>False
theorem zX(r:Rel w0 im0 c st a w){t:TypeId}{x:AV}{v:Value}(h:VR c x v){k:AV→Prop}(hk:qf P st t x k):
 ∃u y,(Instr.loadAt t v).run P w= .ok u w∧VR c y u∧k y:=by
 obtain⟨cs,hcs,hk⟩:=hk
 obtain⟨b,o,rfl,hcell⟩:=FH r h hcs
 unfold di at hk
 cases hu:P.underlying t with
 |none=>simp[hu] at hk
 |some d=>
  cases hs:bf P t with
  |none=>simp[hu,hs] at hk
  |some n=>
   simp only[hu,hs] at hk
   have ha:=qI hu w
   cases hd:kg d with
   |true=>
    simp only[hd] at hk ha
    obtain⟨us,hl,h1,h2⟩:=aa3 hk.1 hcell
    have hrun:=Xb P w b o us h1
    rw[hl] at hrun
    refine⟨.agg us.toArray,.agg (cs.take n),?_,.agg _ us (by rw[hl,List.length_take];omega) h2,hk.2⟩
    simp[Instr.loadAt,Instr.sureAddr,loadVar,ha,dq hs w,hrun]
   |false=>
    simp only[hd] at hk ha
    obtain⟨y,hy,hky⟩:=hk
    obtain⟨u,hu',hv⟩:=hcell 0 y hy
    refine⟨u,y,?_,hv,hky⟩
    simp only[Nat.add_zero] at hu'
    simp[Instr.loadAt,Instr.sureAddr,loadVar,ha,hu']
def qb(P:Program)(s:TypeId)(x:AV)(f:Nat)(k:AV→Prop):Prop:=
 match fieldInfo P s f with
 |some (o,_,n)=>n≠0∧
  match x with
  |.ptr id idx off=>k (.ptr id idx (off+o))
  |.bQ cs=>k (.bQ (cs.drop o))
  |_=>False
 |none=>False
theorem aT.BH{im:Im}{cs:List AV}{b o:Nat}(h:aT im (.bQ cs) (.pointer (some ⟨b,o,none⟩)))(n:Nat):aT im (.bQ (cs.drop n)) (.pointer (some ⟨b,o+n,none⟩)):=by
 cases h with
 |bQ _ _ _ cv hm h1 hv=>
  refine .bQ _ b (o+n) (fun j=>cv (n+j)) (fun j x hj=>?_) (fun j x hj=>h1 _ x (by rw[List.getElem?_drop] at hj;exact hj)) (fun j x hj=>?_)
  ·rw[List.getElem?_drop] at hj;rw[Nat.add_assoc];exact hm _ _ hj
  ·rw[List.getElem?_drop] at hj;exact hv _ _ hj
theorem VR.oy{cs:List AV}{v:Value}(h:VR c (.bQ cs) v):∃b o,v= .pointer (some ⟨b,o,none⟩)∧aT c.im (.bQ cs) v:=by
 obtain⟨b,o,rfl,cv,hm,h1,hv⟩:=h.nM
 exact⟨b,o,rfl,.bQ cs b o cv hm h1 hv⟩
theorem NM{s:TypeId}{x:AV}{v:Value}{f:Nat}(h:VR c x v){k:AV→Prop}(hk:qb P s x f k):
 ∃u y,(Instr.fieldAt s v f).run P w= .ok u w∧VR c y u∧k y:=by
 unfold qb fieldInfo at hk
 cases hu:P.underlying s with
 |none=>simp[hu] at hk
 |some d=>
  cases d<;>simp only[hu] at hk
  case struct fs=>
   cases hf:fs[f]? with
   |none=>simp[hf] at hk
   |some fd=>
    cases hs:bf P fd.type with
    |none=>simp[hf,hs] at hk
    |some n=>
     simp only[hf,hs,Option.map_some] at hk
     obtain⟨hn,hk⟩:=hk
     have hrun:∀b o,(Instr.fieldAt s (.pointer (some ⟨b,o,none⟩)) f).run P w= .ok (.pointer (some ⟨b,o+fd.offset,none⟩)) w:=fun b o=>by
      simp[Instr.fieldAt,bV hu w,hf,Instr.sureAddr,fieldPlace,dq hs w,hn,fC]
     split at hk
     ·obtain⟨g,q,hb,rfl⟩:=h.gR
      refine⟨_,_,hrun _ _,?_,hk⟩
      rw[Nat.add_assoc]
      exact .ptr hb
     ·obtain⟨b,o,rfl,h0⟩:=h.oy
      exact⟨_,_,hrun _ _,.base (h0.BH _),hk⟩
     ·exact hk.elim
  all_goals exact hk.elim
def qd(P:Program)(t:TypeId)(x ix:AV)(k:AV→Prop):Prop:=
 match ix with
 |.v (.int _ i)=>
  match fm P t with
  |some (none,_,n)=>
   match x with
   |.sl _ k' es=>0≤i∧n=k'∧∃e,es[i.toNat]?=some e∧k (.bQ e.leaves)
   |.mu id k' off len _=>0≤i∧i<len∧n=k'∧k (.ptr id (off+i.toNat) 0)
   |_=>False
  |some (some l,_,n)=>
   match x with
   |.ptr id idx off=>0≤i∧i<l∧k (.ptr id idx (off+i.toNat*n))
   |.bQ cs=>0≤i∧i<l∧k (.bQ (cs.drop (i.toNat*n)))
   |_=>False
  |none=>False
 |_=>False
theorem Qc{t:TypeId}{x ix:AV}{v vi:Value}(h:VR c x v)(hi:VR c ix vi){k:AV→Prop}(hk:qd P t x ix k):
 ∃u y,(Instr.indexAt t v vi).run P w= .ok u w∧VR c y u∧k y:=by
 unfold qd at hk
 split at hk
 case h_2=>exact hk.elim
 rename_i kd i
 cases hi.bc
 unfold fm at hk
 cases hu:P.underlying t with
 |none=>simp[hu] at hk
 |some d=>
  cases d<;>simp only[hu] at hk
  case slice e=>
   cases hs:bf P e with
   |none=>simp[hs] at hk
   |some n=>
    simp only[hs,Option.map_some] at hk
    split at hk
    ·rename_i t' k' es
     obtain⟨h0,rfl,e',he,hk⟩:=hk
     obtain⟨a',cap,rfl,hcap,hes⟩:=h.fu.fp
     have hlt:i.toNat<es.length:=by
      rcases Nat.lt_or_ge i.toNat es.length with h|h
      ·exact h
      ·rw[List.getElem?_eq_none h] at he;simp at he
     rcases hes with rfl|⟨b,o,rfl,hkk,cv,hm,h11,hv⟩
     ·simp at he
     ·have hilt:i<(es.length:Int):=by omega
      refine⟨.pointer (some ⟨b,o+i.toNat*n,none⟩),.bQ e'.leaves,?_,.base (.bQ _ _ _ (fun j=>cv i.toNat j) (fun j x hj=>hm _ _ _ _ he hj) (fun j x hj=>h11 _ _ _ _ he hj) (fun j x hj=>hv _ _ _ _ he hj)),hk⟩
      simp[Instr.indexAt,asIntOf,bV hu w,h0,hilt,dq hs w,fC]
    ·rename_i id k' off len cap
     obtain⟨h0,hlt,rfl,hk⟩:=hk
     rcases h.cW with⟨g,hb,hc,rfl⟩|⟨hz,_⟩
     case inr=>omega
     refine⟨.pointer (some ⟨g,(off+i.toNat)*n+0,none⟩),_,?_,.ptr hb,hk⟩
     simp[Instr.indexAt,asIntOf,bV hu w,h0,hlt,dq hs w,fC,Nat.add_mul]
    ·exact hk.elim
  case array l e=>
   cases hs:bf P e with
   |none=>simp[hs] at hk
   |some n=>
    simp only[hs,Option.map_some] at hk
    split at hk
    ·obtain⟨h0,hlt,hk⟩:=hk
     obtain⟨g,q,hb,rfl⟩:=h.gR
     refine⟨.pointer (some ⟨g,_*q+(_+i.toNat*n),none⟩),_,?_,.ptr hb,hk⟩
     simp[Instr.indexAt,asIntOf,bV hu w,h0,hlt,dq hs w,fC,Instr.sureAddr,Nat.add_assoc]
    ·obtain⟨h0,hlt,hk⟩:=hk
     obtain⟨b,o,rfl,h1⟩:=h.oy
     refine⟨.pointer (some ⟨b,o+i.toNat*n,none⟩),_,?_,.base (h1.BH _),hk⟩
     simp[Instr.indexAt,asIntOf,bV hu w,h0,hlt,dq hs w,fC,Instr.sureAddr]
    ·exact hk.elim
  all_goals exact hk.elim
def nf(P:Program)(t:TypeId)(cs:List AV)(o n:Nat)(k:AV→Prop):Prop:=
 match P.underlying t with
 |some d=>if kg d then o+n≤cs.length∧k (.agg ((cs.drop o).take n)) else ∃y,cs[o]?=some y∧k y
 |none=>False
theorem AX{t:TypeId}{cs:List AV}{vs:List Value}(hn:vs.length=cs.length)(h:∀(i:Nat) (x:AV) (u:Value),cs[i]?=some x→vs[i]?=some u→VR c x u){o n:Nat}(hs:bf P t=some n)
 {k:AV→Prop} (hk:nf P t cs o n k):∃u y,(part t vs.toArray o).run P w= .ok u w∧VR c y u∧k y:=by
 unfold nf at hk
 cases hu:P.underlying t with
 |none=>simp[hu] at hk
 |some d=>
  simp only[hu] at hk
  have ha:=qI hu w
  split at hk
  ·rename_i hd
   rw[hd] at ha
   refine⟨.agg ((vs.drop o).take n).toArray,.agg ((cs.drop o).take n),?_,.agg _ _ (by simp[hn]) ?_,hk.2⟩
   ·simp[part,ha,dq hs w]
   ·intro i x u h1 h2
    rw[List.getElem?_take] at h1 h2
    split at h1
    ·rename_i hlt
     rw[if_pos hlt] at h2
     rw[List.getElem?_drop] at h1 h2
     exact h _ _ _ h1 h2
    ·simp at h1
  ·rename_i hd
   simp only[hd] at ha
   obtain⟨y,hy,hk⟩:=hk
   have hlt:o<cs.length:=by
    rcases Nat.lt_or_ge o cs.length with h|h
    ·exact h
    ·rw[List.getElem?_eq_none h] at hy;simp at hy
   refine⟨vs[o]' ab,y,?_,h o y _ hy (by simp[hn,hlt]),hk⟩
   have:vs[o]?=some (vs[o]' ab):=by simp[hn,hlt]
   simp[part,ha,this]
def qc(P:Program)(t:TypeId)(x ix:AV)(k:AV→Prop):Prop:=
 match ix with
 |.v (.int _ i)=>
  match P.underlying t with
  |some .string=>
   match x with
   |.v (.string s)=>0≤i∧∃b,s.data[i.toNat]?=some b∧k (.v (.int .u8 b.toNat))
   |_=>False
  |some (.array l e)=>
   match x with
   |.agg cs=>0≤i∧i<l∧∃n,bf P e=some n∧nf P e cs (i.toNat*n) n k
   |_=>False
  |_=>False
 |_=>False
theorem Qd{t:TypeId}{x ix:AV}{v vi:Value}(h:VR c x v)(hi:VR c ix vi){k:AV→Prop}(hk:qc P t x ix k):
 ∃u y,(Instr.index t v vi).run P w= .ok u w∧VR c y u∧k y:=by
 unfold qc at hk
 split at hk
 case h_2=>exact hk.elim
 rename_i kd i
 cases hi.bc
 split at hk
 ·rename_i hu
  split at hk
  ·rename_i s
   cases h.bc
   obtain⟨h0,b,hb,hk⟩:=hk
   refine⟨_,_,?_,.base (.v _),hk⟩
   have hb':s[i.toNat]?=some b:=hb
   simp[Instr.index,asIntOf,bV hu w,h0,hb']
  ·exact hk.elim
 ·rename_i l e hu
  split at hk
  ·obtain⟨h0,hlt,n,hs,hk⟩:=hk
   obtain⟨vs,rfl,hn,hp⟩:=h.jt
   obtain⟨u,y,hr,hv,hk⟩:=AX (w:=w) hn hp hs hk
   refine⟨u,y,?_,hv,hk⟩
   simp[Instr.index,asIntOf,bV hu w,h0,hlt,dq hs w,hr]
  ·exact hk.elim
 ·exact hk.elim
def qa(P:Program)(t:TypeId)(x:AV)(f:Nat)(k:AV→Prop):Prop:=
 match fieldInfo P t f with
 |some (o,e,n)=>
  match x with
  |.agg cs=>nf P e cs o n k
  |_=>False
 |none=>False
theorem NN{t:TypeId}{x:AV}{v:Value}{f:Nat}(h:VR c x v){k:AV→Prop}(hk:qa P t x f k):
 ∃u y,(Instr.field t v f).run P w= .ok u w∧VR c y u∧k y:=by
 unfold qa fieldInfo at hk
 cases hu:P.underlying t with
 |none=>simp[hu] at hk
 |some d=>
  cases d<;>simp only[hu] at hk
  case struct fs=>
   cases hf:fs[f]? with
   |none=>simp[hf] at hk
   |some fd=>
    cases hs:bf P fd.type with
    |none=>simp[hf,hs] at hk
    |some n=>
     simp only[hf,hs,Option.map_some] at hk
     split at hk
     ·obtain⟨vs,rfl,hn,hp⟩:=h.jt
      obtain⟨u,y,hr,hv,hk⟩:=AX (w:=w) hn hp hs hk
      refine⟨u,y,?_,hv,hk⟩
      simp[Instr.field,bV hu w,hf,asAgg,hr]
     ·exact hk.elim
  all_goals exact hk.elim
def p9(x:AV)(i:Nat)(k:AV→Prop):Prop:=
 match x with
 |.ax cs=>∃y,cs[i]?=some y∧k y
 |_=>False
theorem L9{x:AV}{v:Value}{i:Nat}(h:VR c x v){k:AV→Prop}(hk:p9 x i k):
 ∃u y,(Instr.extract v i).run P w= .ok u w∧VR c y u∧k y:=by
 unfold p9 at hk
 split at hk
 ·rename_i cs
  obtain⟨y,hy,hk⟩:=hk
  obtain⟨vs,rfl,hn,hp⟩:=h.nN
  have hlt:i<cs.length:=by
   rcases Nat.lt_or_ge i cs.length with h|h
   ·exact h
   ·rw[List.getElem?_eq_none h] at hy;simp at hy
  have hv:vs[i]?=some (vs[i]' ab):=by simp[hn,hlt]
  refine⟨_,y,?_,hp i y _ hy hv,hk⟩
  simp[Instr.extract,hv]
 ·exact hk.elim
def rK(x:AV)(k:AV→Prop):Prop:=
 match x with
 |.ptr .. |.bQ .. =>k x
 |.v (.pointer (some _))=>k x
 |_=>False
end
end Go.az
namespace Go.az
open Go Go.RowKit
def u8(b:UInt8):AV:= .v (.int .u8 b.toNat)
theorem ZZ{a b:UInt8}(h:u8 a=u8 b):a=b:=by
 simp only[u8,AV.v.injEq,Value.int.injEq,true_and] at h
 have:a.toNat=b.toNat:=by omega
 exact UInt8.toNat_inj.1 this
theorem Z6{l m:List UInt8}(h:l.map u8=m.map u8):l=m:=by
 induction l generalizing m with
 |nil=>cases m with
  |nil=>rfl
  |cons=>simp at h
 |cons a l ih=>cases m with
  |nil=>simp at h
  |cons b m=>
   simp only[List.map_cons,List.cons.injEq] at h
   rw[ZZ h.1,ih h.2]
section
variable{P:Program}{w0:World}{im0:cU}{c:Ctx}{st:St}{a:Act}{w:World}
def rL(x y z:AV)(k:AV→Prop):Prop:=
 match x with
 |.v (.bool b)=>k (bif b then y else z)
 |_=>False
def qh(op:UnOp)(x:AV)(k:AV→Prop):Prop:=
 match op,x with
 |.not,.v (.bool b)=>k (.v (.bool (!b)))
 |.neg,.v (.int kd n)=>k (.v (.int kd (kd.wrap (0-n))))
 |.xor,.v (.int kd n)=>k (.v (.int kd (kd.wrap ((BitVec.ofInt kd.bits (if kd.signed then -1 else kd.max) ^^^ BitVec.ofInt kd.bits n).toNat))))
 |_,_=>False
theorem aaD{op:UnOp}{x:AV}{v:Value}(h:VR c x v){k:AV→Prop}(hk:qh op x k):∃u y,(Op.unary op v).run P w= .ok u w∧VR c y u∧k y:=by
 unfold qh at hk
 split at hk
 ·cases h.bc;exact⟨_,_,by simp[Op.unary],.base (.v _),hk⟩
 ·cases h.bc;exact⟨_,_,by simp[Op.unary,Op.intArith],.base (.v _),hk⟩
 ·cases h.bc;exact⟨_,_,by simp only[Op.unary,Op.intBits];rfl,.base (.v _),hk⟩
 ·exact hk.elim
def oJ(op:BinOp)(kd:IntKind)(x:Int)(kd':IntKind)(y:Int)(k:AV→Prop):Prop:=
 match op with
 |.shl=>0≤y∧k (.v (.int kd (kd.wrap (x*2^(min y.toNat kd.bits)))))
 |.shr=>0≤y∧k (.v (.int kd (x.fdiv (2^(min y.toNat kd.bits)))))
 |.add=>kd=kd'∧k (.v (.int kd (kd.wrap (x+y))))
 |.sub=>kd=kd'∧k (.v (.int kd (kd.wrap (x-y))))
 |.mul=>kd=kd'∧k (.v (.int kd (kd.wrap (x*y))))
 |.quo=>kd=kd'∧y≠0∧k (.v (.int kd (kd.wrap (x.tdiv y))))
 |.rem=>kd=kd'∧y≠0∧k (.v (.int kd (x.tmod y)))
 |.and=>kd=kd'∧k (.v (.int kd (kd.wrap ((BitVec.ofInt kd.bits x &&& BitVec.ofInt kd.bits y).toNat))))
 |.or=>kd=kd'∧k (.v (.int kd (kd.wrap ((BitVec.ofInt kd.bits x |||BitVec.ofInt kd.bits y).toNat))))
 |.xor=>kd=kd'∧k (.v (.int kd (kd.wrap ((BitVec.ofInt kd.bits x ^^^ BitVec.ofInt kd.bits y).toNat))))
 |.andNot=>kd=kd'∧k (.v (.int kd (kd.wrap ((BitVec.ofInt kd.bits x &&& ~~~(BitVec.ofInt kd.bits y)).toNat))))
 |.eql=>kd=kd'∧k (.v (.bool (decide (x=y))))
 |.neq=>kd=kd'∧k (.v (.bool (!decide (x=y))))
 |.lss=>kd=kd'∧k (.v (.bool (decide (x<y))))
 |.leq=>kd=kd'∧k (.v (.bool (decide (x≤y))))
 |.gtr=>kd=kd'∧k (.v (.bool (decide (y<x))))
 |.geq=>kd=kd'∧k (.v (.bool (decide (y≤x))))
theorem Qh{op:BinOp}{t:TypeId}{kd kd':IntKind}{x y:Int}{k:AV→Prop}(hk:oJ op kd x kd' y k):
 ∃u z,(binOp op t (.int kd x) (.int kd' y)).run P w= .ok u w∧VR c z u∧k z:=by
 cases op<;>simp only[oJ] at hk
 case shl=>exact⟨_,_,by simp only[binOp,Op.shift];rw[if_neg ab];rfl,.base (.v _),hk.2⟩
 case shr=>exact⟨_,_,by simp only[binOp,Op.shift];rw[if_neg ab];rfl,.base (.v _),hk.2⟩
 case quo=>obtain⟨rfl,h0,hk⟩:=hk;exact⟨_,_,by simp only[binOp,Op.intDiv,ne_eq,not_true_eq_false,if_false];rw[if_neg h0];rfl,.base (.v _),hk⟩
 case rem=>obtain⟨rfl,h0,hk⟩:=hk;exact⟨_,_,by simp only[binOp,Op.intDiv,ne_eq,not_true_eq_false,if_false];rw[if_neg h0];rfl,.base (.v _),hk⟩
 all_goals
  obtain⟨rfl,hk⟩:=hk
  exact⟨_,_,by simp only[binOp,Op.intArith,Op.intBits,Op.intCmp,ne_eq,not_true_eq_false,if_false];rfl,.base (.v _),hk⟩
def oL(op:BinOp)(x y:ByteArray)(k:AV→Prop):Prop:=
 match op with
 |.add=>x.data.toList.length+y.data.toList.length≤9223372036854775807∧k (.v (.string ⟨(x.data.toList++y.data.toList).toArray⟩))
 |.eql=>k (.v (.bool (decide (x.data.toList=y.data.toList))))
 |.neq=>k (.v (.bool (!decide (x.data.toList=y.data.toList))))
 |.lss=>k (.v (.bool (Op.bytesLess x.data.toList y.data.toList)))
 |.leq=>k (.v (.bool (Op.bytesLess x.data.toList y.data.toList||decide (x.data.toList=y.data.toList))))
 |.gtr=>k (.v (.bool (!(Op.bytesLess x.data.toList y.data.toList||decide (x.data.toList=y.data.toList)))))
 |.geq=>k (.v (.bool (!(Op.bytesLess x.data.toList y.data.toList))))
 |_=>False
theorem mc{α:Type}[BEq α][LawfulBEq α][DecidableEq α](a b:α):(a==b)=decide (a=b):=by
 by_cases h:a=b
 ·subst h;simp
 ·simp[h]
theorem Ft(x y:ByteArray):x++y=⟨(x.data.toList++y.data.toList).toArray⟩:=by
 obtain⟨⟨l⟩⟩:=x
 obtain⟨⟨m⟩⟩:=y
 apply ByteArray.ext
 simp
theorem X7{op:BinOp}{t:TypeId}{x y:ByteArray}{k:AV→Prop}(hk:oL op x y k):
 ∃u z,(binOp op t (.string x) (.string y)).run P w= .ok u w∧VR c z u∧k z:=by
 cases op<;>simp only[oL] at hk
 case add=>
  refine⟨_,_,?_,.base (.v _),hk.2⟩
  have h1:x.size=x.data.toList.length:=rfl
  have h2:y.size=y.data.toList.length:=rfl
  simp only[binOp,Op.stringOp]
  have hm:IntKind.i64.max=9223372036854775807:=by decide
  rw[if_neg (by rw[hm];omega),Ft];rfl
 all_goals first|exact hk.elim|skip
 all_goals
  refine⟨_,_,?_,.base (.v _),hk⟩
  simp[binOp,Op.stringOp,ByteArray.toList_eq,mc]
def pd(P:Program):Nat→List Field→Option (List Nat)
 |_,[]=>some []
 |i,f::fs=>
  if f.name= "_" ∨f.offset≠i then none else
  match P.underlying f.type,pd P (i+1) fs with
  |some (.int _),some l=>some (0::l)
  |some .string,some l=>some (1::l)
  |some .bool,some l=>some (2::l)
  |_,_=>none
def lF(P:Program):Nat→List Field→Option (List Nat)
 |_,[]=>some []
 |i,f::fs=>
  if f.name= "_" ∨f.offset≠i then none else
  match P.underlying f.type with
  |some (.int _)=>(lF P (i+1) fs).map (0:: ·)
  |some .string=>(lF P (i+1) fs).map (1:: ·)
  |some .bool=>(lF P (i+1) fs).map (2:: ·)
  |some (.struct gs)=>match pd P 0 gs.toList with
   |some ks=>if P.stoodInHeld f.type=false∧bf P f.type=some ks.length then(lF P (i+ks.length) fs).map (ks++ ·) else none
   |none=>none
  |_=>none
def lG(P:Program)(t:TypeId):Option (List Nat):=
 match P.underlying t with
 |some (.struct fs)=>if P.stoodInHeld t||P.eqGuardType P.depth t then none else lF P 0 fs.toList
 |_=>none
def cd:List Nat→List AV→List AV→Option Bool
 |[],[],[]=>some true
 |0::ks,.v (.int k a)::xs,.v (.int k' b)::ys=>if k=k' then(cd ks xs ys).map (decide (a=b)&& ·) else none
 |1::ks,.v (.string a)::xs,.v (.string b)::ys=>(cd ks xs ys).map (decide (a.data.toList=b.data.toList)&& ·)
 |2::ks,.v (.bool a)::xs,.v (.bool b)::ys=>(cd ks xs ys).map (decide (a=b)&& ·)
 |_,_,_=>none
theorem tT{ks:List Nat}{xs ys:List AV}{b:Bool}(h:cd (0::ks) xs ys=some b):
 ∃k a d xs' ys' b',xs= .v (.int k a)::xs'∧ys= .v (.int k d)::ys'∧cd ks xs' ys'=some b'∧b=(decide (a=d)&&b'):=by
 cases xs with
 |nil=>simp[cd] at h
 |cons x xs=>
  cases ys with
  |nil=>cases x<;>simp[cd] at h
  |cons y ys=>
   cases x<;>try(simp[cd] at h;done)
   case v x=>
   cases y<;>try(simp[cd] at h;done)
   case v y=>
   cases x<;>try(simp[cd] at h;done)
   case int k a=>
   cases y<;>try(simp[cd] at h;done)
   case int k' d=>
   simp only[cd] at h
   split at h
   ·rename_i hk
    subst hk
    cases hb:cd ks xs ys with
    |none=>simp[hb] at h
    |some b'=>exact⟨k,a,d,xs,ys,b',rfl,rfl,hb,by simpa[hb] using h.symm⟩
   ·simp at h
theorem tU{ks:List Nat}{xs ys:List AV}{b:Bool}(h:cd (1::ks) xs ys=some b):
 ∃(a d:ByteArray) (xs' ys':List AV) (b':Bool),xs= .v (.string a)::xs'∧ys= .v (.string d)::ys'∧cd ks xs' ys'=some b'∧b=(decide (a.data.toList=d.data.toList)&&b'):=by
 cases xs with
 |nil=>simp[cd] at h
 |cons x xs=>
  cases ys with
  |nil=>cases x<;>simp[cd] at h
  |cons y ys=>
   cases x<;>try(simp[cd] at h;done)
   case v x=>
   cases y<;>try(simp[cd] at h;done)
   case v y=>
   cases x<;>try(simp[cd] at h;done)
   case string a=>
   cases y<;>try(simp[cd] at h;done)
   case string d=>
   simp only[cd] at h
   cases hb:cd ks xs ys with
   |none=>simp[hb] at h
   |some b'=>exact⟨a,d,xs,ys,b',rfl,rfl,hb,by simpa[hb] using h.symm⟩
theorem tV{ks:List Nat}{xs ys:List AV}{b:Bool}(h:cd (2::ks) xs ys=some b):
 ∃(a d:Bool) (xs' ys':List AV) (b':Bool),xs= .v (.bool a)::xs'∧ys= .v (.bool d)::ys'∧cd ks xs' ys'=some b'∧b=(decide (a=d)&&b'):=by
 cases xs with
 |nil=>simp[cd] at h
 |cons x xs=>
  cases ys with
  |nil=>cases x<;>simp[cd] at h
  |cons y ys=>
   cases x<;>try(simp[cd] at h;done)
   case v x=>
   cases y<;>try(simp[cd] at h;done)
   case v y=>
   cases x<;>try(simp[cd] at h;done)
   case bool a=>
   cases y<;>try(simp[cd] at h;done)
   case bool d=>
   simp only[cd] at h
   cases hb:cd ks xs ys with
   |none=>simp[hb] at h
   |some b'=>exact⟨a,d,xs,ys,b',rfl,rfl,hb,by simpa[hb] using h.symm⟩
theorem yM{d:Nat}:∀{fs:List Field} {ks:List Nat} {xs ys:List AV} {us vs:List Value} {i:Nat} {b:Bool} (_:pd P i fs=some ks) (_:cd ks xs ys=some b)
 (_:∀(j:Nat) (x:AV),xs[j]?=some x→∃u,us[i+j]?=some u∧VR c x u) (_:∀(j:Nat) (x:AV),ys[j]?=some x→∃u,vs[i+j]?=some u∧VR c x u),
 (Op.eqFields (d+1) us.toArray vs.toArray fs).run P w= .ok b w
 |[],ks,xs,ys,us,vs,i,b,hf,he,hx,hy=>by
  simp only[pd,Option.some.injEq] at hf;subst hf
  cases xs<;>cases ys<;>simp[cd] at he
  subst he;simp[Op.eqFields]
 |f::fs,ks,xs,ys,us,vs,i,b,hf,he,hx,hy=>by
  simp only[pd] at hf
  split at hf
  ·simp at hf
  rename_i hno
  have hn:f.name≠ "_" :=fun h=>hno (.inl h)
  have ho:f.offset=i:=Classical.byContradiction fun h=>hno (.inr h)
  have key:∀(x y:AV) (xs' ys':List AV) (ks':List Nat) (e b':Bool) (dsc:TypeDesc),xs=x::xs'→ys=y::ys'→pd P (i+1) fs=some ks'→cd ks' xs' ys'=some b'→b=(e&&b')→
   P.underlying f.type=some dsc→kg dsc=false→(∀u v,VR c x u→VR c y v→(Op.equalIn (d+1) f.type u v).run P w= .ok e w)→
   (Op.eqFields (d+1) us.toArray vs.toArray (f::fs)).run P w= .ok b w:=by
   intro x y xs' ys' ks' e b' dsc h1 h2 h3 h4 h5 h6 h7 h8
   subst h1;subst h2;subst h5
   obtain⟨u,hu,hvu⟩:=hx 0 x rfl
   obtain⟨v,hv,hvv⟩:=hy 0 y rfl
   have ih:=yM (d:=d) (us:=us) (vs:=vs) h3 h4 (fun j x hj=>by have:=hx (j+1) x hj;rwa[show i+(j+1)=i+1+j by omega] at this)
    (fun j x hj=>by have:=hy (j+1) x hj;rwa[show i+(j+1)=i+1+j by omega] at this)
   have ha:=qI h6 w
   rw[h7] at ha
   simp only[Nat.add_zero] at hu hv
   have h9:=h8 u v hvu hvv
   cases e with
   |false=>simp[Op.eqFields,hn,part,ha,ho,hu,hv,h9]
   |true=>simp[Op.eqFields,hn,part,ha,ho,hu,hv,h9,ih]
  split at hf
  ·rename_i kd l hu hl
   simp only[Option.some.injEq] at hf;subst hf
   obtain⟨k1,a1,b1,xs1,ys1,b',rfl,rfl,hb,hbe⟩:=tT he
   exact key _ _ _ _ _ _ b' _ rfl rfl hl hb hbe hu rfl (fun u v h1 h2=>by
          cases h1.bc;cases h2.bc
          rw[run_equalIn_int w _ _ _ _ _ _ hu,mc])
  ·rename_i l hu hl
   simp only[Option.some.injEq] at hf;subst hf
   obtain⟨a1,b1,xs1,ys1,b',rfl,rfl,hb,hbe⟩:=tU he
   exact key _ _ _ _ _ _ b' _ rfl rfl hl hb hbe hu rfl (fun u v h1 h2=>by
         cases h1.bc;cases h2.bc
         rw[run_equalIn_string w _ _ _ _ hu,ByteArray.toList_eq,ByteArray.toList_eq,mc])
  ·rename_i l hu hl
   simp only[Option.some.injEq] at hf;subst hf
   obtain⟨a1,b1,xs1,ys1,b',rfl,rfl,hb,hbe⟩:=tV he
   exact key _ _ _ _ _ _ b' _ rfl rfl hl hb hbe hu rfl (fun u v h1 h2=>by
         cases h1.bc;cases h2.bc
         rw[run_equalIn_bool' w _ _ _ _ hu,mc])
  ·simp at hf
theorem rU:∀{ks ls:List Nat} {xs ys:List AV} {b:Bool},cd (ks++ls) xs ys=some b→∃(xs1 xs2 ys1 ys2:List AV) (b1 b2:Bool),xs=xs1++xs2∧ys=ys1++ys2∧
 cd ks xs1 ys1=some b1∧cd ls xs2 ys2=some b2∧b=(b1&&b2)∧xs1.length=ks.length∧ys1.length=ks.length
 |[],ls,xs,ys,b,h=>⟨[],xs,[],ys,true,b,rfl,rfl,rfl,h,by simp,rfl,rfl⟩
 |0::ks,ls,xs,ys,b,h=>by
  obtain⟨k,a,d,xs',ys',b',rfl,rfl,hb,rfl⟩:=tT h
  obtain⟨x1,x2,y1,y2,b1,b2,rfl,rfl,h1,h2,rfl,hx,hy⟩:=rU hb
  exact⟨_::x1,x2,_::y1,y2,decide (a=d)&&b1,b2,rfl,rfl,by simp[cd,h1],h2,by rw[Bool.and_assoc],by simp[hx],by simp[hy]⟩
 |1::ks,ls,xs,ys,b,h=>by
  obtain⟨a,d,xs',ys',b',rfl,rfl,hb,rfl⟩:=tU h
  obtain⟨x1,x2,y1,y2,b1,b2,rfl,rfl,h1,h2,rfl,hx,hy⟩:=rU hb
  exact⟨_::x1,x2,_::y1,y2,decide (a.data.toList=d.data.toList)&&b1,b2,rfl,rfl,by simp[cd,h1],h2,by rw[Bool.and_assoc],by simp[hx],by simp[hy]⟩
 |2::ks,ls,xs,ys,b,h=>by
  obtain⟨a,d,xs',ys',b',rfl,rfl,hb,rfl⟩:=tV h
  obtain⟨x1,x2,y1,y2,b1,b2,rfl,rfl,h1,h2,rfl,hx,hy⟩:=rU hb
  exact⟨_::x1,x2,_::y1,y2,decide (a=d)&&b1,b2,rfl,rfl,by simp[cd,h1],h2,by rw[Bool.and_assoc],by simp[hx],by simp[hy]⟩
 |(n+3)::ks,ls,xs,ys,b,h=>by simp[cd] at h
theorem uI{d:Nat}:∀{fs:List Field} {ks:List Nat} {xs ys:List AV} {us vs:List Value} {i:Nat} {b:Bool} (_:lF P i fs=some ks) (_:cd ks xs ys=some b)
 (_:∀(j:Nat) (x:AV),xs[j]?=some x→∃u,us[i+j]?=some u∧VR c x u) (_:∀(j:Nat) (x:AV),ys[j]?=some x→∃u,vs[i+j]?=some u∧VR c x u),
 (Op.eqFields (d+2) us.toArray vs.toArray fs).run P w= .ok b w
 |[],ks,xs,ys,us,vs,i,b,hf,he,hx,hy=>by
  simp only[lF,Option.some.injEq] at hf;subst hf
  cases xs<;>cases ys<;>simp[cd] at he
  subst he;simp[Op.eqFields]
 |f::fs,ks,xs,ys,us,vs,i,b,hf,he,hx,hy=>by
  simp only[lF] at hf
  split at hf
  ·simp at hf
  rename_i hno
  have hn:f.name≠ "_" :=fun h=>hno (.inl h)
  have ho:f.offset=i:=Classical.byContradiction fun h=>hno (.inr h)
  have key:∀(x y:AV) (xs' ys':List AV) (ks':List Nat) (e b':Bool) (dsc:TypeDesc),xs=x::xs'→ys=y::ys'→lF P (i+1) fs=some ks'→cd ks' xs' ys'=some b'→b=(e&&b')→
   P.underlying f.type=some dsc→kg dsc=false→(∀u v,VR c x u→VR c y v→(Op.equalIn (d+2) f.type u v).run P w= .ok e w)→
   (Op.eqFields (d+2) us.toArray vs.toArray (f::fs)).run P w= .ok b w:=by
   intro x y xs' ys' ks' e b' dsc h1 h2 h3 h4 h5 h6 h7 h8
   subst h1;subst h2;subst h5
   obtain⟨u,hu,hvu⟩:=hx 0 x rfl
   obtain⟨v,hv,hvv⟩:=hy 0 y rfl
   have ih:=uI (d:=d) (us:=us) (vs:=vs) h3 h4 (fun j x hj=>by have:=hx (j+1) x hj;rwa[show i+(j+1)=i+1+j by omega] at this)
    (fun j x hj=>by have:=hy (j+1) x hj;rwa[show i+(j+1)=i+1+j by omega] at this)
   have ha:=qI h6 w
   rw[h7] at ha
   simp only[Nat.add_zero] at hu hv
   have h9:=h8 u v hvu hvv
   cases e with
   |false=>simp[Op.eqFields,hn,part,ha,ho,hu,hv,h9]
   |true=>simp[Op.eqFields,hn,part,ha,ho,hu,hv,h9,ih]
  split at hf
  ·rename_i kd hu
   obtain⟨l,hl,rfl⟩:=Option.map_eq_some_iff.1 hf
   obtain⟨k1,a1,b1,xs1,ys1,b',rfl,rfl,hb,hbe⟩:=tT he
   exact key _ _ _ _ _ _ b' _ rfl rfl hl hb hbe hu rfl (fun u v h1 h2=>by
          cases h1.bc;cases h2.bc
          rw[run_equalIn_int w _ _ _ _ _ _ hu,mc])
  ·rename_i hu
   obtain⟨l,hl,rfl⟩:=Option.map_eq_some_iff.1 hf
   obtain⟨a1,b1,xs1,ys1,b',rfl,rfl,hb,hbe⟩:=tU he
   exact key _ _ _ _ _ _ b' _ rfl rfl hl hb hbe hu rfl (fun u v h1 h2=>by
         cases h1.bc;cases h2.bc
         rw[run_equalIn_string w _ _ _ _ hu,ByteArray.toList_eq,ByteArray.toList_eq,mc])
  ·rename_i hu
   obtain⟨l,hl,rfl⟩:=Option.map_eq_some_iff.1 hf
   obtain⟨a1,b1,xs1,ys1,b',rfl,rfl,hb,hbe⟩:=tV he
   exact key _ _ _ _ _ _ b' _ rfl rfl hl hb hbe hu rfl (fun u v h1 h2=>by
         cases h1.bc;cases h2.bc
         rw[run_equalIn_bool' w _ _ _ _ hu,mc])
  ·rename_i gs hu
   split at hf
   ·rename_i ks1 hk1
    split at hf
    ·rename_i hst
     obtain⟨l,hl,rfl⟩:=Option.map_eq_some_iff.1 hf
     obtain⟨x1,x2,y1,y2,b1,b2,rfl,rfl,he1,he2,rfl,hlx,hly⟩:=rU he
     have ih:=uI (d:=d) (us:=us) (vs:=vs) hl he2
      (fun j x hj=>by have:=hx (ks1.length+j) x (by rw[List.getElem?_append_right ab];simpa[hlx] using hj);rwa[show i+(ks1.length+j)=i+ks1.length+j by omega] at this)
      (fun j x hj=>by have:=hy (ks1.length+j) x (by rw[List.getElem?_append_right ab];simpa[hly] using hj);rwa[show i+(ks1.length+j)=i+ks1.length+j by omega] at this)
     have ha:=qI hu w
     have hfo:P.fieldsOf f.type=gs:=by simp[Program.fieldsOf,hu]
     have hin:=run_equalIn_struct (P:=P) w (d+1) f.type ((us.drop i).take ks1.length).toArray ((vs.drop i).take ks1.length).toArray (by rw[hfo];exact hu) hst.1
     rw[hfo,yM (P:=P) (w:=w) (c:=c) (d:=d) (i:=0) hk1 he1
      (fun j x hj=>by
        have hj':j<x1.length:=by
         rcases Nat.lt_or_ge j x1.length with h|h
         ·exact h
         ·rw[List.getElem?_eq_none h] at hj;simp at hj
        obtain⟨u,hu1,hu2⟩:=hx j x (by rw[List.getElem?_append_left hj'];exact hj)
        exact⟨u,by rw[Nat.zero_add,List.getElem?_take,if_pos ab,List.getElem?_drop];exact hu1,hu2⟩)
      (fun j x hj=>by
        have hj':j<y1.length:=by
         rcases Nat.lt_or_ge j y1.length with h|h
         ·exact h
         ·rw[List.getElem?_eq_none h] at hj;simp at hj
        obtain⟨u,hu1,hu2⟩:=hy j x (by rw[List.getElem?_append_left hj'];exact hj)
        exact⟨u,by rw[Nat.zero_add,List.getElem?_take,if_pos ab,List.getElem?_drop];exact hu1,hu2⟩)] at hin
     have p1:(part f.type us.toArray i).run P w= .ok (.agg ((us.drop i).take ks1.length).toArray) w:=by simp[part,ha,kg,dq hst.2 w]
     have p2:(part f.type vs.toArray i).run P w= .ok (.agg ((vs.drop i).take ks1.length).toArray) w:=by simp[part,ha,kg,dq hst.2 w]
     cases b1 with
     |false=>simp[Op.eqFields,hn,ho,p1,p2,hin]
     |true=>simp[Op.eqFields,hn,ho,p1,p2,hin,ih]
    ·simp at hf
   ·simp at hf
  ·simp at hf
def fM(P:Program)(t:TypeId)(x y:AV)(k:Bool→Prop):Prop:=
 match x,y with
 |.v (.bool a),.v (.bool b)=>P.underlying t=some .bool∧k (decide (a=b))
 |.aw,.aw=>(∃e,P.underlying t=some (.slice e))∧k true
 |.sl _ _ es,.aw=>(∃e,P.underlying t=some (.slice e))∧∀b,(es≠[]→b=false)→k b
 |.aw,.sl _ _ es=>(∃e,P.underlying t=some (.slice e))∧∀b,(es≠[]→b=false)→k b
 |.mu _ _ _ n _,.aw=>(∃e,P.underlying t=some (.slice e))∧∀b,(n≠0→b=false)→k b
 |.v .nilIface,.v .nilIface=>(∃ms,P.underlying t=some (.interface ms))∧k true
 |.v (.iface _ _),.v .nilIface=>(∃ms,P.underlying t=some (.interface ms))∧k false
 |.agg xs,.agg ys=>∃ks b,lG P t=some ks∧cd ks xs ys=some b∧k b
 |_,_=>False
theorem my{t:TypeId}{u v:Value}{b:Bool}(h:∀d,(Op.equalIn (d+1) t u v).run P w= .ok b w):(Op.equal t u v).run P w= .ok b w:=h 9999
theorem lD{t:TypeId}{u v:Value}{b:Bool}(h0:binOp .eql t u v=(do pure (.bool (←Op.equal t u v))))(h:(Op.equal t u v).run P w= .ok b w):(binOp .eql t u v).run P w= .ok (.bool b) w:=by
 rw[h0];simp[h]
theorem lR{t:TypeId}{u v:Value}{b:Bool}(h0:binOp .neq t u v=(do pure (.bool (!(←Op.equal t u v)))))(h:(Op.equal t u v).run P w= .ok b w):(binOp .neq t u v).run P w= .ok (.bool (!b)) w:=by
 rw[h0];simp[h]
theorem yO{t:TypeId}{x y:AV}{u v:Value}(hx:VR c x u)(hy:VR c y v){k:Bool→Prop}(hk:fM P t x y k)(xo yo:Operand)(hc:v= .nilIface→∃z,yo= .const z):
 ∃b,k b∧(eqGuard .eql t xo yo u v).run P w= .ok () w∧(eqGuard .neq t xo yo u v).run P w= .ok () w∧
  (binOp .eql t u v).run P w= .ok (.bool b) w∧(binOp .neq t u v).run P w= .ok (.bool (!b)) w:=by
 unfold fM at hk
 split at hk
 ·rename_i a b
  cases hx.bc;cases hy.bc
  obtain⟨hu,hk⟩:=hk
  have he:(Op.equal t (.bool a) (.bool b)).run P w= .ok (decide (a=b)) w:=my fun d=>by rw[run_equalIn_bool' w d t a b hu,mc]
  exact⟨_,hk,rfl,rfl,lD rfl he,lR rfl he⟩
 ·cases hx.ez;cases hy.ez
  obtain⟨⟨e,hu⟩,hk⟩:=hk
  have he:(Op.equal t (.slice none 0 0) (.slice none 0 0)).run P w= .ok true w:=my fun d=>by simp[Op.equalIn,bV hu]
  exact⟨_,hk,rfl,rfl,lD rfl he,lR rfl he⟩
 ·rename_i t' k' es
  cases hy.ez
  obtain⟨⟨e,hu⟩,hk⟩:=hk
  obtain⟨a,cap,rfl,_,hes⟩:=hx.fu.fp
  have he:(Op.equal t (.slice a es.length cap) (.slice none 0 0)).run P w= .ok a.isNone w:=my fun d=>by cases a<;>simp[Op.equalIn,bV hu]
  refine⟨_,hk _ (fun hne=>?_),rfl,rfl,lD rfl he,lR rfl he⟩
  rcases hes with rfl|⟨b,o,rfl,_⟩
  ·exact absurd rfl hne
  ·rfl
 ·rename_i t' k' es
  cases hx.ez
  obtain⟨⟨e,hu⟩,hk⟩:=hk
  obtain⟨a,cap,rfl,_,hes⟩:=hy.fu.fp
  have he:(Op.equal t (.slice none 0 0) (.slice a es.length cap)).run P w= .ok a.isNone w:=my fun d=>by cases a<;>simp[Op.equalIn,bV hu]
  refine⟨_,hk _ (fun hne=>?_),rfl,rfl,lD rfl he,lR rfl he⟩
  rcases hes with rfl|⟨b,o,rfl,_⟩
  ·exact absurd rfl hne
  ·rfl
 ·cases hy.ez
  obtain⟨⟨e,hu⟩,hk⟩:=hk
  have he:∀g n m,(Op.equal t (.slice (some g) n m) (.slice none 0 0)).run P w= .ok false w:=fun g n m=>my fun d=>by simp[Op.equalIn,bV hu]
  have he2:(Op.equal t (.slice none 0 0) (.slice none 0 0)).run P w= .ok true w:=my fun d=>by simp[Op.equalIn,bV hu]
  rcases hx.cW with⟨g,hb,hc',rfl⟩|⟨hz,_,rfl⟩
  ·exact⟨_,hk false (fun _=>rfl),rfl,rfl,lD rfl (he _ _ _),lR rfl (he _ _ _)⟩
  ·exact⟨_,hk true (fun h=>absurd hz h),rfl,rfl,lD rfl he2,lR rfl he2⟩
 ·cases hx.bc;cases hy.bc
  obtain⟨⟨e,hu⟩,hk⟩:=hk
  obtain⟨z,rfl⟩:=hc rfl
  have he:(Op.equal t .nilIface .nilIface).run P w= .ok true w:=my fun d=>by simp[Op.equalIn,bV hu]
  refine⟨true,hk,?_,?_,lD rfl he,lR rfl he⟩<;>simp[eqGuard]
 ·cases hx.bc;cases hy.bc
  obtain⟨⟨e,hu⟩,hk⟩:=hk
  have he:∀g n,(Op.equal t (.iface g n) .nilIface).run P w= .ok false w:=fun g n=>my fun d=>by simp[Op.equalIn,bV hu]
  exact⟨false,hk,rfl,rfl,lD rfl (he _ _),lR rfl (he _ _)⟩
 ·rename_i xs ys
  obtain⟨ks,b,hf,he,hk⟩:=hk
  obtain⟨us,rfl,hn,hp⟩:=hx.jt
  obtain⟨vs,rfl,hn',hp'⟩:=hy.jt
  unfold lG at hf
  split at hf
  ·rename_i fs hu
   split at hf
   ·simp at hf
   ·rename_i hno
    simp only[Bool.or_eq_true,not_or,Bool.not_eq_true] at hno
    have hfo:P.fieldsOf t=fs:=by simp[Program.fieldsOf,hu]
    have hrun:=fun d=>run_equalIn_struct w (d+2) t us.toArray vs.toArray (by rw[hfo];exact hu) hno.1
    have hfl:=fun d=>uI (P:=P) (w:=w) (c:=c) (d:=d) (us:=us) (vs:=vs) hf he
     (fun j x hj=>by
       have hlt:j<xs.length:=by
        rcases Nat.lt_or_ge j xs.length with h|h
        ·exact h
        ·rw[List.getElem?_eq_none h] at hj;simp at hj
       have hv:us[j]?=some (us[j]' ab):=by simp[hn,hlt]
       exact⟨_,by rw[Nat.zero_add];exact hv,hp j x _ hj hv⟩)
     (fun j x hj=>by
       have hlt:j<ys.length:=by
        rcases Nat.lt_or_ge j ys.length with h|h
        ·exact h
        ·rw[List.getElem?_eq_none h] at hj;simp at hj
       have hv:vs[j]?=some (vs[j]' ab):=by simp[hn',hlt]
       exact⟨_,by rw[Nat.zero_add];exact hv,hp' j x _ hj hv⟩)
    have hE:(Op.equal t (.agg us.toArray) (.agg vs.toArray)).run P w= .ok b w:=by
     have h1:=hrun 9997
     rw[hfo,hfl] at h1
     exact h1
    exact⟨b,hk,run_eqGuard_agg w _ t xo yo _ _ hno.2,run_eqGuard_agg w _ t xo yo _ _ hno.2,lD rfl hE,lR rfl hE⟩
  ·simp at hf
 ·exact hk.elim
def na(P:Program)(op:BinOp)(t:TypeId)(x y:AV)(k:AV→Prop):Prop:=
 match x,y with
 |.v (.int kd a),.v (.int kd' b)=>oJ op kd a kd' b k
 |.v (.string a),.v (.string b)=>oL op a b k
 |x,y=>
  match op with
  |.eql=>fM P t x y fun b=>k (.v (.bool b))
  |.neq=>fM P t x y fun b=>k (.v (.bool (!b)))
  |_=>False
theorem zj(op:BinOp)(t:TypeId)(xo yo:Operand)(u v:Value)(h:∀a b:Array Value,u≠.agg a∨v≠.agg b)(h':u≠.nilIface):(eqGuard op t xo yo u v).run P w= .ok () w:=by
 unfold eqGuard
 cases op<;>simp
 all_goals
  split<;>first
   |exact(h' rfl).elim
   |(rename_i x y;rcases h x y with h|h<;>exact(h rfl).elim)
   |rfl
theorem EW{op:BinOp}{t:TypeId}{x y:AV}{u v:Value}(hx:VR c x u)(hy:VR c y v){k:AV→Prop}(hk:na P op t x y k)(xo yo:Operand)(hc:v= .nilIface→∃z,yo= .const z):
 (eqGuard op t xo yo u v).run P w= .ok () w∧∃z r,(binOp op t u v).run P w= .ok r w∧VR c z r∧k z:=by
 unfold na at hk
 split at hk
 ·cases hx.bc;cases hy.bc
  refine⟨zj _ _ _ _ _ _ (fun _ _=> .inl aB) aB,?_⟩
  obtain⟨u,z,h1,h2,h3⟩:=Qh (P:=P) (c:=c) (w:=w) (t:=t) hk
  exact⟨z,u,h1,h2,h3⟩
 ·cases hx.bc;cases hy.bc
  refine⟨zj _ _ _ _ _ _ (fun _ _=> .inl aB) aB,?_⟩
  obtain⟨u,z,h1,h2,h3⟩:=X7 (P:=P) (c:=c) (w:=w) (t:=t) hk
  exact⟨z,u,h1,h2,h3⟩
 ·split at hk
  ·obtain⟨b,hb,h1,h2,h3,h4⟩:=yO (w:=w) hx hy hk xo yo hc
   exact⟨h1,_,_,h3,.base (.v _),hb⟩
  ·obtain⟨b,hb,h1,h2,h3,h4⟩:=yO (w:=w) hx hy hk xo yo hc
   exact⟨h2,_,_,h4,.base (.v _),hb⟩
  ·exact hk.elim
end
end Go.az
namespace Go.az
open Go Go.RowKit
section
variable{P:Program}{w0:World}{im0:cU}{c:Ctx}{st:St}{a:Act}{w:World}
def oI(P:Program)(s d:TypeId)(x:AV)(k:AV→Prop):Prop:=
 match P.underlying d with
 |some (.int kd)=>(∃ds,P.underlying s=some ds)∧
  match x with
  |.v (.int _ n)=>k (.v (.int kd (kd.wrap n)))
  |_=>False
 |some .string=>
  match x with
  |.v (.int _ n)=>(∃ds,P.underlying s=some ds)∧k (.v (.string ⟨(Utf8.encode n).data.toList.toArray⟩))
  |.v (.string z)=>(∃ds,P.underlying s=some ds)∧k (.v (.string z))
  |.aw=>(∃e,P.underlying s=some (.slice e)∧P.underlying e=some (.int .u8))∧k (.v (.string ⟨(([]:List UInt8)).toArray⟩))
  |.sl _ q es=>(∃e,P.underlying s=some (.slice e)∧P.underlying e=some (.int .u8))∧q=1∧∃l:List UInt8,es=l.map u8∧k (.v (.string ⟨l.toArray⟩))
  |_=>False
 |_=>False
theorem Kq(r:Rel w0 im0 c st a w){s d:TypeId}{x:AV}{v:Value}(h:VR c x v){k:AV→Prop}(hk:oI P s d x k):
 ∃u y,(convert s d v).run P w= .ok u w∧VR c y u∧k y:=by
 unfold oI at hk
 split at hk
 ·rename_i kd hd
  obtain⟨⟨ds,hs⟩,hk⟩:=hk
  split at hk
  ·rename_i kk n
   cases h.bc
   exact⟨_,_,by simp[convert,bV hs,bV hd,Conv.intToInt],.base (.v _),hk⟩
  ·exact hk.elim
 ·rename_i hd
  split at hk
  ·rename_i kk n
   cases h.bc
   obtain⟨⟨ds,hs⟩,hk⟩:=hk
   refine⟨_,_,?_,.base (.v _),hk⟩
   simp[convert,bV hs,bV hd,Conv.intToString]
  ·rename_i z
   cases h.bc
   obtain⟨⟨ds,hs⟩,hk⟩:=hk
   refine⟨_,_,?_,.base (.v _),hk⟩
   simp[convert,bV hs,bV hd]
  ·cases h.ez
   obtain⟨⟨e,hs,he⟩,hk⟩:=hk
   refine⟨_,_,?_,.base (.v _),hk⟩
   rw[run_convert_bytes_string w s d e none 0 0 hs he hd]
   rfl
  ·rename_i t' q es
   obtain⟨⟨e,hs,he⟩,rfl,l,rfl,hk⟩:=hk
   refine⟨_,_,?_,.base (.v _),hk⟩
   obtain⟨a',cap,rfl,_,hes⟩:=h.fu.fp
   rcases hes with hes|⟨b,o,rfl,hkk,cv,hm,_,hv⟩
   ·have:l=[]:=by simpa using hes
    subst this
    cases a' with
    |none=>rw[run_convert_bytes_string w s d e none _ cap hs he hd];rfl
    |some ad=>exact run_convert_bytes_back w s d e ad cap [] hs he hd aB
   ·have hb:=run_convert_bytes_back (P:=P) w s d e ⟨b,o,none⟩ cap l hs he hd (fun j hj=>by
     have h1:=hm j (u8 l[j]) 0 (u8 l[j]) (by simp[hj]) rfl
     have h2:=hv j (u8 l[j]) 0 (u8 l[j]) (by simp[hj]) rfl
     have h3:=r.ck _ _ _ h1
     have h4:cv j 0= .int .u8 (l[j].toNat:Int):=(VR.base (c:=c) (aT.mono (fun _ _ _ hh=>hh) h2)).bc
     rw[fC,←h4,←h3]
     simp)
    simpa using hb
  ·exact hk.elim
 ·exact hk.elim
def dM(x:Option AV)(d:Nat):Option Int:=
 match x with
 |none=>some d
 |some (.v (.int _ i))=>some i
 |_=>none
def qv{α:Type}(hi:Option AV)(l:List α):List α:=
 match hi with
 |some (.v (.int _ h))=>l.take h.toNat
 |_=>l
def mg{α:Type}(lo hi:Option AV)(l:List α):List α:=
 match lo with
 |some (.v (.int _ i))=>(qv hi l).drop i.toNat
 |_=>qv hi l
def vm(lo:Option AV)(t:Option Nat):Option Nat:=
 match lo with
 |none=>t
 |_=>none
def jH(P:Program)(t:TypeId)(x:AV)(lo hi:Option AV)(k:AV→Prop):Prop:=
 match x with
 |.v (.string s)=>P.underlying t=some .string∧∃l h,dM lo 0=some l∧dM hi s.data.toList.length=some h∧0≤l∧l≤h∧h≤(s.data.toList.length:Int)∧
   k (.v (.string ⟨(mg lo hi s.data.toList).toArray⟩))
 |.sl t' q es=>(∃e,P.underlying t=some (.slice e)∧bf P e=some q)∧∃l h,dM lo 0=some l∧dM hi es.length=some h∧0≤l∧l≤h∧h≤(es.length:Int)∧
   k (.sl (vm lo t') q (mg lo hi es))
 |.aw=>(∃e n,P.underlying t=some (.slice e)∧bf P e=some n)∧dM lo 0=some 0∧dM hi 0=some 0∧k .aw
 |.mu id q off len cap=>(∃e n,P.underlying t=some (.slice e)∧bf P e=some n)∧lo=none∧∃h,dM hi len=some h∧0≤h∧h≤(len:Int)∧k (.mu id q off h.toNat cap)
 |.bQ cs=>∃L e,P.underlying t=some (.array L e)∧bf P e=some 1∧lo=none∧∃h,dM hi L=some h∧0≤h∧h≤(cs.length:Int)∧h≤(L:Int)∧(∀c∈cs,c.leaves=[c])∧k (.sl none 1 (cs.take h.toNat))
 |_=>False
theorem ki{i:Int}{kd:IntKind}{y:Nat}{code:BoundsCode}(h0:0≤i)(h1:i≤y):(Instr.sliceBound (.int kd i) y code).run P w= .ok i.toNat w:=by
 simp[Instr.sliceBound,asIntOf,h0,h1]
theorem nu{isS:Bool}{len cap:Nat}{lo hi:Option AV}{vl vh:Option Value}{l h:Int}
 (hlo:∀x,lo=some x→∃v,vl=some v∧VR c x v) (hlo0:lo=none→vl=none) (hhi:∀x,hi=some x→∃v,vh=some v∧VR c x v) (hhi0:hi=none→vh=none)
 (bl:dM lo 0=some l) (bh:dM hi len=some h) (h0:0≤l) (h1:l≤h) (h2:h≤len) (hc:len≤cap):
 (Instr.sliceBounds isS len cap vl vh none).run P w= .ok (l.toNat,h.toNat,cap) w:=by
 have hh:∃code,(match vh with|some v=>Instr.sliceBound v cap code|none=>pure len:Sem Nat).run P w= .ok h.toNat w:=by
  refine⟨if isS then .sliceAcap else .sliceAlen,?_⟩
  cases hi with
  |none=>
   rw[hhi0 rfl]
   simp only[dM,Option.some.injEq] at bh
   subst bh
   simp
  |some x=>
   obtain⟨v,rfl,hv⟩:=hhi x rfl
   unfold dM at bh
   split at bh
   ·rename_i he;simp at he
   ·rename_i kd i he
    simp only[Option.some.injEq] at he bh
    subst he;subst bh
    cases hv.bc
    exact ki ab ab
   ·simp at bh
 have hl:∀code,(match vl with|some v=>Instr.sliceBound v h.toNat code|none=>pure 0:Sem Nat).run P w= .ok l.toNat w:=by
  intro code
  cases lo with
  |none=>
   rw[hlo0 rfl]
   simp only[dM,Option.some.injEq] at bl
   subst bl
   simp
  |some x=>
   obtain⟨v,rfl,hv⟩:=hlo x rfl
   unfold dM at bl
   split at bl
   ·rename_i he;simp at he
   ·rename_i kd i he
    simp only[Option.some.injEq] at he bl
    subst he;subst bl
    cases hv.bc
    exact ki h0 ab
   ·simp at bl
 unfold Instr.sliceBounds
 cases hvh:vh with
 |none=>
  obtain⟨code,hh⟩:=hh
  simp only[hvh,Sem.run_pure,Result.ok.injEq,and_true] at hh
  have hl':=hl .sliceB
  rw[←hh] at hl'
  cases vl with
  |none=>simp only[Sem.run_pure,Result.ok.injEq,and_true] at hl';simp[hh,←hl']
  |some x=>simp at hl';simp[hh] at hl' ⊢;simp[hl']
 |some v=>
  have hbnd:(Instr.sliceBound v cap (if isS then BoundsCode.sliceAcap else .sliceAlen)).run P w= .ok h.toNat w:=by
   cases hi with
   |none=>rw[hhi0 rfl] at hvh;simp at hvh
   |some x=>
    obtain⟨v',hv',hv⟩:=hhi x rfl
    rw[hvh] at hv'
    cases hv'
    unfold dM at bh
    split at bh
    ·rename_i he;simp at he
    ·rename_i kd i he
     simp only[Option.some.injEq] at he bh
     subst he;subst bh
     cases hv.bc
     exact ki ab ab
    ·simp at bh
  have hl':=hl .sliceB
  cases vl with
  |none=>simp only[Sem.run_pure,Result.ok.injEq,and_true] at hl';simp[hbnd,←hl']
  |some x=>simp at hl';simp[hbnd,hl']
theorem ye{α:Type}{lo hi:Option AV}{xs:List α}{l h:Int}(bl:dM lo 0=some l)(bh:dM hi xs.length=some h):mg lo hi xs=(xs.take h.toNat).drop l.toNat:=by
 have e1:qv hi xs=xs.take h.toNat:=by
  unfold dM at bh
  split at bh
  ·simp only[Option.some.injEq] at bh;subst bh;simp[qv]
  ·simp only[Option.some.injEq] at bh;subst bh;rfl
  ·simp at bh
 unfold dM at bl
 split at bl
 ·simp only[Option.some.injEq] at bl;subst bl;simp[mg,e1]
 ·simp only[Option.some.injEq] at bl;subst bl;simp[mg,e1]
 ·simp at bl
theorem aT.Xy{im:Im}{k:Nat}{es:List AV}{b:Option Addr}{n cap:Nat}(h:aT im (.sl none k es) (.slice b n cap)){l q:Nat}(h1:l≤q)(h2:q≤es.length):
 aT im (.sl none k ((es.take q).drop l)) (.slice (if cap=l then b else b.map (·.add (l*k))) (q-l) (cap-l)):=by
 obtain⟨a,cap',hv,hcap,hes⟩:=h.fp
 cases hv
 have hlen:((es.take q).drop l).length=q-l:=by simp;omega
 rcases hes with rfl|⟨b',o,rfl,hkk,cv,hm,h11,hv⟩
 ·simp only[List.length_nil,Nat.le_zero_eq] at h2
  subst h2
  simp only[Nat.le_zero_eq] at h1
  subst h1
  exact .de k _ _
 ·by_cases hql:q=l
  ·subst hql
   have:(es.take q).drop q=[]:=by apply List.eq_nil_of_length_eq_zero;simp
   rw[this,Nat.sub_self]
   exact .de k _ _
  ·rw[if_neg ab,←hlen]
   simp only[Option.map_some,fC]
   refine .sl k _ b' (o+l*k) (cap-l) (fun i j=>cv (l+i) j) (by rw[hlen];omega) ?_ ?_ ?_ ?_
   ·intro i e he
    rw[List.getElem?_drop,List.getElem?_take] at he
    split at he
    ·exact hkk _ _ he
    ·simp at he
   ·intro i e j x he hx
    rw[List.getElem?_drop,List.getElem?_take] at he
    split at he
    ·have:=hm _ _ _ _ he hx
     rw[Nat.add_mul,←Nat.add_assoc] at this
     exact this
    ·simp at he
   ·intro i e j x he hx
    rw[List.getElem?_drop,List.getElem?_take] at he
    split at he
    ·exact h11 _ _ _ _ he hx
    ·simp at he
   ·intro i e j x he hx
    rw[List.getElem?_drop,List.getElem?_take] at he
    split at he
    ·exact hv _ _ _ _ he hx
    ·simp at he
theorem XD{t:TypeId}{x:AV}{v:Value}{lo hi:Option AV}{vl vh:Option Value}(h:VR c x v)
 (hlo:∀x,lo=some x→∃v,vl=some v∧VR c x v) (hlo0:lo=none→vl=none) (hhi:∀x,hi=some x→∃v,vh=some v∧VR c x v) (hhi0:hi=none→vh=none)
 {k:AV→Prop} (hk:jH P t x lo hi k):∃u y,(Instr.sliceAt t v vl vh none).run P w= .ok u w∧VR c y u∧k y:=by
 unfold jH at hk
 split at hk
 ·rename_i s
  cases h.bc
  obtain⟨hu,l,hh,bl,bh,h0,h1,h2,hk⟩:=hk
  have hb:=nu (P:=P) (w:=w) (isS:=false) hlo hlo0 hhi hhi0 bl bh h0 h1 h2 (Nat.le_refl _)
  refine⟨_,_,?_,.base (.v _),hk⟩
  have hsz:s.size=s.data.toList.length:=rfl
  rw[ye bl bh]
  have hx:s.extract l.toNat hh.toNat=⟨((s.data.toList.take hh.toNat).drop l.toNat).toArray⟩:=by
   apply ByteArray.ext
   rw[ByteArray.data_extract]
   apply Array.ext'
   simp[Array.toList_extract,List.extract,List.drop_take]
  simp only[Instr.sliceAt,Sem.run_bind,bV hu,Result.andThen_ok,Instr.slice]
  simp only[Option.isSome_none,Bool.false_eq_true,if_false,Sem.run_bind,hsz,hb,Result.andThen_ok,Sem.run_pure,hx]
 ·rename_i t' q es
  obtain⟨⟨e,hu,hs⟩,l,hh,bl,bh,h0,h1,h2,hk⟩:=hk
  have h3:=h.fu
  obtain⟨a',cap,rfl,hcap,_⟩:=h3.fp
  have hb:=nu (P:=P) (w:=w) (isS:=true) hlo hlo0 hhi hhi0 bl bh h0 h1 h2 hcap
  have h4:=aT.Xy h3 (l:=l.toNat) (q:=hh.toNat) ab ab
  have hrun:(Instr.sliceAt t (.slice a' es.length cap) vl vh none).run P w= .ok (.slice (if cap=l.toNat then a' else a'.map (·.add (l.toNat*q))) (hh.toNat-l.toNat) (cap-l.toNat)) w:=by
   simp only[Instr.sliceAt,Sem.run_bind,bV hu,Result.andThen_ok,Instr.slice,hb,dq hs,Sem.run_pure]
  refine⟨_,_,hrun,?_,hk⟩
  rw[ye bl bh]
  cases lo with
  |some x=>exact .base h4
  |none=>
   simp only[dM,Option.some.injEq] at bl
   subst bl
   cases t' with
   |none=>exact .base h4
   |some tt=>
    cases h with
    |base h=>cases h
    |tok e' h0' hkq hle hcur=>
     have hl0:((0:Nat):Int).toNat=0:=rfl
     rw[hl0] at h4 ⊢
     simp only[List.drop_zero,Nat.zero_mul,Nat.sub_zero] at h4 ⊢
     refine .tok e' h4 hkq (by simp only[List.length_take];omega) (fun heq=>?_)
     have hlt:(es.take hh.toNat).length=hh.toNat:=by simp only[List.length_take];omega
     have hfull:es.length=hh.toNat:=by omega
     rcases hcur ab with⟨hn0,hv⟩|⟨b,hb',hv⟩
     ·refine .inl ⟨by rw[hlt];omega,?_⟩
      simp only[Value.slice.injEq] at hv
      obtain⟨rfl,h5,rfl⟩:=hv
      rw[←hfull,h5];simp
     ·refine .inr ⟨b,hb',?_⟩
      cases hv
      rw[hlt]
      split<;>simp[Addr.add]
 ·cases h.ez
  obtain⟨⟨e,n,hu,hs⟩,bl,bh,hk⟩:=hk
  have hb:=nu (P:=P) (w:=w) (isS:=true) hlo hlo0 hhi hhi0 bl bh ab ab ab (Nat.le_refl 0)
  refine⟨.slice none 0 0,_,?_,.base .aw,hk⟩
  simp only[Instr.sliceAt,Sem.run_bind,bV hu,Result.andThen_ok,Instr.slice,hb,dq hs,Sem.run_pure]
  simp
 ·rename_i id q off len cap
  obtain⟨⟨e,n,hu,hs⟩,rfl,hh,bh,h0,h1,hk⟩:=hk
  rcases h.cW with⟨g,hb',hcap,rfl⟩|⟨hz1,hz2,rfl⟩
  ·have hb:=nu (P:=P) (w:=w) (isS:=true) (lo:=none) (l:=0) hlo hlo0 hhi hhi0 rfl bh ab h0 h1 hcap
   refine⟨.slice (some ⟨g,off*q,none⟩) hh.toNat cap,_,?_,.mu hb' ab,hk⟩
   simp only[Instr.sliceAt,Sem.run_bind,bV hu,Result.andThen_ok,Instr.slice,hb,dq hs,Sem.run_pure]
   simp[Addr.add]
  ·subst hz1;subst hz2
   have hz:hh.toNat=0:=by omega
   rw[hz] at hk
   have hb:=nu (P:=P) (w:=w) (isS:=true) (cap:=0) (lo:=none) (l:=0) hlo hlo0 hhi hhi0 rfl bh ab h0 h1 (Nat.le_refl 0)
   refine⟨.slice none 0 0,_,?_,.jR,hk⟩
   simp only[Instr.sliceAt,Sem.run_bind,bV hu,Result.andThen_ok,Instr.slice,hb,dq hs,Sem.run_pure]
   simp[hz]
 ·rename_i cs
  obtain⟨L,e,hu,hs,rfl,hh,bh,h0,h1,h2,hl,hk⟩:=hk
  obtain⟨b,o,rfl,cv,hm,h11,hv⟩:=h.nM
  have hb:=nu (P:=P) (w:=w) (isS:=false) (cap:=L) (lo:=none) (l:=0) hlo hlo0 hhi hhi0 rfl bh ab h0 h2 (Nat.le_refl _)
  have hrun:(Instr.sliceAt t (.pointer (some ⟨b,o,none⟩)) vl vh none).run P w= .ok (.slice (some ⟨b,o,none⟩) hh.toNat L) w:=by
   simp only[Instr.sliceAt,Sem.run_bind,bV hu,Result.andThen_ok,Instr.sureAddr,Sem.run_pure,hb,dq hs]
   simp[Addr.add]
  refine⟨_,_,hrun,?_,hk⟩
  have hlen:(cs.take hh.toNat).length=hh.toNat:=by simp only[List.length_take];omega
  have:=aT.sl (im:=c.im) 1 (cs.take hh.toNat) b o L (fun i j=>cv (i+j)) ab (fun i x hx=>by
   have:=hl x (List.mem_of_mem_take (List.mem_of_getElem? hx))
   rw[this];rfl) (fun i x j y hx hy=>?_) (fun i x j y hx hy=>?_) (fun i x j y hx hy=>?_)
  ·rw[hlen] at this;exact .base this
  all_goals
   have h5:=hl x (List.mem_of_mem_take (List.mem_of_getElem? hx))
   rw[h5] at hy
   cases j with
   |succ j=>simp at hy
   |zero=>
    simp only[List.getElem?_cons_zero,Option.some.injEq] at hy;subst hy
    rw[List.getElem?_take] at hx
    split at hx
    ·first
     |(rw[Nat.mul_one,Nat.add_zero,Nat.add_zero];exact hm i x hx)
     |exact h11 i x hx
     |exact hv i x hx
    ·simp at hx
 ·exact hk.elim
end
end Go.az
namespace Go.az
open Go Go.RowKit
def AV.eo:AV→Bool
 |.v x=>x.oneCell'
 |.aw|.sl _ _ _|.mu _ _ _ _ _|.ptr _ _ _|.bQ _|.fn _ _=>true
 |_=>false
def cZ(P:Program)(t:TypeId):Option (List AV):=
 match P.info? t with
 |some i=>i.zero.bind fun z=>if(z.cells.toList.map gS).all AV.eo=true then some (z.cells.toList.map gS) else none
 |none=>none
def places(P:Program):List Field→Option (List (Nat×Nat))
 |[]=>some []
 |f::fs=>match bf P f.type,places P fs with
  |some n,some l=>some ((f.offset,n)::l)
  |_,_=>none
def jz(cs:List AV)(off:Nat):List AV→List AV
 |[]=>cs
 |x::r=>jz (cs.set off x) (off+1) r
def AV.plain:AV→Bool
 |.any|.ax _=>false
 |.v x=>x.oneCell'
 |_=>true
def ni(place:Nat→Option (Nat×Nat))(cs:List AV):List (Nat×AV)→Option (List AV)
 |[]=>some cs
 |(i,x)::rest=>
  match place i with
  |none=>none
  |some (off,size)=>if x.plain=true∧x.leaves.length=size∧off+size≤cs.length then ni place (jz cs off x.leaves) rest else none
section
variable{P:Program}{w0:World}{im0:cU}{c:Ctx}{st:St}{a:Act}{w:World}
def Pw(c:Ctx)(cs:List AV)(vs:List Value):Prop:=vs.length=cs.length∧∀(i:Nat) (x:AV) (u:Value),cs[i]?=some x→vs[i]?=some u→VR c x u
theorem VR.leaves{x:AV}{v:Value}(h:VR c x v)(hp:x.plain=true):Pw c x.leaves v.cells.toList:=by
 have one:∀{x:AV},x.leaves=[x]→VR c x v→v.cells= #[v]→Pw c x.leaves v.cells.toList:=fun hl hv hc=>by
  rw[hl,hc]
  refine⟨rfl,fun i y u h1 h2=>?_⟩
  cases i with
  |zero=>simp only[List.getElem?_cons_zero,Option.some.injEq] at h1 h2;subst h1;subst h2;exact hv
  |succ i=>simp at h1
 cases x with
 |any=>simp[AV.plain] at hp
 |v y=>have hy:=h.bc;subst hy;exact one rfl h (by cases v<;>first|rfl|(simp[AV.plain,Value.oneCell'] at hp))
 |agg cs=>obtain⟨vs,rfl,hn,hh⟩:=h.jt;exact⟨by simpa[Value.cells,AV.leaves] using hn,by simpa[Value.cells,AV.leaves] using hh⟩
 |ax cs=>simp[AV.plain] at hp
 |aw=>cases h.ez;exact one rfl h rfl
 |sl t k es=>obtain⟨b,cap,rfl,_⟩:=h.fu.fp;exact one rfl h rfl
 |mu=>
  rcases h.cW with⟨g,_,_,rfl⟩|⟨_,_,rfl⟩
  ·exact one rfl h rfl
  ·exact one rfl h rfl
 |ptr=>obtain⟨g,k,_,rfl⟩:=h.gR;exact one rfl h rfl
 |bQ=>obtain⟨b,o,rfl,_⟩:=h.nM;exact one rfl h rfl
 |fn=>obtain⟨vs,rfl,_⟩:=h.iq;exact one rfl h rfl
theorem Pw.set{cs:List AV}{vs:List Value}(h:Pw c cs vs)(i:Nat){x:AV}{v:Value}(hv:VR c x v):Pw c (cs.set i x) (vs.set i v):=by
 refine⟨by simp[h.1],fun j y u h1 h2=>?_⟩
 rw[List.getElem?_set] at h1 h2
 by_cases hij:i=j
 ·subst hij
  rw[if_pos rfl] at h1 h2
  split at h1<;>split at h2<;>simp_all
 ·rw[if_neg hij] at h1 h2
  exact h.2 _ _ _ h1 h2
def ch(vs:List Value)(off:Nat):List Value→List Value
 |[]=>vs
 |x::r=>ch (vs.set off x) (off+1) r
theorem Pw.jz{cs:List AV}{vs:List Value}(h:Pw c cs vs):∀{xs:List AV} {us:List Value} (off:Nat),Pw c xs us→Pw c (jz cs off xs) (ch vs off us):=by
 intro xs
 induction xs generalizing cs vs with
 |nil=>intro us off hx;cases us with
  |nil=>exact h
  |cons=>simp[Pw] at hx
 |cons x xs ih=>intro us off hx;cases us with
  |nil=>simp[Pw] at hx
  |cons u us=>
   refine ih (h.set off (hx.2 0 x u rfl rfl)) (off+1) ⟨by simpa using hx.1,fun i y v h1 h2=>hx.2 (i+1) y v h1 h2⟩
theorem A8(us:List Value):∀(vs:List Value) (off k:Nat),((us.zipIdx k).foldl (fun(cs:Array Value) (p:Value×Nat)=>cs.setIfInBounds (off+p.2) p.1) vs.toArray)=(ch vs (off+k) us).toArray:=by
 induction us with
 |nil=>intro vs off k;rfl
 |cons u us ih=>
  intro vs off k
  simp only[List.zipIdx_cons,List.foldl_cons,ch]
  rw[show(vs.toArray.setIfInBounds (off+k) u)=(vs.set (off+k) u).toArray by simp]
  exact ih _ _ _
theorem qB{place:Nat→Option (Nat×Nat)}:∀{ps:List (Nat×AV)} {qs:List (Nat×Value)} {cs:List AV} {vs:List Value} {out:List AV},Pw c cs vs→
 qs.map (·.1)=ps.map (·.1)→(∀(i:Nat) (p:Nat×AV) (q:Nat×Value),ps[i]?=some p→qs[i]?=some q→VR c p.2 q.2)→ni place cs ps=some out→
 ∃us:List Value,Instr.fill place vs.toArray qs=some us.toArray∧Pw c out us
 |[],qs,cs,vs,out,h,hm,_,hf=>by
  cases qs with
  |nil=>simp only[ni,Option.some.injEq] at hf;subst hf;exact⟨vs,rfl,h⟩
  |cons=>simp at hm
 |(i,x)::ps,qs,cs,vs,out,h,hm,hv,hf=>by
  cases qs with
  |nil=>simp at hm
  |cons q qs=>
   obtain⟨j,v⟩:=q
   simp only[List.map_cons,List.cons.injEq] at hm
   obtain⟨rfl,hm⟩:=hm
   simp only[ni] at hf
   cases hpl:place j with
   |none=>simp[hpl] at hf
   |some p=>
    obtain⟨off,size⟩:=p
    simp only[hpl] at hf
    split at hf
    ·rename_i hc
     obtain⟨hp,hsz,hle⟩:=hc
     have hx:=(hv 0 _ _ rfl rfl).leaves hp
     have hsize:v.cells.size=size:=by have:=hx.1;simp at this;omega
     have hlen:vs.length=cs.length:=h.1
     have hstep:=qB (place:=place) (h.jz off hx) hm (fun i p q h1 h2=>hv (i+1) p q h1 h2) hf
     obtain⟨us,hu,hpw⟩:=hstep
     refine⟨us,?_,hpw⟩
     simp only[Instr.fill,hpl]
     rw[if_neg (by simp[hsize];omega)]
     rw[←hu]
     congr 1
     have:=A8 v.cells.toList vs off 0
     rw[Nat.add_zero] at this
     rw[←this,←Array.foldl_toList]
     simp
    ·simp at hf
def fS(st:St)(ps:Array (Nat×Operand)):List (Nat×AV):=ps.toList.map fun p=>(p.1,st.ev p.2)
def fi(P:Program)(t:TypeId):Option (List (Nat×Nat)):=
 match P.underlying t with
 |some (.struct fs)=>places P fs.toList
 |_=>none
def sd(P:Program)(t:TypeId):Option Nat:=
 match P.underlying t with
 |some (.array _ e)=>bf P e
 |_=>none
def rF(P:Program)(t:TypeId)(ps:List (Nat×AV))(k:AV→Prop):Prop:=
 ∃z,cZ P t=some z∧
 match fi P t with
 |some pl=>∃out,ni (pl[·]?) z ps=some out∧k (.agg out)
 |none=>
  match sd P t with
  |some n=>∃out,ni (fun i=>some (i*n,n)) z ps=some out∧k (.agg out)
  |none=>False
theorem tF{t:TypeId}{z:List AV}(h:cZ P t=some z):∃zv:Value,(zeroValue t).run P w= .ok zv w∧Pw c z zv.cells.toList∧z.all AV.eo=true∧∃i,P.info? t=some i∧i.zero=some zv:=by
 unfold cZ at h
 cases hi:P.info? t with
 |none=>simp[hi] at h
 |some i=>
  simp only[hi] at h
  cases hz:i.zero with
  |none=>simp[hz] at h
  |some zv=>
   simp only[hz,Option.bind_some] at h
   split at h
   case isFalse=>simp at h
   rename_i hall
   simp only[Option.some.injEq] at h
   subst h
   refine⟨zv,by simp[zeroValue,typeInfo,hi,hz],⟨by simp,fun j x u h1 h2=>?_⟩,hall,i,rfl,hz⟩
   simp only[List.getElem?_map,h2,Option.map_some,Option.some.injEq] at h1
   subst h1
   exact .base (pq _ _)
theorem A4:∀{fs:List Field} {pl:List (Nat×Nat)},places P fs=some pl→(fs.mapM (fun f=>do pure (f.offset,←sizeOf f.type):Field→Sem (Nat×Nat))).run P w= .ok pl w
 |[],pl,h=>by simp only[places,Option.some.injEq] at h;subst h;simp
 |f::fs,pl,h=>by
  simp only[places] at h
  cases hs:bf P f.type with
  |none=>simp[hs] at h
  |some n=>
   cases hp:places P fs with
   |none=>simp[hs,hp] at h
   |some l=>
    simp only[hs,hp,Option.some.injEq] at h
    subst h
    have ih:=A4 hp
    simp only[List.mapM_cons,Sem.run_bind,dq hs,Result.andThen_ok,Sem.run_pure,ih]
theorem Fs(r:Rel w0 im0 c st a w){t:TypeId}{ps:Array (Nat×Operand)}{k:AV→Prop}(hk:rF P t (fS st ps) k):
 ∃u y,(Instr.build t (ps.map fun(i,x)=>(i,a.eval x))).run P w= .ok u w∧VR c y u∧k y:=by
 obtain⟨z,hz,hk⟩:=hk
 obtain⟨zv,hrun,hpw,_⟩:=tF (P:=P) (w:=w) (c:=c) hz
 have hm:((ps.map fun(i,x)=>(i,a.eval x)).toList.map (·.1))=(fS st ps).map (·.1):=by simp[fS]
 have hv:∀(i:Nat) (p:Nat×AV) (q:Nat×Value),(fS st ps)[i]?=some p→(ps.map fun(i,x)=>(i,a.eval x)).toList[i]?=some q→VR c p.2 q.2:=by
  intro i p q h1 h2
  simp only[fS,Array.toList_map,List.getElem?_map] at h1 h2
  cases hp:ps.toList[i]? with
  |none=>simp[hp] at h1
  |some y=>
   simp only[hp,Option.map_some,Option.some.injEq] at h1 h2
   subst h1;subst h2
   exact r.ev y.2
 have hcells:zv.cells=zv.cells.toList.toArray:=by simp
 split at hk
 ·rename_i pl hpl0
  obtain⟨out,hf,hk⟩:=hk
  have hfs:∃fs,P.underlying t=some (.struct fs)∧places P fs.toList=some pl:=by
   unfold fi at hpl0
   split at hpl0
   ·rename_i fs hu;exact⟨fs,hu,hpl0⟩
   ·simp at hpl0
  obtain⟨fs,hu,hpl⟩:=hfs
  obtain⟨us,hus,hpo⟩:=qB hpw hm hv hf
  refine⟨.agg us.toArray,.agg out,?_,.agg _ _ hpo.1 hpo.2,hk⟩
  have hpr:=A4 (w:=w) hpl
  have hpm:(fs.mapM (fun f=>do pure (f.offset,←sizeOf f.type):Field→Sem (Nat×Nat))).run P w= .ok pl.toArray w:=by
   rw[Array.mapM_eq_mapM_toList]
   simp only[Sem.run_map,hpr,Result.andThen_ok]
  simp only[Instr.build,Sem.run_bind,hrun,Result.andThen_ok,bV hu,hpm]
  rw[hcells] at hus ⊢
  simp only[List.getElem?_toArray]
  simp at hus
  simp[hus]
 ·split at hk
  ·rename_i n hn0
   obtain⟨out,hf,hk⟩:=hk
   have hfs:∃l e,P.underlying t=some (.array l e)∧bf P e=some n:=by
    unfold sd at hn0
    split at hn0
    ·rename_i l e hu;exact⟨l,e,hu,hn0⟩
    ·simp at hn0
   obtain⟨l,e,hu,hs⟩:=hfs
   obtain⟨us,hus,hpo⟩:=qB hpw hm hv hf
   refine⟨.agg us.toArray,.agg out,?_,.agg _ _ hpo.1 hpo.2,hk⟩
   simp only[Instr.build,Sem.run_bind,hrun,Result.andThen_ok,bV hu,dq hs]
   rw[hcells] at hus ⊢
   simp at hus
   simp[hus]
  ·exact hk.elim
def qe(P:Program)(t:TypeId)(x:AV)(k:AV→Prop):Prop:=
 match x with
 |.v (.string s)=>P.underlying t=some .string∧k (.v (.int .i64 (s.data.toList.length:Nat)))
 |.sl _ _ es=>(∃e,P.underlying t=some (.slice e))∧k (.v (.int .i64 (es.length:Nat)))
 |.mu _ _ _ n _=>(∃e,P.underlying t=some (.slice e))∧k (.v (.int .i64 (n:Nat)))
 |.aw=>(∃e,P.underlying t=some (.slice e))∧k (.v (.int .i64 0))
 |_=>False
theorem SD{t ty:TypeId}{x:AV}{v:Value}(h:VR c x v){k:AV→Prop}(hk:qe P t x k):
 ∃u y,(Builtin.len_ #[t] ty #[v]).run P w= .ok u w∧VR c y u∧k y:=by
 unfold qe at hk
 split at hk
 ·rename_i s
  cases h.bc
  refine⟨_,_,?_,.base (.v _),hk.2⟩
  simp[Builtin.len_,bV hk.1,goInt]
 ·obtain⟨⟨e,hu⟩,hk⟩:=hk
  obtain⟨b,cap,rfl,_⟩:=h.fu.fp
  exact⟨_,_,by simp[Builtin.len_,bV hu,goInt],.base (.v _),hk⟩
 ·obtain⟨⟨e,hu⟩,hk⟩:=hk
  rcases h.cW with⟨g,_,_,rfl⟩|⟨rfl,_,rfl⟩
  ·exact⟨_,_,by simp[Builtin.len_,bV hu,goInt],.base (.v _),hk⟩
  ·exact⟨_,_,by simp[Builtin.len_,bV hu,goInt],.base (.v _),hk⟩
 ·obtain⟨⟨e,hu⟩,hk⟩:=hk
  cases h.ez
  exact⟨_,_,by simp[Builtin.len_,bV hu,goInt],.base (.v _),hk⟩
 ·exact hk.elim
def nc(mx:Bool)(x y:AV)(k:AV→Prop):Prop:=
 match x,y with
 |.v (.int kd a),.v (.int _ b)=>k (.v (.int kd (bif mx then max a b else min a b)))
 |_,_=>False
def rI(P:Program)(t:TypeId)(x:AV)(k:AV→Prop):Prop:=
 match x with
 |.v y=>P.concrete t=true∧k (.v (.iface t y))
 |_=>False
def rH(fn:Fn)(first cs:List AV)(k:AV→Prop):Prop:=
 match fn,first with
 |.func f,[]=>k (.fn f cs)
 |_,_=>False
def cI(P:Program)(st:St)(op:Op)(k:AV→Prop):Prop:=
 match op with
 |.move x|.assign x=>k (st.ev x)
 |.pick x y z=>rL (st.ev x) (st.ev y) (st.ev z) k
 |.load t x=>qf P st t (st.ev x) k
 |.nilCheck x=>rK (st.ev x) k
 |.binOp op t x y _=>(st.ev y= .v .nilIface→∃z,y= .const z)∧na P op t (st.ev x) (st.ev y) k
 |.unOp op _ x=>qh op (st.ev x) k
 |.convert s d x=>oI P s d (st.ev x) k
 |.slice t x lo hi mx=>mx=none∧jH P t (st.ev x) (lo.map st.ev) (hi.map st.ev) k
 |.fieldAddr s x f=>qb P s (st.ev x) f k
 |.field t x f=>qa P t (st.ev x) f k
 |.indexAddr t x i=>qd P t (st.ev x) (st.ev i) k
 |.index t x i=>qc P t (st.ev x) (st.ev i) k
 |.extract x i=>p9 (st.ev x) i k
 |.build t ps=>rF P t (fS st ps) k
 |.makeInterface t x=>rI P t (st.ev x) k
 |.makeFunc fn first cs=>rH fn (first.toList.map st.ev) (cs.toList.map st.ev) k
 |.call c=>
  match c.callee,c.args.toList,c.argTypes.toList with
  |.builtin .len,[x],[t]=>qe P t (st.ev x) k
  |.builtin .min,[x,y],_=>nc false (st.ev x) (st.ev y) k
  |.builtin .max,[x,y],_=>nc true (st.ev x) (st.ev y) k
  |_,_,_=>False
 |_=>False
theorem VR.TO{x:AV}(h:VR c x .nilIface):x= .v .nilIface∨x= .any:=by
 cases h with
 |base h=>cases h with
  |any=>exact .inr rfl
  |v=>exact .inl rfl
 |tok _ h0=>cases h0
theorem SH(r:Rel w0 im0 c st a w){o:Oper}{k:AV→Prop}(hk:cI P st o.op k):∃v x,(execOp a.eval o).run P w= .ok (.value v) w∧VR c x v∧k x:=by
 have val:∀{s:Sem Value},(∃u y,s.run P w= .ok u w∧VR c y u∧k y)→(execOp a.eval o=do pure (.value (←s)))→∃v x,(execOp a.eval o).run P w= .ok (.value v) w∧VR c x v∧k x:=by
  rintro s ⟨u,y,h1,h2,h3⟩ he
  exact⟨u,y,by rw[he];simp[h1],h2,h3⟩
 obtain⟨dst,op,type,pos,after,guard⟩:=o
 cases op<;>simp only[cI] at hk<;>first|exact hk.elim|skip
 case move x=>exact⟨_,_,rfl,r.ev x,hk⟩
 case assign x=>exact⟨_,_,rfl,r.ev x,hk⟩
 case pick x y z=>
  unfold rL at hk
  split at hk
  ·rename_i b hx
   have hv:=r.ev x
   rw[hx] at hv
   have hv:=hv.bc
   refine⟨if b then a.eval y else a.eval z,bif b then st.ev y else st.ev z,?_,?_,hk⟩
   ·simp only[execOp,hv,asBool];rfl
   ·cases b
    ·exact r.ev z
    ·exact r.ev y
  ·exact hk.elim
 case load t x=>exact val (zX r (r.ev x) hk) rfl
 case nilCheck x=>
  unfold rK at hk
  have hv:=r.ev x
  split at hk
  ·rename_i hx
   rw[hx] at hv
   obtain⟨g,q,hb,he⟩:=hv.gR
   refine⟨a.eval x,_,?_,by rw[hx];exact hv,hk⟩
   simp only[execOp,he];rfl
  ·rename_i hx
   rw[hx] at hv
   obtain⟨b,q,he,hb⟩:=hv.nM
   refine⟨a.eval x,_,?_,by rw[hx];exact hv,hk⟩
   simp only[execOp,he];rfl
  ·rename_i hx
   rw[hx] at hv
   have he:=hv.bc
   refine⟨a.eval x,_,?_,by rw[hx];exact hv,hk⟩
   simp only[execOp,he];rfl
  ·exact hk.elim
 case binOp op t x y yt=>
  have hcx:(a.eval y= .nilIface→∃z,y= .const z):=fun he=>by
   have hv:=r.ev y
   rw[he] at hv
   rcases hv.TO with h|h
   ·exact hk.1 h
   ·have h2:=hk.2
    rw[h] at h2
    simp only[na] at h2
    cases op<;>simp only[fM] at h2
    all_goals(split at h2<;>first|exact h2.elim|simp_all)
  obtain⟨hg,z,u,h1,h2,h3⟩:=EW (w:=w) (r.ev x) (r.ev y) hk.2 x y hcx
  refine⟨u,z,?_,h2,h3⟩
  simp only[execOp,Sem.run_bind,hg,Result.andThen_ok,h1,Sem.run_pure]
 case unOp op t x=>exact val (aaD (r.ev x) hk) rfl
 case convert s d x=>exact val (Kq r (r.ev x) hk) rfl
 case slice t x lo hi mx=>
  obtain⟨rfl,hk⟩:=hk
  refine val (XD (r.ev x) (vl:=lo.map a.eval) (vh:=hi.map a.eval) ?_ ?_ ?_ ?_ hk) rfl
  ·intro y hy;cases lo with
   |none=>simp at hy
   |some z=>simp only[Option.map_some,Option.some.injEq] at hy;subst hy;exact⟨_,rfl,r.ev z⟩
  ·intro h;cases lo with
   |none=>rfl
   |some z=>simp at h
  ·intro y hy;cases hi with
   |none=>simp at hy
   |some z=>simp only[Option.map_some,Option.some.injEq] at hy;subst hy;exact⟨_,rfl,r.ev z⟩
  ·intro h;cases hi with
   |none=>rfl
   |some z=>simp at h
 case fieldAddr s x f=>exact val (NM (r.ev x) hk) rfl
 case field t x f=>exact val (NN (r.ev x) hk) rfl
 case indexAddr t x i=>exact val (Qc (r.ev x) (r.ev i) hk) rfl
 case index t x i=>exact val (Qd (r.ev x) (r.ev i) hk) rfl
 case extract x i=>exact val (L9 (r.ev x) hk) rfl
 case build t ps=>exact val (Fs r hk) rfl
 case makeInterface t x=>
  unfold rI at hk
  split at hk
  ·rename_i y hx
   have hv:=r.ev x
   rw[hx] at hv
   refine val ⟨_,_,?_,.base (.v _),hk.2⟩ rfl
   rw[hv.bc]
   exact run_makeInterface w t y hk.1
  ·exact hk.elim
 case makeFunc fn first cs=>
  unfold rH at hk
  split at hk
  ·rename_i f hf
   have hf0:first= #[]:=by
    apply Array.ext'
    simpa using hf
   subst hf0
   refine⟨_,_,rfl,?_,hk⟩
   have e1:Array.map a.eval cs=(List.map a.eval cs.toList).toArray:=by rw[←Array.toList_map,Array.toArray_toList]
   have e2:VR c (.fn f (cs.toList.map st.ev)) (.func (.func f) #[] (List.map a.eval cs.toList).toArray):=by
    refine .fn f (cs.toList.map st.ev) (cs.toList.map a.eval) (by rw[List.length_map,List.length_map]) (fun i x u h1 h2=>?_)
    rw[List.getElem?_map] at h1 h2
    cases hc:cs.toList[i]? with
    |none=>simp[hc] at h1
    |some y=>simp only[hc,Option.map_some,Option.some.injEq] at h1 h2;subst h1;subst h2;exact r.ev y
   rw[←e1] at e2
   simpa using e2
  ·exact hk.elim
 case call cl=>
  obtain⟨callee,args,tys⟩:=cl
  simp only at hk
  split at hk
  ·rename_i x t hargs htys
   have ha:args= #[x]:=by apply Array.ext';simpa using hargs
   have ht:tys= #[t]:=by apply Array.ext';simpa using htys
   subst ha;subst ht
   obtain⟨u,y,h1,h2,h3⟩:=SD (w:=w) (ty:=type) (r.ev x) hk
   refine⟨u,y,?_,h2,h3⟩
   simp only[execOp,resolve,Sem.run_bind,Sem.run_pure,Result.andThen_ok,invoke,builtin,List.map_toArray,List.map_cons,List.map_nil,h1]
  ·rename_i x y hargs
   have ha:args= #[x,y]:=by apply Array.ext';simpa using hargs
   subst ha
   unfold nc at hk
   split at hk
   ·rename_i kd p kd' q hx hy
    have h1:=r.ev x
    have h2:=r.ev y
    rw[hx] at h1
    rw[hy] at h2
    refine⟨_,_,?_,.base (.v _),hk⟩
    simp only[execOp,resolve,Sem.run_bind,Sem.run_pure,Result.andThen_ok,invoke,builtin,List.map_toArray,List.map_cons,List.map_nil,h1.bc,h2.bc,Builtin.min_]
    simp only[List.foldlM_cons,List.foldlM_nil,Builtin.min2]
    have:(if q<p then q else p)=min p q:=by simp only[Int.min_def];split<;>split<;>omega
    simp[this]
   ·exact hk.elim
  ·rename_i x y hargs
   have ha:args= #[x,y]:=by apply Array.ext';simpa using hargs
   subst ha
   unfold nc at hk
   split at hk
   ·rename_i kd p kd' q hx hy
    have h1:=r.ev x
    have h2:=r.ev y
    rw[hx] at h1
    rw[hy] at h2
    refine⟨_,_,?_,.base (.v _),hk⟩
    simp only[execOp,resolve,Sem.run_bind,Sem.run_pure,Result.andThen_ok,invoke,builtin,List.map_toArray,List.map_cons,List.map_nil,h1.bc,h2.bc,Builtin.max_]
    simp only[List.foldlM_cons,List.foldlM_nil,Builtin.max2]
    have:(if q>p then q else p)=max p q:=by simp only[Int.max_def];split<;>split<;>omega
    simp[this]
   ·exact hk.elim
  ·exact hk.elim
end
end Go.az
namespace Go.az
open Go Go.RowKit
section
variable{P:Program}{w0:World}{im0:cU}{c:Ctx}{st:St}{a:Act}{w:World}
theorem VR.eo{x:AV}{v:Value}(h:VR c x v)(hl:x.eo=true):v.oneCell'=true:=by
 cases x with
 |any=>simp[AV.eo] at hl
 |v x=>cases h.bc;simpa[AV.eo] using hl
 |agg cs=>simp[AV.eo] at hl
 |ax cs=>simp[AV.eo] at hl
 |aw=>cases h.ez;rfl
 |sl t k es=>obtain⟨b,cap,rfl,_⟩:=h.fu.fp;rfl
 |mu=>rcases h.cW with⟨g,_,_,rfl⟩|⟨_,_,rfl⟩<;>rfl
 |ptr=>obtain⟨g,k,_,rfl⟩:=h.gR;rfl
 |bQ=>obtain⟨b,o,rfl,_⟩:=h.nM;rfl
 |fn=>obtain⟨vs,rfl,_⟩:=h.iq;rfl
def AV.dN:AV→Option AV
 |.v x=>if x.oneCell'=true then some (.v x) else none
 |.aw=>some .aw
 |.sl _ k es=>some (.sl none k es)
 |.bQ cs=>some (.bQ cs)
 |.fn f []=>some (.fn f [])
 |_=>none
def ny:List AV→Option (List AV)
 |[]=>some []
 |x::xs=>match x.dN,ny xs with
  |some y,some ys=>some (y::ys)
  |_,_=>none
def AV.clean:AV→Option AV
 |.agg cs=>(ny cs).map .agg
 |x=>x.dN
theorem qo{x y:AV}{v:Value}(h:VR c x v)(hc:x.dN=some y):aT c.im y v∧v.oneCell'=true∧y.leaves=[y]∧x.leaves=[x]∧v.cells= #[v]:=by
 cases x<;>simp only[AV.dN] at hc<;>first|(simp at hc;done)|skip
 case v x=>
  split at hc
  ·rename_i h1
   simp only[Option.some.injEq] at hc;subst hc
   cases h.bc
   exact⟨.v _,h1,rfl,rfl,by cases v<;>first|rfl|(simp[Value.oneCell'] at h1)⟩
  ·simp at hc
 case aw=>
  simp only[Option.some.injEq] at hc;subst hc
  cases h.ez
  exact⟨.aw,rfl,rfl,rfl,rfl⟩
 case sl t k es=>
  simp only[Option.some.injEq] at hc;subst hc
  obtain⟨b,cap,rfl,_⟩:=h.fu.fp
  exact⟨h.fu,rfl,rfl,rfl,rfl⟩
 case bQ cs=>
  simp only[Option.some.injEq] at hc;subst hc
  obtain⟨b,o,rfl,h0⟩:=h.oy
  exact⟨h0,rfl,rfl,rfl,rfl⟩
 case fn f cs=>
  cases cs with
  |nil=>
   simp only[AV.dN,Option.some.injEq] at hc;subst hc
   obtain⟨vs,rfl,hn,_⟩:=h.iq
   have:vs=[]:=List.eq_nil_of_length_eq_zero (by simpa using hn)
   subst this
   exact⟨.fn f [] [] rfl aB,rfl,rfl,rfl,rfl⟩
  |cons=>simp[AV.dN] at hc
theorem xR:∀{xs ys:List AV} {vs:List Value},Pw c xs vs→ny xs=some ys→ys.length=xs.length∧∀(i:Nat) (y:AV) (v:Value),ys[i]?=some y→vs[i]?=some v→aT c.im y v∧v.oneCell'=true
 |[],ys,vs,_,hc=>by simp only[ny,Option.some.injEq] at hc;subst hc;simp
 |x::xs,ys,vs,h,hc=>by
  simp only[ny] at hc
  split at hc
  ·rename_i y ys' h1 h2
   simp only[Option.some.injEq] at hc;subst hc
   cases vs with
   |nil=>simp[Pw] at h
   |cons v vs=>
    obtain⟨hl,ih⟩:=xR (vs:=vs) ⟨by simpa using h.1,fun i x u e1 e2=>h.2 (i+1) x u e1 e2⟩ h2
    have h0:=qo (h.2 0 x v rfl rfl) h1
    refine⟨by simp[hl],fun i y' v' e1 e2=>?_⟩
    cases i with
    |zero=>simp only[List.getElem?_cons_zero,Option.some.injEq] at e1 e2;subst e1;subst e2;exact⟨h0.1,h0.2.1⟩
    |succ i=>exact ih i y' v' (by simpa using e1) (by simpa using e2)
  ·simp at hc
theorem sg{x y:AV}{v:Value}(h:VR c x v)(hc:x.clean=some y):aT c.im y v∧v.cells.toList.length=y.leaves.length∧
 ∀(j:Nat) (l:AV) (u:Value),y.leaves[j]?=some l→v.cells.toList[j]?=some u→aT c.im l u∧u.oneCell'=true:=by
 unfold AV.clean at hc
 split at hc
 ·rename_i cs
  cases hl:ny cs with
  |none=>simp[hl] at hc
  |some ys=>
   simp only[hl,Option.map_some,Option.some.injEq] at hc;subst hc
   obtain⟨vs,rfl,hn,hp⟩:=h.jt
   obtain⟨h1,h2⟩:=xR (c:=c) ⟨hn,hp⟩ hl
   refine⟨.agg ys vs ab (fun i y v e1 e2=>(h2 i y v e1 e2).1),by simp[Value.cells,AV.leaves];omega,fun j l u e1 e2=>h2 j l u e1 (by simpa[Value.cells] using e2)⟩
 ·obtain⟨h1,h2,h3,_,h5⟩:=qo h hc
  rw[h3,h5]
  refine⟨h1,rfl,fun j l u e1 e2=>?_⟩
  cases j with
  |zero=>simp only[List.getElem?_cons_zero,Option.some.injEq] at e1 e2;subst e1;subst e2;exact⟨h1,h2⟩
  |succ j=>simp at e1
theorem xH{w:World}{g:Nat}{o:Obj}(h:w.heap[g]?=some o):g<w.heap.size:=by
 rcases Nat.lt_or_ge g w.heap.size with h'|h'
 ·exact h'
 ·rw[Array.getElem?_eq_none h'] at h;simp at h
theorem Rel.mD(r:Rel w0 im0 c st a w){b o:Nat}{x:Value}(h:c.im b o=some x):b<w.heap.size:=World.block_lt_of_cell? w ⟨b,o,none⟩ (r.ck _ _ _ h)
theorem Rel.kL(r:Rel w0 im0 c st a w){i g k:Nat}{es:List AV}(h1:c.β[i]?=some (some (g,k)))(h2:st.own[i]?=some (some es)):g<w.heap.size:=by
 obtain⟨cs,ty,lo,hi,hb,_⟩:=(r.own i g k es h1 h2).aZ
 exact xH hb
theorem Rel.kV(r:Rel w0 im0 c st a w){t b:Nat}{T:Tok}(h1:c.tk[t]?=some T)(h2:T.aZ=some b):b<w.heap.size:=by
 obtain⟨cs,ty,lo,hi,hb,_⟩:=(r.tok t T b h1 h2).aZ
 exact xH hb
theorem cell_of_block{w w':World}{b:Nat}(h:w'.heap[b]?=w.heap[b]?)(o:Nat):w'.cell? ⟨b,o,none⟩=w.cell? ⟨b,o,none⟩:=World.cell?_of_block (w:=w) (a:=⟨b,o,none⟩) h
theorem rO.mono{d:Ctx}{B g k:Nat}{w w':World}{es:List AV}(h:rO c B w g k es)(hc:c.le d)(hi:∀o,d.im g o=none)(hb:w'.heap[g]?=w.heap[g]?):rO d B w' g k es:=by
 obtain⟨cs,ty,lo,hi',h1,h2,h3,h4,h5⟩:=h.aZ
 exact⟨h.new,hi,cs,ty,lo,hi',by rw[hb];exact h1,h2,h3,h4,fun i e j x e1 e2=>let⟨v,v1,v2,v3⟩:=h5 i e j x e1 e2;⟨v,v1,v2.mono hc,v3⟩⟩
theorem Rel.ext{w':World}(r:Rel w0 im0 c st a w)(hb:Below im0.dr w.heap.size w w'):Rel w0 im0 c st a w':=by
 have hsz:w0.heap.size≤w.heap.size:=r.below.size
 refine⟨r.defers,r.size,r.tmps,r.below.trans (hb.mono hsz),r.c8,r.dp,?_,r.bS,?_,r.cH,r.tail,?_,r.apart,r.dv,r.up,r.hole⟩
 ·intro b o x h
  rw[cell_of_block (hb.block b (r.mD h))]
  exact r.ck b o x h
 ·intro i g k es h1 h2
  exact(r.own i g k es h1 h2).mono (.refl c) (r.own i g k es h1 h2).im (hb.block g (r.kL h1 h2))
 ·intro t T b h1 h2
  have:=r.tok t T b h1 h2
  obtain⟨cs,ty,lo,hi,h3,h4⟩:=this.aZ
  exact⟨this.new,this.room,this.im,cs,ty,lo,hi,by rw[hb.block b (r.kV h1 h2)];exact h3,h4⟩
theorem lJ{α:Type}(l:List α)(x:α)(i:Nat)(y:α)(h:(l++[x])[i]?=some y):(i<l.length∧l[i]?=some y)∨(i=l.length∧y=x):=by
 rcases Nat.lt_or_ge i l.length with h1|h1
 ·rw[List.getElem?_append_left h1] at h;exact .inl ⟨h1,h⟩
 ·rw[List.getElem?_append_right h1] at h
  rcases Nat.eq_zero_or_pos (i-l.length) with h2|h2
  ·rw[h2] at h;simp only[List.getElem?_cons_zero,Option.some.injEq] at h;exact .inr ⟨by omega,h.symm⟩
  ·rw[List.getElem?_eq_none (by simp;omega)] at h;simp at h
theorem qD{α:Type}(l m:List α)(i:Nat)(y:α)(h:(l++m)[i]?=some y):(i<l.length∧l[i]?=some y)∨(l.length≤i∧m[i-l.length]?=some y):=by
 rcases Nat.lt_or_ge i l.length with h1|h1
 ·rw[List.getElem?_append_left h1] at h;exact .inl ⟨h1,h⟩
 ·rw[List.getElem?_append_right h1] at h;exact .inr ⟨h1,h⟩
theorem Rel.oR{w':World}(r:Rel w0 im0 c st a w)(hb:Below im0.dr w.heap.size w w'){g k:Nat}{es:List AV}(hg:w.heap.size≤g)
 (hblk:∃cs ty lo hi,w'.heap[g]?=some (.cells cs ty (lo,hi))∧(lo=hi∨k=1∧cs.size≤lo)∧es.length*k≤cs.size∧
   (∀(i:Nat) (e:AV),es[i]?=some e→e.leaves.length=k)∧∀(i:Nat) (e:AV) (j:Nat) (x:AV),es[i]?=some e→e.leaves[j]?=some x→∃v,cs[i*k+j]?=some v∧VR c x v∧(x= .any∨v.oneCell'=true)):
 c.le { c with β:=c.β++[some (g,k)] }∧Rel w0 im0 { c with β:=c.β++[some (g,k)] } { st with own:=st.own++[some es] } a w':=by
 have hle:c.le { c with β:=c.β++[some (g,k)] }:=⟨fun i p h=>by
  have hlt:i<c.β.length:=by
   rcases Nat.lt_or_ge i c.β.length with h'|h'
   ·exact h'
   ·rw[List.getElem?_eq_none h'] at h;simp at h
  show(c.β++[some (g,k)])[i]?=some p
  rw[List.getElem?_append_left hlt];exact h,fun t T h=>⟨T,h,rfl,.inl rfl⟩,.refl _⟩
 have r':=r.ext hb
 have hfresh:∀o,c.im g o=none:=fun o=>by
  cases h:c.im g o with
  |none=>rfl
  |some x=>have:=r.mD h;omega
 refine⟨hle,r'.defers,r'.size,fun i x v h1 h2=>(r'.tmps i x v h1 h2).mono hle,r'.below,r'.c8,r'.dp,r'.ck,by simp[r'.bS],?_,r'.cH,r'.tail,r'.tok,?_,r'.dv,⟨r'.up.1,fun i x v h1 h2=>(r'.up.2 i x v h1 h2).mono hle⟩,fun l d i h1 h2=>?_⟩
 rotate_left 2
 ·have h3:=r.hole l d i h1 h2
  have hlt:i<c.β.length:=by
   rcases Nat.lt_or_ge i c.β.length with h'|h'
   ·exact h'
   ·rw[List.getElem?_eq_none h'] at h3;simp at h3
  show(c.β++[some (g,k)])[i]?=some none
  rw[List.getElem?_append_left hlt];exact h3
 ·intro i g' k' es' h1 h2
  rcases lJ _ _ _ _ h1 with⟨hl1,h1⟩|⟨hl1,h1⟩
  ·rcases lJ _ _ _ _ h2 with⟨hl2,h2⟩|⟨hl2,h2⟩
   ·exact(r'.own i g' k' es' h1 h2).mono hle (r'.own i g' k' es' h1 h2).im rfl
   ·have:=r.bS;omega
  ·rcases lJ _ _ _ _ h2 with⟨hl2,h2⟩|⟨hl2,h2⟩
   ·have:=r.bS;omega
   ·simp only[Option.some.injEq,Prod.mk.injEq] at h1
    obtain⟨rfl,rfl⟩:=h1
    simp only[Option.some.injEq] at h2
    subst h2
    obtain⟨cs,ty,lo,hi,h1,h2,h3,h4,h5⟩:=hblk
    exact⟨Nat.le_trans r.below.size hg,hfresh,cs,ty,lo,hi,h1,h2,h3,h4,fun i e j x e1 e2=>let⟨v,v1,v2,v3⟩:=h5 i e j x e1 e2;⟨v,v1,v2.mono hle,v3⟩⟩
 ·refine⟨?_,?_,r'.apart.tt⟩
  ·intro i j g1 k1 g2 k2 e1 e2 h1 h2 h3 h4 hij
   rcases lJ _ _ _ _ h1 with⟨l1,h1⟩|⟨l1,h1⟩<;>rcases lJ _ _ _ _ h2 with⟨l2,h2⟩|⟨l2,h2⟩
   ·have h3':st.own[i]?=some (some e1):=by rw[List.getElem?_append_left (by rw[←r.bS];exact l1)] at h3;exact h3
    have h4':st.own[j]?=some (some e2):=by rw[List.getElem?_append_left (by rw[←r.bS];exact l2)] at h4;exact h4
    exact r.apart.oo i j g1 k1 g2 k2 e1 e2 h1 h2 h3' h4' hij
   ·have h3':st.own[i]?=some (some e1):=by rw[List.getElem?_append_left (by rw[←r.bS];exact l1)] at h3;exact h3
    have:=r.kL h1 h3'
    simp only[Option.some.injEq,Prod.mk.injEq] at h2
    omega
   ·have h4':st.own[j]?=some (some e2):=by rw[List.getElem?_append_left (by rw[←r.bS];exact l2)] at h4;exact h4
    have:=r.kL h2 h4'
    simp only[Option.some.injEq,Prod.mk.injEq] at h1
    omega
   ·omega
  ·intro i t g1 k1 e1 T b h1 h2 h3 h4
   have hb':=r.kV h3 h4
   rcases lJ _ _ _ _ h1 with⟨l1,h1⟩|⟨l1,h1⟩
   ·have h2':st.own[i]?=some (some e1):=by rw[List.getElem?_append_left (by rw[←r.bS];exact l1)] at h2;exact h2
    exact r.apart.ot i t g1 k1 e1 T b h1 h2' h3 h4
   ·simp only[Option.some.injEq,Prod.mk.injEq] at h1
    omega
structure kf(im:Im)(B:Nat)(w:World)(tks:List Tok):Prop where
 ok:∀(i:Nat) (T:Tok) (b:Nat),tks[i]?=some T→T.aZ=some b→tQ im B w T b
 ap:∀(i j:Nat) (T U:Tok) (b d:Nat),tks[i]?=some T→tks[j]?=some U→T.aZ=some b→U.aZ=some d→i≠j→b≠d
theorem fT{α:Type}(l m:List α)(i:Nat)(y:α)(h:(l++m)[i]?=some y):(i<l.length∧l[i]?=some y)∨(l.length≤i∧m[i-l.length]?=some y):=by
 rcases Nat.lt_or_ge i l.length with h1|h1
 ·rw[List.getElem?_append_left h1] at h;exact .inl ⟨h1,h⟩
 ·rw[List.getElem?_append_right h1] at h;exact .inr ⟨h1,h⟩
theorem Rel.Bt(r:Rel w0 im0 c st a w)(m:Nat){l:List (Tmp×Nat)}(hl:∀d i,(d,i)∈l→st.own.length≤i∧i<st.own.length+m):
 Rel w0 im0 { c with β:=c.β++List.replicate m none } { st with own:=st.own++List.replicate m none,bR:=some l } a w:=by
 have hin:∀{i:Nat} {p:Nat×Nat},(c.β++List.replicate m none)[i]?=some (some p)→i<c.β.length∧c.β[i]?=some (some p):=fun{i p} h=>by
  rcases qD _ _ _ _ h with h|⟨hl,h⟩
  ·exact h
  ·rw[List.getElem?_replicate] at h
   split at h<;>simp at h
 have hle:c.le { c with β:=c.β++List.replicate m none }:=⟨fun i p h=>by
  have hlt:i<c.β.length:=by
   rcases Nat.lt_or_ge i c.β.length with h'|h'
   ·exact h'
   ·rw[List.getElem?_eq_none h'] at h;simp at h
  show(c.β++List.replicate m none)[i]?=some (some p)
  rw[List.getElem?_append_left hlt];exact h,fun t T h=>⟨T,h,rfl,.inl rfl⟩,.refl _⟩
 have hown:∀{i:Nat} {es:List AV},i<c.β.length→(st.own++List.replicate m none)[i]?=some (some es)→st.own[i]?=some (some es):=fun{i es} hlt h=>by
  rwa[List.getElem?_append_left (by rw[←r.bS];exact hlt)] at h
 refine⟨r.defers,r.size,fun i x v h1 h2=>(r.tmps i x v h1 h2).mono hle,r.below,r.c8,r.dp,r.ck,by simp[r.bS],?_,r.cH,r.tail,r.tok,?_,r.dv,⟨r.up.1,fun i x v h1 h2=>(r.up.2 i x v h1 h2).mono hle⟩,?_⟩
 ·intro i g k es h1 h2
  obtain⟨hlt,h1⟩:=hin h1
  exact(r.own i g k es h1 (hown hlt h2)).mono hle (r.own i g k es h1 (hown hlt h2)).im rfl
 ·refine⟨?_,?_,r.apart.tt⟩
  ·intro i j g1 k1 g2 k2 e1 e2 h1 h2 h3 h4 hij
   obtain⟨l1,h1⟩:=hin h1
   obtain⟨l2,h2⟩:=hin h2
   exact r.apart.oo i j g1 k1 g2 k2 e1 e2 h1 h2 (hown l1 h3) (hown l2 h4) hij
  ·intro i t g1 k1 e1 T b h1 h2 h3 h4
   obtain⟨l1,h1⟩:=hin h1
   exact r.apart.ot i t g1 k1 e1 T b h1 (hown l1 h2) h3 h4
 ·intro l' d i h1 h2
  simp only[Option.some.injEq] at h1;subst h1
  obtain⟨h3,h4⟩:=hl d i h2
  show(c.β++List.replicate m none)[i]?=some none
  rw[List.getElem?_append_right (by rw[r.bS];exact h3),List.getElem?_replicate,if_pos (by rw[r.bS];omega)]
theorem Rel.fill{w':World}(r:Rel w0 im0 c st a w){id:Nat}(drop:List (Tmp×Nat)→List (Tmp×Nat))(hdrop:∀l d j,(d,j)∈drop l→(d,j)∈l∧j≠id)(hb:Below im0.dr w.heap.size w w'){g k:Nat}{es:List AV}(hg:w.heap.size≤g)(hh:c.β[id]?=some none)
 (hblk:∃cs ty lo hi,w'.heap[g]?=some (.cells cs ty (lo,hi))∧(lo=hi∨k=1∧cs.size≤lo)∧es.length*k≤cs.size∧
   (∀(i:Nat) (e:AV),es[i]?=some e→e.leaves.length=k)∧∀(i:Nat) (e:AV) (j:Nat) (x:AV),es[i]?=some e→e.leaves[j]?=some x→∃v,cs[i*k+j]?=some v∧VR c x v∧(x= .any∨v.oneCell'=true)):
 c.le { c with β:=c.β.set id (some (g,k)) }∧Rel w0 im0 { c with β:=c.β.set id (some (g,k)) } { st with own:=st.own.set id (some es),bR:=st.bR.map drop } a w':=by
 have hidlt:id<c.β.length:=by
  rcases Nat.lt_or_ge id c.β.length with h'|h'
  ·exact h'
  ·rw[List.getElem?_eq_none h'] at hh;simp at hh
 have hset:∀{i:Nat} {p:Nat×Nat},(c.β.set id (some (g,k)))[i]?=some (some p)→(i=id∧p=(g,k))∨(i≠id∧c.β[i]?=some (some p)):=fun{i p} h=>by
  rw[List.getElem?_set] at h
  by_cases e:id=i
  ·subst e;rw[if_pos rfl,if_pos hidlt] at h;simp only[Option.some.injEq] at h;exact .inl ⟨rfl,h.symm⟩
  ·rw[if_neg e] at h;exact .inr ⟨fun e'=>e e'.symm,h⟩
 have hown:∀{i:Nat} {es':List AV},i≠id→(st.own.set id (some es))[i]?=some (some es')→st.own[i]?=some (some es'):=fun{i es'} hne h=>by
  rwa[List.getElem?_set_ne (fun e=>hne e.symm)] at h
 have hle:c.le { c with β:=c.β.set id (some (g,k)) }:=⟨fun i p h=>by
  show(c.β.set id (some (g,k)))[i]?=some (some p)
  have:id≠i:=fun e=>by subst e;rw[hh] at h;simp at h
  rw[List.getElem?_set_ne this];exact h,fun t T h=>⟨T,h,rfl,.inl rfl⟩,.refl _⟩
 have r':=r.ext hb
 have hfresh:∀o,c.im g o=none:=fun o=>by
  cases h:c.im g o with
  |none=>rfl
  |some x=>have:=r.mD h;omega
 refine⟨hle,r'.defers,r'.size,fun i x v h1 h2=>(r'.tmps i x v h1 h2).mono hle,r'.below,r'.c8,r'.dp,r'.ck,by simp[r'.bS],?_,r'.cH,r'.tail,r'.tok,?_,r'.dv,⟨r'.up.1,fun i x v h1 h2=>(r'.up.2 i x v h1 h2).mono hle⟩,?_⟩
 ·intro i g' k' es' h1 h2
  rcases hset h1 with⟨rfl,q1⟩|⟨hne,q1⟩
  ·simp only[Prod.mk.injEq] at q1
   obtain⟨rfl,rfl⟩:=q1
   have h2:(st.own.set i (some es))[i]?=some (some es'):=h2
   rw[List.getElem?_set,if_pos rfl,if_pos (by rw[←r.bS];exact hidlt)] at h2
   simp only[Option.some.injEq] at h2
   subst h2
   obtain⟨cs,ty,lo,hi,h1,h2,h3,h4,h5⟩:=hblk
   exact⟨Nat.le_trans r.below.size hg,hfresh,cs,ty,lo,hi,h1,h2,h3,h4,fun i e j x e1 e2=>let⟨v,v1,v2,v3⟩:=h5 i e j x e1 e2;⟨v,v1,v2.mono hle,v3⟩⟩
  ·exact(r'.own i g' k' es' q1 (hown hne h2)).mono hle (r'.own i g' k' es' q1 (hown hne h2)).im rfl
 ·refine⟨?_,?_,r'.apart.tt⟩
  ·intro i j g1 k1 g2 k2 e1 e2 h1 h2 h3 h4 hij
   rcases hset h1 with⟨a1,q1⟩|⟨n1,q1⟩<;>rcases hset h2 with⟨a2,q2⟩|⟨n2,q2⟩
   ·exact absurd (a1.trans a2.symm) hij
   ·have:=r.kL q2 (hown n2 h4)
    simp only[Prod.mk.injEq] at q1
    omega
   ·have:=r.kL q1 (hown n1 h3)
    simp only[Prod.mk.injEq] at q2
    omega
   ·exact r.apart.oo i j g1 k1 g2 k2 e1 e2 q1 q2 (hown n1 h3) (hown n2 h4) hij
  ·intro i t g1 k1 e1 T b h1 h2 h3 h4
   have hb':=r.kV h3 h4
   rcases hset h1 with⟨a1,q1⟩|⟨n1,q1⟩
   ·simp only[Prod.mk.injEq] at q1
    omega
   ·exact r.apart.ot i t g1 k1 e1 T b q1 (hown n1 h2) h3 h4
 ·intro l' d i h1 h2
  cases hl:st.bR with
  |none=>simp[hl] at h1
  |some l=>
   simp only[hl,Option.map_some,Option.some.injEq] at h1
   subst h1
   have h2:=hdrop l d i h2
   have:=r.hole l d i hl h2.1
   show(c.β.set id (some (g,k)))[i]?=some none
   rw[List.getElem?_set_ne (fun e=>h2.2 e.symm)]
   exact this
theorem Rel.rT{w':World}(r:Rel w0 im0 c st a w)(hb:Below im0.dr w.heap.size w w'){im':Im}{tks:List Tok}(him:c.im.le im')(hok:∀(b o:Nat) (x:Value),im' b o=some x→w'.cell? ⟨b,o,none⟩=some x)
 (hold:∀(b o:Nat),b<w.heap.size→im' b o=c.im b o) (ht:kf im' w.heap.size w' tks):
 c.le ⟨c.β,c.tk++tks,im'⟩∧Rel w0 im0 ⟨c.β,c.tk++tks,im'⟩ { st with tk:=st.tk++tks.map (·.tail) } a w':=by
 have hle:c.le ⟨c.β,c.tk++tks,im'⟩:=⟨fun i p h=>h,fun t T h=>by
  have hlt:t<c.tk.length:=by
   rcases Nat.lt_or_ge t c.tk.length with h'|h'
   ·exact h'
   ·rw[List.getElem?_eq_none h'] at h;simp at h
  exact⟨T,by show(c.tk++tks)[t]?=some T;rw[List.getElem?_append_left hlt];exact h,rfl,.inl rfl⟩,him⟩
 have r':=r.ext hb
 have hsz:=r.below.size
 refine⟨hle,r'.defers,r'.size,fun i x v h1 h2=>(r'.tmps i x v h1 h2).mono hle,r'.below,r'.c8.trans him,fun b o h=>?_,hok,r'.bS,?_,?_,?_,?_,?_,fun g cs h=>(r'.dv g cs h).mono him,⟨r'.up.1,fun i x v h1 h2=>(r'.up.2 i x v h1 h2).mono hle⟩,r'.hole⟩
 ·show im' b o=im0.im b o
  rw[hold b o ab];exact r.dp b o h
 ·intro i g k es h1 h2
  have:=r'.own i g k es h1 h2
  exact this.mono hle (fun o=>by show im' g o=none;rw[hold g o (r.kL h1 h2)];exact this.im o) rfl
 ·simp[r'.cH]
 ·intro t T h
  rcases fT _ _ _ _ h with⟨hl,h⟩|⟨hl,h⟩
  ·show(st.tk++tks.map (·.tail))[t]?=some T.tail
   rw[List.getElem?_append_left (by rw[←r.cH];exact hl)];exact r.tail t T h
  ·show(st.tk++tks.map (·.tail))[t]?=some T.tail
   rw[List.getElem?_append_right (by rw[←r.cH];exact hl),←r.cH]
   simp[h]
 ·intro t T b h1 h2
  rcases fT _ _ _ _ h1 with⟨hl,h1⟩|⟨hl,h1⟩
  ·have:=r'.tok t T b h1 h2
   exact⟨this.new,this.room,fun o ho=>by show im' b o=none;rw[hold b o (r.kV h1 h2)];exact this.im o ho,this.aZ⟩
  ·have:=ht.ok _ T b h1 h2
   exact⟨Nat.le_trans hsz this.new,this.room,this.im,this.aZ⟩
 ·refine⟨r'.apart.oo,?_,?_⟩
  ·intro i t g k es T b h1 h2 h3 h4
   rcases fT _ _ _ _ h3 with⟨hl,h3⟩|⟨hl,h3⟩
   ·exact r.apart.ot i t g k es T b h1 h2 h3 h4
   ·have h5:=r.kL h1 h2
    have h6:=(ht.ok _ T b h3 h4).new
    omega
  ·intro t u T U b d h1 h2 h3 h4 hne
   rcases fT _ _ _ _ h1 with⟨l1,h1⟩|⟨l1,h1⟩<;>rcases fT _ _ _ _ h2 with⟨l2,h2⟩|⟨l2,h2⟩
   ·exact r.apart.tt t u T U b d h1 h2 h3 h4 hne
   ·have h5:=r.kV h1 h3
    have h6:=(ht.ok _ U d h2 h4).new
    omega
   ·have h5:=r.kV h2 h4
    have h6:=(ht.ok _ T b h1 h3).new
    omega
   ·exact ht.ap _ _ T U b d h1 h2 h3 h4 ab
end
end Go.az
namespace Go.az
open Go Go.RowKit
section
variable{P:Program}{w0:World}{im0:cU}{c:Ctx}{st:St}{a:Act}{w:World}
theorem Rel.oB{w':World}(r:Rel w0 im0 c st a w){id g k:Nat}{es es':List AV}(h1:c.β[id]?=some (some (g,k)))(h2:st.own[id]?=some (some es))
 (hw:∀b,b≠g→w'.heap[b]?=w.heap[b]?) (hb:Below im0.dr w0.heap.size w0 w')
 (hblk:∃cs ty lo hi,w'.heap[g]?=some (.cells cs ty (lo,hi))∧(lo=hi∨k=1∧cs.size≤lo)∧es'.length*k≤cs.size∧
   (∀(i:Nat) (e:AV),es'[i]?=some e→e.leaves.length=k)∧∀(i:Nat) (e:AV) (j:Nat) (x:AV),es'[i]?=some e→e.leaves[j]?=some x→∃v,cs[i*k+j]?=some v∧VR c x v∧(x= .any∨v.oneCell'=true)):
 Rel w0 im0 c { st with own:=st.own.set id (some es') } a w':=by
 have ho:=r.own id g k es h1 h2
 refine⟨r.defers,r.size,r.tmps,hb,r.c8,r.dp,?_,by simp[r.bS],?_,r.cH,r.tail,?_,?_,r.dv,r.up,r.hole⟩
 ·intro b o x h
  have hne:b≠g:=fun e=>by subst e;rw[ho.im o] at h;simp at h
  rw[cell_of_block (hw b hne)]
  exact r.ck b o x h
 ·intro i g' k' es2 e1 e2
  simp only[List.getElem?_set] at e2
  by_cases hi:id=i
  ·subst hi
   rw[if_pos rfl] at e2
   split at e2
   ·simp only[Option.some.injEq] at e2
    subst e2
    rw[h1] at e1
    simp only[Option.some.injEq,Prod.mk.injEq] at e1
    obtain⟨rfl,rfl⟩:=e1
    exact⟨ho.new,ho.im,hblk⟩
   ·simp at e2
  ·rw[if_neg hi] at e2
   have hne:=r.apart.oo i id g' k' g k es2 es e1 h1 e2 h2 (Ne.symm hi)
   exact(r.own i g' k' es2 e1 e2).mono (.refl c) (r.own i g' k' es2 e1 e2).im (hw g' hne)
 ·intro t T b e1 e2
  have:=r.tok t T b e1 e2
  have hne:=r.apart.ot id t g k es T b h1 h2 e1 e2
  obtain⟨cs,ty,lo,hi,h3,h4⟩:=this.aZ
  exact⟨this.new,this.room,this.im,cs,ty,lo,hi,by rw[hw b (Ne.symm hne)];exact h3,h4⟩
 ·have conv:∀{i:Nat} {e:List AV},(st.own.set id (some es'))[i]?=some (some e)→∃e',st.own[i]?=some (some e'):=by
   intro i e he
   rw[List.getElem?_set] at he
   by_cases hi:id=i
   ·subst hi;exact⟨es,h2⟩
   ·rw[if_neg hi] at he;exact⟨e,he⟩
  refine⟨?_,?_,r.apart.tt⟩
  ·intro i j g1 k1 g2 k2 e1 e2 a1 a2 a3 a4 hij
   obtain⟨e1',a3⟩:=conv a3
   obtain⟨e2',a4⟩:=conv a4
   exact r.apart.oo i j g1 k1 g2 k2 e1' e2' a1 a2 a3 a4 hij
  ·intro i t g1 k1 e1 T b a1 a2 a3 a4
   obtain⟨e1',a2⟩:=conv a2
   exact r.apart.ot i t g1 k1 e1' T b a1 a2 a3 a4
theorem Rel.BW{w':World}(r:Rel w0 im0 c st a w){t:Nat}{T T':Tok}{im':Im}(h1:c.tk[t]?=some T)(hk:T'.k=T.k)(hlt:T.tail<T'.tail)
 (hw:∀b,b<w.heap.size→T.aZ≠some b→w'.heap[b]?=w.heap[b]?) (hb:Below im0.dr w0.heap.size w0 w') (him:c.im.le im')
 (hok:∀(b o:Nat) (x:Value),im' b o=some x→w'.cell? ⟨b,o,none⟩=some x)
 (hold:∀(b o:Nat),b<w.heap.size→T.aZ≠some b→im' b o=c.im b o)
 (hblk:∀b,T'.aZ=some b→(T.aZ=some b∨w.heap.size≤b)∧tQ im' w0.heap.size w' T' b):
 c.le ⟨c.β,c.tk.set t T',im'⟩∧Rel w0 im0 ⟨c.β,c.tk.set t T',im'⟩ { st with tk:=st.tk.set t T'.tail } a w':=by
 have htl:t<c.tk.length:=by
  rcases Nat.lt_or_ge t c.tk.length with h'|h'
  ·exact h'
  ·rw[List.getElem?_eq_none h'] at h1;simp at h1
 have hle:c.le ⟨c.β,c.tk.set t T',im'⟩:=⟨fun i p h=>h,fun u U h=>by
  by_cases hu:t=u
  ·subst hu
   rw[h1] at h
   simp only[Option.some.injEq] at h;subst h
   exact⟨T',by simp[htl],hk,.inr hlt⟩
  ·exact⟨U,by show(c.tk.set t T')[u]?=some U;rw[List.getElem?_set,if_neg hu];exact h,rfl,.inl rfl⟩,him⟩
 have hset:∀{u:Nat} {U:Tok},(c.tk.set t T')[u]?=some U→(t=u∧U=T')∨(t≠u∧c.tk[u]?=some U):=by
  intro u U h
  rw[List.getElem?_set] at h
  by_cases hu:t=u
  ·subst hu
   rw[if_pos rfl,if_pos htl] at h
   simp only[Option.some.injEq] at h
   exact .inl ⟨rfl,h.symm⟩
  ·rw[if_neg hu] at h;exact .inr ⟨hu,h⟩
 refine⟨hle,r.defers,r.size,fun i x v e1 e2=>(r.tmps i x v e1 e2).mono hle,hb,r.c8.trans him,?_,hok,r.bS,?_,by simp[r.cH],?_,?_,?_,fun g cs h=>(r.dv g cs h).mono him,⟨r.up.1,fun i x v e1 e2=>(r.up.2 i x v e1 e2).mono hle⟩,r.hole⟩
 ·intro b o h
  show im' b o=im0.im b o
  rw[hold b o (Nat.lt_of_lt_of_le h r.below.size) (fun e=>by have:=(r.tok t T b h1 e).new;omega)]
  exact r.dp b o h
 ·intro i g k es e1 e2
  have ho:=r.own i g k es e1 e2
  have hne:T.aZ≠some g:=fun e=>r.apart.ot i t g k es T g e1 e2 h1 e rfl
  have hlt':=r.kL e1 e2
  exact ho.mono hle (fun o=>by show im' g o=none;rw[hold g o hlt' hne];exact ho.im o) (hw g hlt' hne)
 ·intro u U h
  rcases hset h with⟨rfl,rfl⟩|⟨hne,h⟩
  ·show(st.tk.set t U.tail)[t]?=some U.tail
   simp[←r.cH,htl]
  ·show(st.tk.set t T'.tail)[u]?=some U.tail
   rw[List.getElem?_set,if_neg hne];exact r.tail u U h
 ·intro u U b h e2
  rcases hset h with⟨rfl,rfl⟩|⟨hne,h⟩
  ·exact(hblk b e2).2
  ·have ho:=r.tok u U b h e2
   have hne':T.aZ≠some b:=fun e=>r.apart.tt u t U T b b h h1 e2 e (Ne.symm hne) rfl
   have hlt':=r.kV h e2
   obtain⟨cs,ty,lo,hi,h3,h4⟩:=ho.aZ
   exact⟨ho.new,ho.room,fun o hh=>by show im' b o=none;rw[hold b o hlt' hne'];exact ho.im o hh,cs,ty,lo,hi,by rw[hw b hlt' hne'];exact h3,h4⟩
 ·refine⟨r.apart.oo,?_,?_⟩
  ·intro i u g k es U b e1 e2 h e4
   rcases hset h with⟨rfl,rfl⟩|⟨hne,h⟩
   ·rcases(hblk b e4).1 with e|e
    ·exact r.apart.ot i t g k es T b e1 e2 h1 e
    ·have:=r.kL e1 e2;omega
   ·exact r.apart.ot i u g k es U b e1 e2 h e4
  ·intro u v U V b d e1 e2 e3 e4 hne
   rcases hset e1 with⟨rfl,rfl⟩|⟨n1,f1⟩<;>rcases hset e2 with⟨rfl,rfl⟩|⟨n2,f2⟩
   ·exact absurd rfl hne
   ·rcases(hblk b e3).1 with e|e
    ·exact r.apart.tt t v T V b d h1 f2 e e4 n2
    ·have:=r.kV f2 e4;omega
   ·rcases(hblk d e4).1 with e|e
    ·exact r.apart.tt u t U T b d f1 h1 e3 e (Ne.symm n1)
    ·have:=r.kV f1 e3;omega
   ·exact r.apart.tt u v U V b d f1 f2 e3 e4 hne
theorem ns{D:Prop}(w:World)(o:Obj):Below D w.heap.size w (w.alloc o):=(Below.refl _ _).alloc (Nat.le_refl _) o
theorem oY{D:Prop}(w:World)(o:Obj):Below D w.heap.size w (w.drew.alloc o):=((Below.refl _ w).drew).alloc (Nat.le_refl _) o
theorem js(w:World)(o:Obj):(w.alloc o).heap[w.heap.size]?=some o:=by
 show(w.heap.push o)[w.heap.size]?=_
 simp
theorem Pw.box{xs:List AV}{us:List Value}(h:Pw c xs us)(hl:xs.all AV.eo=true){w':World}{g:Nat}{ty:TypeId}(hb:w'.heap[g]?=some (.cells us.toArray ty (0,0))):
 ∃cs ty lo hi,w'.heap[g]?=some (.cells cs ty (lo,hi))∧(lo=hi∨xs.length=1∧cs.size≤lo)∧[AV.agg xs].length*xs.length≤cs.size∧
  (∀(i:Nat) (e:AV),[AV.agg xs][i]?=some e→e.leaves.length=xs.length)∧∀(i:Nat) (e:AV) (j:Nat) (x:AV),[AV.agg xs][i]?=some e→e.leaves[j]?=some x→∃v,cs[i*xs.length+j]?=some v∧VR c x v∧(x= .any∨v.oneCell'=true):=by
 refine⟨us.toArray,ty,0,0,hb,.inl rfl,by simp[h.1],?_,?_⟩
 ·intro i e he
  cases i with
  |zero=>simp only[List.getElem?_cons_zero,Option.some.injEq] at he;subst he;rfl
  |succ i=>simp at he
 ·intro i e j x he hx
  cases i with
  |succ i=>simp at he
  |zero=>
   simp only[List.getElem?_cons_zero,Option.some.injEq] at he;subst he
   simp only[AV.leaves] at hx
   have hlt:j<xs.length:=by
    rcases Nat.lt_or_ge j xs.length with h'|h'
    ·exact h'
    ·rw[List.getElem?_eq_none h'] at hx;simp at hx
   have hu:us[j]?=some (us[j]'(by rw[h.1];exact hlt)):=by simp[h.1,hlt]
   have hv:=h.2 j x _ hx hu
   refine⟨_,by simp[hu],hv,.inr (hv.eo ?_)⟩
   exact List.all_eq_true.1 hl x (List.mem_of_getElem? hx)
theorem Rel.box(r:Rel w0 im0 c st a w){xs:List AV}{us:List Value}(h:Pw c xs us)(hl:xs.all AV.eo=true)(ty:TypeId):
 ∃c',c.le c'∧Rel w0 im0 c' { st with own:=st.own++[some [.agg xs]] } a (w.alloc (.cells us.toArray ty))∧VR c' (.ptr st.own.length 0 0) (.pointer (some ⟨w.heap.size,0,none⟩)):=by
 obtain⟨h1,h2⟩:=r.oR (ns w (.cells us.toArray ty)) (g:=w.heap.size) (k:=xs.length) (es:=[.agg xs]) (Nat.le_refl _) (h.box hl (js w _))
 refine⟨_,h1,h2,?_⟩
 have:VR { c with β:=c.β++[some (w.heap.size,xs.length)] } (.ptr st.own.length 0 0) (.pointer (some ⟨w.heap.size,0*xs.length+0,none⟩)):= .ptr (by simp[←r.bS])
 simpa using this
def tK(P:Program)(t:TypeId)(st:St)(K:St→AV→Prop):Prop:=
 ∃z,cZ P t=some z∧K { st with own:=st.own++[some [.agg z]] } (.ptr st.own.length 0 0)
def rE(x:AV)(st:St)(K:St→AV→Prop):Prop:=
 x.plain=true∧x.leaves.all AV.eo=true∧K { st with own:=st.own++[some [.agg x.leaves]] } (.ptr st.own.length 0 0)
theorem Dc(r:Rel w0 im0 c st a w){t:TypeId}{K:St→AV→Prop}(hk:tK P t st K):
 ∃v x w' c' st',(Instr.alloc t true (.tuple #[])).run P w= .ok v w'∧Rel w0 im0 c' st' a w'∧VR c' x v∧K st' x:=by
 obtain⟨z,hz,hk⟩:=hk
 obtain⟨zv,hrun,hpw,hl,_⟩:=tF (P:=P) (w:=w) (c:=c) hz
 obtain⟨c',h1,h2,h3⟩:=r.box hpw hl t
 refine⟨_,_,_,c',_,?_,h2,h3,hk⟩
 simp[Instr.alloc,hrun,newVar,newRow]
def lM(t:Tmp):List (Tmp×Nat)→Option Nat
 |[]=>none
 |p::l=>if t=p.1 then some p.2 else lM t l
def qN:Option Tmp→List (Tmp×Nat)→Option Nat
 |none,_=>none
 |some t,l=>lM t l
def dI(i:Nat):List (Tmp×Nat)→List (Tmp×Nat)
 |[]=>[]
 |p::l=>if p.2=i then dI i l else p::dI i l
theorem vq{t:Tmp}{i:Nat}:∀{l:List (Tmp×Nat)},lM t l=some i→(t,i)∈l
 |[],h=>by simp[lM] at h
 |p::l,h=>by
  unfold lM at h
  split at h
  ·rename_i hd
   simp only[Option.some.injEq] at h;subst h;subst hd
   exact List.mem_cons_self ..
  ·exact List.mem_cons_of_mem _ (vq h)
theorem zY{d:Option Tmp}{i:Nat}{l:List (Tmp×Nat)}(h:qN d l=some i):∃t,d=some t∧(t,i)∈l:=by
 cases d with
 |none=>simp[qN] at h
 |some t=>exact⟨t,rfl,vq h⟩
theorem lO{i:Nat}{p:Tmp×Nat}:∀{l:List (Tmp×Nat)},p∈dI i l↔p∈l∧p.2≠i
 |[]=>by simp[dI]
 |q::l=>by
  unfold dI
  split
  ·rename_i hq
   rw[lO (l:=l)]
   constructor
   ·rintro⟨h1,h2⟩;exact⟨List.mem_cons_of_mem _ h1,h2⟩
   ·rintro⟨h1,h2⟩
    rcases List.mem_cons.1 h1 with rfl|h1
    ·exact absurd hq h2
    ·exact⟨h1,h2⟩
  ·rename_i hq
   rw[List.mem_cons,lO (l:=l),List.mem_cons]
   constructor
   ·rintro(rfl|⟨h1,h2⟩)
    ·exact⟨.inl rfl,hq⟩
    ·exact⟨.inr h1,h2⟩
   ·rintro⟨rfl|h1,h2⟩
    ·exact .inl rfl
    ·exact .inr ⟨h1,h2⟩
theorem Rel.E1(r:Rel w0 im0 c st a w){xs:List AV}{us:List Value}(h:Pw c xs us)(hl:xs.all AV.eo=true)(ty:TypeId){i:Nat}(hi:c.β[i]?=some none):
 ∃c',c.le c'∧Rel w0 im0 c' { st with own:=st.own.set i (some [.agg xs]),bR:=st.bR.map (dI i) } a (w.alloc (.cells us.toArray ty))∧VR c' (.ptr i 0 0) (.pointer (some ⟨w.heap.size,0,none⟩)):=by
 obtain⟨h1,h2⟩:=r.fill (dI i) (fun l d j hm=>(lO.1 hm).imp id id) (ns w (.cells us.toArray ty)) (g:=w.heap.size) (k:=xs.length) (es:=[.agg xs]) (Nat.le_refl _) hi (h.box hl (js w _))
 refine⟨_,h1,h2,?_⟩
 have hlt:i<c.β.length:=(List.getElem?_eq_some_iff.1 hi).1
 have:VR { c with β:=c.β.set i (some (w.heap.size,xs.length)) } (.ptr i 0 0) (.pointer (some ⟨w.heap.size,0*xs.length+0,none⟩)):= .ptr (by simp[hlt])
 simpa using this
def iE(P:Program)(t:TypeId)(d:Option Tmp)(st:St)(K:St→AV→Prop):Prop:=
 match st.bR with
 |none=>tK P t st K
 |some l=>∃z,cZ P t=some z∧∃i,qN d l=some i∧st.own[i]?=some none∧K { st with own:=st.own.set i (some [.agg z]),bR:=some (dI i l) } (.ptr i 0 0)
theorem Db(r:Rel w0 im0 c st a w){t:TypeId}{d:Option Tmp}{K:St→AV→Prop}(hk:iE P t d st K):
 ∃v x w' c' st',(Instr.alloc t true (.tuple #[])).run P w= .ok v w'∧Rel w0 im0 c' st' a w'∧VR c' x v∧K st' x:=by
 unfold iE at hk
 split at hk
 ·exact Dc r hk
 ·rename_i l hl
  obtain⟨z,hz,i,hi,_,hk⟩:=hk
  obtain⟨d',_,hmem⟩:=zY hi
  obtain⟨zv,hrun,hpw,hlf,_⟩:=tF (P:=P) (w:=w) (c:=c) hz
  obtain⟨c',h1,h2,h3⟩:=r.E1 hpw hlf t (r.hole l d' i hl hmem)
  rw[hl] at h2
  refine⟨_,_,_,c',_,?_,h2,h3,hk⟩
  simp[Instr.alloc,hrun,newVar,newRow]
theorem E2(r:Rel w0 im0 c st a w){t:TypeId}{x:AV}{v:Value}(h:VR c x v){K:St→AV→Prop}(hk:rE x st K):
 ∃v' y w' c' st',(Instr.box t v).run P w= .ok v' w'∧Rel w0 im0 c' st' a w'∧VR c' y v'∧K st' y:=by
 obtain⟨hp,hl,hk⟩:=hk
 obtain⟨c',h1,h2,h3⟩:=r.box (h.leaves hp) hl t
 refine⟨_,_,_,c',_,?_,h2,h3,hk⟩
 simp[Instr.box,newVar,newRow]
theorem gz(us:List Value):∀(vs:List Value) (o:Nat),(ch vs o us).length=vs.length:=by
 induction us with
 |nil=>intro vs o;rfl
 |cons u us ih=>intro vs o;simp[ch,ih]
theorem VA(us:List AV):∀(vs:List AV) (o:Nat),(jz vs o us).length=vs.length:=by
 induction us with
 |nil=>intro vs o;rfl
 |cons u us ih=>intro vs o;simp[jz,ih]
theorem jX(us:List Value):∀(vs:List Value) (o j:Nat),o+us.length≤vs.length→(ch vs o us)[j]?=if o≤j∧j<o+us.length then us[j-o]? else vs[j]?:=by
 induction us with
 |nil=>intro vs o j h;simp[ch];omega
 |cons u us ih=>
  intro vs o j h
  simp only[List.length_cons] at h ⊢
  rw[ch,ih _ _ _ (by simp;omega)]
  by_cases h1:o+1≤j∧j<o+1+us.length
  ·rw[if_pos h1,if_pos ab]
   rw[show j-o=(j-(o+1))+1 by omega];simp
  ·rw[if_neg h1,List.getElem?_set]
   by_cases h2:o=j
   ·subst h2
    rw[if_pos rfl,if_pos ab,if_pos ab];simp
   ·rw[if_neg h2,if_neg ab]
theorem Vz(us:List AV):∀(vs:List AV) (o j:Nat),o+us.length≤vs.length→(jz vs o us)[j]?=if o≤j∧j<o+us.length then us[j-o]? else vs[j]?:=by
 induction us with
 |nil=>intro vs o j h;simp[jz];omega
 |cons u us ih=>
  intro vs o j h
  simp only[List.length_cons] at h ⊢
  rw[jz,ih _ _ _ (by simp;omega)]
  by_cases h1:o+1≤j∧j<o+1+us.length
  ·rw[if_pos h1,if_pos ab]
   rw[show j-o=(j-(o+1))+1 by omega];simp
  ·rw[if_neg h1,List.getElem?_set]
   by_cases h2:o=j
   ·subst h2
    rw[if_pos rfl,if_pos ab,if_pos ab];simp
   ·rw[if_neg h2,if_neg ab]
theorem lW(g o:Nat)(t:TypeId)(lo hi:Nat):∀(vs:List Value) (i:Nat) (cur:List Value) (w:World),w.heap[g]?=some (.cells cur.toArray t (lo,hi))→(∀o,o<cur.length→¬(lo≤o∧o<hi))→
 o+i+vs.length≤cur.length→(∀v∈vs,v.oneCell'=true)→(storeCells ⟨g,o,none⟩ vs i).run P w= .ok () (w.setRow g (ch cur (o+i) vs).toArray)
 |[],i,cur,w,hg,_,_,_=>by
  simp only[storeCells,ch]
  rw[setRow_self w g cur.toArray t (lo,hi) hg]
  rfl
 |v::rest,i,cur,w,hg,hf,hl,h1=>by
  have hi':o+i<cur.length:=by simp at hl;omega
  have hcell:w.cell? ⟨g,o+i,none⟩=some cur[o+i]:=by simp[World.cell?,hg,hi']
  have hfro:w.frozen? ⟨g,o+i,none⟩=false:=by
   have:=hf (o+i) hi'
   simp only[World.frozen?,hg,Bool.and_eq_false_iff,decide_eq_false_iff_not]
   omega
  have hset:cur.toArray.setIfInBounds (o+i) v=(cur.set (o+i) v).toArray:=by simp
  have hst:(store ((⟨g,o,none⟩:Addr).add i) v).run P w= .ok () (w.setRow g (cur.set (o+i) v).toArray):=by
   rw[fC,run_store P w _ v _ (h1 v aB),hcell]
   simp only[hfro,Bool.false_eq_true,if_false]
   rw[setCell_eq_setRow w g (o+i) cur.toArray t (lo,hi) v hg,hset]
  have ih:=lW g o t lo hi rest (i+1) (cur.set (o+i) v) (w.setRow g (cur.set (o+i) v).toArray) (setRow_heap w g cur.toArray _ t _ hg) (by simpa using hf) (by simp at hl ⊢;omega) (fun x hx=>h1 x (by simp[hx]))
  simp only[storeCells,Sem.run_bind,hst,Result.andThen_ok,ih,setRow_setRow,ch]
  rw[show o+(i+1)=o+i+1 by omega]
def eZ(e:AV)(off:Nat)(x:AV):AV:=if off=0∧x.leaves.length=e.leaves.length then x else .agg (jz e.leaves off x.leaves)
def oK(P:Program)(t:TypeId)(addr x:AV)(st:St)(K:St→Prop):Prop:=
 match addr with
 |.ptr id idx off=>∃n es e,bf P t=some n∧st.own[id]?=some (some es)∧es[idx]?=some e∧x.plain=true∧x.leaves.all AV.eo=true∧x.leaves.length=n∧off+n≤e.leaves.length∧
   K { st with own:=st.own.set id (some (es.set idx (eZ e off x))) }
 |_=>False
theorem wF{e x:AV}{off:Nat}(h:off+x.leaves.length≤e.leaves.length)(j:Nat):(eZ e off x).leaves.length=e.leaves.length∧(eZ e off x).leaves[j]?=if off≤j∧j<off+x.leaves.length then x.leaves[j-off]? else e.leaves[j]?:=by
 unfold eZ
 split
 ·rename_i hh
  obtain⟨rfl,hl⟩:=hh
  refine⟨hl,?_⟩
  by_cases hj:j<x.leaves.length
  ·rw[if_pos ab];simp
  ·rw[if_neg ab,List.getElem?_eq_none ab,List.getElem?_eq_none ab]
 ·exact⟨VA _ _ _,Vz _ _ _ _ h⟩
theorem Ca(r:Rel w0 im0 c st a w){t:TypeId}{addr x:AV}{va v:Value}(ha:VR c addr va)(hx:VR c x v){K:St→Prop}(hk:oK P t addr x st K):
 ∃w' st',(Instr.storeAt t va v).run P w= .ok () w'∧Rel w0 im0 c st' a w'∧K st':=by
 unfold oK at hk
 split at hk
 case h_2=>exact hk.elim
 rename_i id idx off
 obtain⟨n,es,e,hs,hes,he,hp,hl,hn,hle,hk⟩:=hk
 obtain⟨g,q,hb,rfl⟩:=ha.gR
 have ho:=r.own id g q es hb hes
 obtain⟨cs,ty,lo,hi,hblk,hfro,hsz,hkk,hcell⟩:=ho.aZ
 have hq:=hkk idx e he
 have hidx:idx<es.length:=by
  rcases Nat.lt_or_ge idx es.length with h'|h'
  ·exact h'
  ·rw[List.getElem?_eq_none h'] at he;simp at he
 have hpw:=hx.leaves hp
 have hvl:v.cells.toList.length=n:=by rw[hpw.1,hn]
 have hone:∀u∈v.cells.toList,u.oneCell'=true:=by
  intro u hu
  obtain⟨j,hj⟩:=List.getElem?_of_mem hu
  have hjl:j<x.leaves.length:=by
   rw[←hpw.1]
   rcases Nat.lt_or_ge j v.cells.toList.length with h'|h'
   ·exact h'
   ·rw[List.getElem?_eq_none h'] at hj;simp at hj
  have hxj:x.leaves[j]?=some x.leaves[j]:=by simp[hjl]
  exact(hpw.2 j _ u hxj hj).eo (List.all_eq_true.1 hl _ (List.mem_of_getElem? hxj))
 have hmul:idx*q+q≤es.length*q:=by rw[←Nat.succ_mul];exact Nat.mul_le_mul_right q hidx
 have hcs:cs=cs.toList.toArray:=by simp
 have hsz':es.length*q≤cs.toList.length:=by simpa using hsz
 have hfit:idx*q+off+0+v.cells.toList.length≤cs.toList.length:=by omega
 have hfro':∀o,o<cs.toList.length→¬(lo≤o∧o<hi):=fun o h1 h2=>by
  have h1:o<cs.size:=by simpa using h1
  rcases hfro with h|h<;>omega
 have hrun:=lW (P:=P) g (idx*q+off) ty lo hi v.cells.toList 0 cs.toList w (by rw[←hcs];exact hblk) hfro' hfit hone
 rw[Nat.add_zero] at hrun
 refine⟨w.setRow g (ch cs.toList (idx*q+off) v.cells.toList).toArray,_,?_,?_,hk⟩
 ·simp only[Instr.storeAt,Instr.sureAddr,storeVar,Sem.run_bind,Sem.run_pure,Result.andThen_ok,dq hs]
  have hvs:v.cells.size=n:=by simpa using hvl
  simp[hvs,hrun]
 ·refine r.oB hb hes (fun b hne=>setRow_other w g b _ hne) (below_setRow r.below ho.new _) ⟨_,ty,lo,hi,setRow_heap w g cs _ ty (lo,hi) hblk,?_,?_,?_,?_⟩
  ·rcases hfro with h|h
   ·exact .inl h
   ·exact .inr (by simpa[gz] using h)
  ·simp only[List.length_set,List.size_toArray,gz];simpa using hsz
  ·intro i y hy
   rw[List.getElem?_set] at hy
   by_cases hi':idx=i
   ·subst hi'
    rw[if_pos rfl,if_pos hidx] at hy
    simp only[Option.some.injEq] at hy;subst hy
    rw[(wF ab 0).1];exact hq
   ·rw[if_neg hi'] at hy;exact hkk i y hy
  ·intro i y j z hy hz
   simp only[List.getElem?_toArray]
   rw[jX _ _ _ _ ab]
   have hyl:y.leaves.length=q:=by
    rw[List.getElem?_set] at hy
    by_cases hi':idx=i
    ·subst hi'
     rw[if_pos rfl,if_pos hidx] at hy
     simp only[Option.some.injEq] at hy;subst hy
     rw[(wF ab 0).1];exact hq
    ·rw[if_neg hi'] at hy;exact hkk i y hy
   have hjq:j<q:=by
    rw[←hyl]
    rcases Nat.lt_or_ge j y.leaves.length with h'|h'
    ·exact h'
    ·rw[List.getElem?_eq_none h'] at hz;simp at hz
   rw[List.getElem?_set] at hy
   by_cases hi':idx=i
   ·subst hi'
    rw[if_pos rfl,if_pos hidx] at hy
    simp only[Option.some.injEq] at hy;subst hy
    rw[(wF ab j).2] at hz
    by_cases hin:off≤j∧j<off+x.leaves.length
    ·rw[if_pos hin] at hz
     rw[if_pos ab,show idx*q+j-(idx*q+off)=j-off by omega]
     have hlt:j-off<v.cells.toList.length:=by omega
     have hu:v.cells.toList[j-off]?=some v.cells.toList[j-off]:=by simp only[List.getElem?_eq_getElem hlt]
     refine⟨_,hu,hpw.2 _ z _ hz hu,.inr (hone _ (List.mem_of_getElem? hu))⟩
    ·rw[if_neg hin] at hz
     rw[if_neg ab]
     obtain⟨u,h1,h2,h3⟩:=hcell idx e j z he hz
     exact⟨u,by simpa using h1,h2,h3⟩
   ·rw[if_neg hi'] at hy
    have hne:¬(idx*q+off≤i*q+j∧i*q+j<idx*q+off+v.cells.toList.length):=by
     intro ⟨h1,h2⟩
     rcases Nat.lt_or_ge i idx with h|h
     ·have:i*q+q≤idx*q:=by rw[←Nat.succ_mul];exact Nat.mul_le_mul_right q h
      omega
     ·have h:idx+1≤i:=by omega
      have:idx*q+q≤i*q:=by rw[←Nat.succ_mul];exact Nat.mul_le_mul_right q h
      omega
    rw[if_neg hne]
    obtain⟨u,h1,h2,h3⟩:=hcell i y j z hy hz
    exact⟨u,by simpa using h1,h2,h3⟩
end
end Go.az
namespace Go.az
open Go Go.RowKit
section
variable{P:Program}{w0:World}{im0:cU}{c:Ctx}{st:St}{a:Act}{w:World}
def Cells(im:Im)(k:Nat)(es:List AV)(cs:List Value):Prop:=
 (∀(i:Nat) (e:AV),es[i]?=some e→e.leaves.length=k)∧
 ∀(i:Nat) (e:AV) (j:Nat) (y:AV),es[i]?=some e→e.leaves[j]?=some y→∃u,cs[i*k+j]?=some u∧aT im y u∧u.oneCell'=true
theorem lK{i j k n:Nat}(hi:i<n)(hj:j<k):i*k+j<n*k:=by
 have:i*k+k≤n*k:=by rw[←Nat.succ_mul];exact Nat.mul_le_mul_right k hi
 omega
theorem bO{α:Type}{l:List α}{i:Nat}{x:α}(h:l[i]?=some x):i<l.length:=by
 rcases Nat.lt_or_ge i l.length with h'|h'
 ·exact h'
 ·rw[List.getElem?_eq_none h'] at h;simp at h
theorem Cells.mono{im im':Im}(h:im.le im'){k:Nat}{es:List AV}{cs:List Value}(hc:Cells im k es cs):Cells im' k es cs:=
 ⟨hc.1,fun i e j y h1 h2=>let⟨u,a,b,d⟩:=hc.2 i e j y h1 h2;⟨u,a,b.mono h,d⟩⟩
theorem Cells.append{im:Im}{k:Nat}{es xs:List AV}{cs ds:List Value}(h1:Cells im k es cs)(hl:cs.length=es.length*k)(h2:Cells im k xs ds):Cells im k (es++xs) (cs++ds):=by
 refine⟨fun i e he=>?_,fun i e j y he hy=>?_⟩
 ·rcases fT _ _ _ _ he with⟨_,he⟩|⟨_,he⟩
  ·exact h1.1 i e he
  ·exact h2.1 _ e he
 ·rcases fT _ _ _ _ he with⟨hlt,he⟩|⟨hge,he⟩
  ·obtain⟨u,a,b⟩:=h1.2 i e j y he hy
   exact⟨u,by rw[List.getElem?_append_left (bO a)];exact a,b⟩
  ·obtain⟨u,a,b⟩:=h2.2 _ e j y he hy
   have hik:es.length*k≤i*k:=Nat.mul_le_mul_right k hge
   refine⟨u,?_,b⟩
   rw[List.getElem?_append_right ab,hl,show i*k+j-es.length*k=(i-es.length)*k+j by rw[Nat.sub_mul];omega]
   exact a
theorem aT.vC{im:Im}{k:Nat}{es:List AV}{cs:List Value}(h:Cells im k es cs){b o cap:Nat}(hc:es.length≤cap)(hm:∀p u,p<es.length*k→cs[p]?=some u→im b (o+p)=some u):
 aT im (.sl none k es) (.slice (some ⟨b,o,none⟩) es.length cap):=by
 have get:∀(i:Nat) (e:AV) (j:Nat) (y:AV),es[i]?=some e→e.leaves[j]?=some y→∃u,cs[i*k+j]?=some u∧cs.getD (i*k+j) undef=u∧aT im y u∧u.oneCell'=true:=by
  intro i e j y h1 h2
  obtain⟨u,a,b⟩:=h.2 i e j y h1 h2
  exact⟨u,a,by simp[List.getD_eq_getElem?_getD,a],b⟩
 refine .sl k es b o cap (fun i j=>cs.getD (i*k+j) undef) hc h.1 ?_ ?_ ?_
 ·intro i e j y h1 h2
  obtain⟨u,a,d,_⟩:=get i e j y h1 h2
  rw[d,Nat.add_assoc]
  exact hm _ u (lK (bO h1) (by have:=h.1 i e h1;rw[←this];exact bO h2)) a
 ·intro i e j y h1 h2
  obtain⟨u,a,d,_,h3⟩:=get i e j y h1 h2
  rw[d];exact h3
 ·intro i e j y h1 h2
  obtain⟨u,a,d,h3,_⟩:=get i e j y h1 h2
  rw[d];exact h3
theorem Rel.qQ{w':World}(r:Rel w0 im0 c st a w)(hb:Below im0.dr w.heap.size w w'){g k cap:Nat}{es:List AV}{cs:Array Value}{ty:TypeId}{lo hi:Nat}(hg:w.heap.size≤g)
 (hblk:w'.heap[g]?=some (.cells cs ty (lo,hi))) (hf:lo=hi∨k=1∧cs.size≤lo) (hcap:cap*k≤cs.size) (hle:es.length≤cap) (hc:Cells c.im k es cs.toList):
 ∃c',c.le c'∧Rel w0 im0 c' { st with tk:=st.tk++[es.length] } a w'∧VR c' (.sl (some st.tk.length) k es) (.slice (some ⟨g,0,none⟩) es.length cap):=by
 let im':Im:=fun b o=>if b=g then(if o<es.length*k then cs.toList[o]? else none) else c.im b o
 have him:c.im.le im':=fun b o x h=>by
  have:=r.mD h
  show(if b=g then _ else c.im b o)=some x
  rw[if_neg ab];exact h
 have hcs:es.length*k≤cs.size:=Nat.le_trans (Nat.mul_le_mul_right k hle) hcap
 obtain⟨h1,h2⟩:=r.rT hb (im':=im') (tks:=[⟨some g,es.length,cap,k⟩]) him
  (fun b o x h=>by
    by_cases hbg:b=g
    ·subst hbg
     simp only[im',if_true] at h
     split at h
     ·simp only[World.cell?,hblk,Option.isSome_none,Bool.false_eq_true,if_false]
      simpa using h
     ·simp at h
    ·simp only[im',if_neg hbg] at h
     rw[cell_of_block (hb.block b (r.mD h))]
     exact r.ck b o x h)
  (fun b o hlt=>by show(if b=g then _ else c.im b o)=_;rw[if_neg ab])
  ⟨fun i T b hT hTb=>by
    cases i with
    |succ i=>simp at hT
    |zero=>
     simp only[List.getElem?_cons_zero,Option.some.injEq] at hT;subst hT
     simp only[Option.some.injEq] at hTb;subst hTb
     exact⟨hg,hle,fun o ho=>by show(if g=g then _ else _)=none;rw[if_pos rfl,if_neg (Nat.not_lt.2 ho)],cs,ty,lo,hi,hblk,hf,hcap⟩,
   fun i j T U b d hT hU _ _ hij=>by
    cases i with
    |succ i=>simp at hT
    |zero=>cases j with
     |zero=>exact absurd rfl hij
     |succ j=>simp at hU⟩
 refine⟨_,h1,h2,?_⟩
 refine .tok (T:=⟨some g,es.length,cap,k⟩) (by simp[←r.cH]) ?_ rfl (Nat.le_refl _) (fun _=> .inr ⟨g,rfl,rfl⟩)
 exact aT.vC (hc.mono him) hle (fun p u hp hu=>by show(if g=g then _ else _)=_;rw[if_pos rfl,Nat.zero_add,if_pos hp];exact hu)
def idxFrom:Nat→List (Nat×AV)→Bool
 |_,[]=>true
 |i,p::ps=>decide (p.1=i)&&idxFrom (i+1) ps
def nx(n:Nat):List (Nat×AV)→Option (List AV)
 |[]=>some []
 |p::ps=>match p.2.clean,nx n ps with
  |some y,some ys=>if y.leaves.length=n then some (y::ys) else none
  |_,_=>none
def cL(P:Program)(t:TypeId):Option (TypeId×Nat×Nat):=
 match P.underlying t with
 |some (.slice e)=>
  match P.info? e,cZ P e with
  |some i,some z=>if 0<i.size∧z.length=i.size then some (e,i.size,i.bytes) else none
  |_,_=>none
 |_=>none
theorem gj{t e:TypeId}{k n:Nat}(h:cL P t=some (e,k,n)):P.underlying t=some (.slice e)∧bf P e=some k∧0<k∧
 ∃i zv,P.info? e=some i∧i.zero=some zv∧i.size=k∧i.bytes=n∧zv.cells.size=k:=by
 unfold cL at h
 split at h
 ·rename_i e' hu
  split at h
  ·rename_i i z hi hz
   split at h
   ·rename_i hc
    simp only[Option.some.injEq,Prod.mk.injEq] at h
    obtain⟨rfl,rfl,rfl⟩:=h
    obtain⟨zv,_,hpw,_,i',hi',hzv⟩:=tF (P:=P) (w:=default) (c:=⟨[],[],fun _ _=>none⟩) hz
    rw[hi] at hi'
    simp only[Option.some.injEq] at hi';subst hi'
    refine⟨hu,by simp[bf,hi],hc.1,i,zv,hi,hzv,rfl,rfl,?_⟩
    have:=hpw.1
    simp at this;omega
   ·simp at h
  ·simp at h
 ·simp at h
theorem yT(n:Nat):∀(qs:List (Nat×Value)) (s:Nat) (vs:List Value),(∀(i:Nat) (q:Nat×Value),qs[i]?=some q→q.1=s+i∧q.2.cells.size=n)→(s+qs.length)*n≤vs.length→
 ∃us:List Value,Instr.fill (fun i=>some (i*n,n)) vs.toArray qs=some us.toArray∧us.length=vs.length∧(∀p,p<s*n→us[p]?=vs[p]?)∧
  ∀(i:Nat) (q:Nat×Value) (j:Nat),qs[i]?=some q→j<n→us[(s+i)*n+j]?=q.2.cells.toList[j]?
 |[],s,vs,_,_=>⟨vs,rfl,rfl,fun _ _=>rfl,fun i q j h=>by simp at h⟩
 |q::qs,s,vs,hq,hl=>by
  obtain⟨hq1,hq2⟩:=hq 0 q rfl
  rw[Nat.add_zero] at hq1
  simp only[List.length_cons] at hl
  have hfit:s*n+n≤vs.length:=by
   have:(s+1)*n≤(s+(qs.length+1))*n:=Nat.mul_le_mul_right n ab
   rw[Nat.succ_mul] at this;omega
  have hpl:(ch vs (s*n) q.2.cells.toList).length=vs.length:=gz _ _ _
  obtain⟨us,h1,h2,h3,h4⟩:=yT n qs (s+1) (ch vs (s*n) q.2.cells.toList)
   (fun i p hp=>by obtain⟨a,b⟩:=hq (i+1) p hp;exact⟨by omega,b⟩) (by rw[hpl,show s+1+qs.length=s+(qs.length+1) by omega];exact hl)
  have hput:q.2.cells.toList.length=n:=by simpa using hq2
  refine⟨us,?_,by rw[h2,hpl],?_,?_⟩
  ·simp only[Instr.fill,hq1]
   rw[if_neg (by simp[hq2];omega),←h1]
   congr 1
   have:=A8 q.2.cells.toList vs (s*n) 0
   rw[Nat.add_zero] at this
   rw[←this,←Array.foldl_toList]
   simp
  ·intro p hp
   rw[h3 p (by rw[Nat.succ_mul];omega),jX _ _ _ _ ab,if_neg ab]
  ·intro i p j hp hj
   cases i with
   |succ i=>
    have:=h4 i p j (by simpa using hp) hj
    rw[←this];congr 2;rw[show s+1+i=s+(i+1) by omega]
   |zero=>
    simp only[List.getElem?_cons_zero,Option.some.injEq] at hp;subst hp
    rw[Nat.add_zero,h3 _ (by rw[Nat.succ_mul];omega),jX _ _ _ _ ab,if_pos ab]
    congr 1;omega
def qg(P:Program)(t:TypeId)(len:Nat)(ps:List (Nat×AV))(st:St)(K:St→AV→Prop):Prop:=
 ∃e k n ys,cL P t=some (e,k,n)∧ps.length=len∧idxFrom 0 ps=true∧len*k≤16777216∧nx k ps=some ys∧
  K { st with tk:=st.tk++[ys.length] } (.sl (some st.tk.length) k ys)
theorem zr:∀{ps:List (Nat×AV)} {s:Nat},idxFrom s ps=true→∀(i:Nat) (p:Nat×AV),ps[i]?=some p→p.1=s+i
 |[],_,_,i,p,h=>by simp at h
 |q::ps,s,h,i,p,hp=>by
  simp only[idxFrom,Bool.and_eq_true,decide_eq_true_eq] at h
  cases i with
  |zero=>simp only[List.getElem?_cons_zero,Option.some.injEq] at hp;subst hp;exact h.1
  |succ i=>have:=zr h.2 i p (by simpa using hp);omega
theorem xP{n:Nat}:∀{ps:List (Nat×AV)} {ys:List AV},nx n ps=some ys→ys.length=ps.length∧∀(i:Nat) (y:AV),ys[i]?=some y→∃p,ps[i]?=some p∧p.2.clean=some y∧y.leaves.length=n
 |[],ys,h=>by simp only[nx,Option.some.injEq] at h;subst h;simp
 |p::ps,ys,h=>by
  simp only[nx] at h
  split at h
  ·rename_i y ys' h1 h2
   split at h
   ·rename_i hn
    simp only[Option.some.injEq] at h;subst h
    obtain⟨hl,ih⟩:=xP h2
    refine⟨by simp[hl],fun i z hz=>?_⟩
    cases i with
    |zero=>simp only[List.getElem?_cons_zero,Option.some.injEq] at hz;subst hz;exact⟨p,rfl,h1,hn⟩
    |succ i=>obtain⟨q,e1,e2⟩:=ih i z (by simpa using hz);exact⟨q,by simpa using e1,e2⟩
   ·simp at h
  ·simp at h
theorem Tp(r:Rel w0 im0 c st a w){t:TypeId}{len:Nat}{ps:Array (Nat×Operand)}{K:St→AV→Prop}(hk:qg P t len (fS st ps) st K):
 ∃v x w' c' st',(Instr.buildSlice t len (ps.map fun(i,x)=>(i,a.eval x))).run P w= .ok v w'∧Rel w0 im0 c' st' a w'∧VR c' x v∧K st' x:=by
 obtain⟨e,k,n,ys,hai,hlen,hidx,hsmall,hclean,hk⟩:=hk
 obtain⟨hu,hs,hk0,i,zv,hi,hz,hsize,hbytes,hzs⟩:=gj hai
 obtain⟨hyl,hys⟩:=xP hclean
 have hqs:∀(j:Nat) (q:Nat×Value),(ps.map fun(i,x)=>(i,a.eval x)).toList[j]?=some q→∃o:Nat×Operand,ps.toList[j]?=some o∧q=(o.1,a.eval o.2):=by
  intro j q hq
  simp only[Array.toList_map,List.getElem?_map] at hq
  cases hp:ps.toList[j]? with
  |none=>simp[hp] at hq
  |some o=>simp only[hp,Option.map_some,Option.some.injEq] at hq;exact⟨o,rfl,hq.symm⟩
 have hpl:ps.size=len:=by simpa[fS] using hlen
 have clean_at:∀(j:Nat) (o:Nat×Operand),ps.toList[j]?=some o→∃y,ys[j]?=some y∧(st.ev o.2).clean=some y∧y.leaves.length=k∧o.1=j:=by
  intro j o ho
  have hj:j<ys.length:=by rw[hyl];simp[fS];exact(by simpa using bO ho)
  have hy:ys[j]?=some ys[j]:=by simp[hj]
  obtain⟨p,h1,h2,h3⟩:=hys j _ hy
  have hp:(fS st ps)[j]?=some (o.1,st.ev o.2):=by simp only[fS,List.getElem?_map,ho,Option.map_some]
  rw[hp] at h1
  simp only[Option.some.injEq] at h1
  refine⟨_,hy,by rw[←h1] at h2;exact h2,h3,?_⟩
  have:=zr hidx j _ hp
  simpa using this
 have hq:∀(j:Nat) (q:Nat×Value),(ps.map fun(i,x)=>(i,a.eval x)).toList[j]?=some q→q.1=0+j∧q.2.cells.size=k:=by
  intro j q h
  obtain⟨o,ho,rfl⟩:=hqs j q h
  obtain⟨y,h1,h2,h3,h4⟩:=clean_at j o ho
  refine⟨by simpa using h4,?_⟩
  have:=(sg (r.ev o.2) h2).2.1
  simp at this;simp[this,h3]
 let zs:Array Value:=(Array.range (len*k)).map (fun p=>(if len*k=0 then(#[]:Array Value) else zv.cells)[p%(if len*k=0 then(#[]:Array Value) else zv.cells).size]!)
 have hzl:zs.toList.length=len*k:=by simp[zs]
 obtain⟨us,hf,hul,_,hus⟩:=yT k (ps.map fun(i,x)=>(i,a.eval x)).toList 0 zs.toList hq (by rw[hzl];simp[hpl])
 have hrun:(Instr.buildSlice t len (ps.map fun(i,x)=>(i,a.eval x))).run P w= .ok (.slice (some ⟨w.heap.size,0,none⟩) len len) (w.alloc (.cells us.toArray e)):=by
  have hno:¬(len*k>2^24):=by omega
  have hzz:zs.toList.toArray=zs:=by simp
  rw[hzz] at hf
  unfold Instr.buildSlice
  by_cases h0:len*k=0
  ·have hf':Instr.fill (fun i=>some (i*k,k)) ((Array.range (len*k)).map (fun p=>(#[]:Array Value)[p%(#[]:Array Value).size]!)) (ps.map fun(i,x)=>(i,a.eval x)).toList=some us.toArray:=by
    rw[←hf];simp only[zs,if_pos h0]
   simp only[Sem.run_bind,bV hu,Result.andThen_ok,dq hs,Sem.run_ite,if_neg hno,if_pos h0,Sem.run_pure,hf']
   simp[newRow]
  ·have hf':Instr.fill (fun i=>some (i*k,k)) ((Array.range (len*k)).map (fun p=>zv.cells[p%zv.cells.size]!)) (ps.map fun(i,x)=>(i,a.eval x)).toList=some us.toArray:=by
    rw[←hf];simp only[zs,if_neg h0]
   have hzr:(zeroValue e).run P w= .ok zv w:=by simp[zeroValue,typeInfo,hi,hz]
   simp only[Sem.run_bind,bV hu,Result.andThen_ok,dq hs,Sem.run_ite,if_neg hno,if_neg h0,Sem.run_pure,hzr,hf']
   simp[newRow]
 have hyl':ys.length=len:=by rw[hyl];exact hlen
 obtain⟨c',h1,h2,h3⟩:=r.qQ (ns w (.cells us.toArray e)) (g:=w.heap.size) (k:=k) (cap:=len) (es:=ys) (Nat.le_refl _) (js w _) (.inl rfl)
  (by simp[hul,hzl]) ab ⟨fun j y hy=>by obtain⟨p,_,_,h⟩:=hys j y hy;exact h,fun j y q z hy hz'=>by
    have hj:j<ps.toList.length:=by have:=bO hy;simp[hpl];omega
    obtain⟨y',e1,e2,e3,e4⟩:=clean_at j ps.toList[j] aB
    rw[hy] at e1
    simp only[Option.some.injEq] at e1;subst e1
    have hco:=sg (r.ev ps.toList[j].2) e2
    have hq':q<k:=by rw[←e3];exact bO hz'
    have hlt:q<(a.eval ps.toList[j].2).cells.toList.length:=by rw[hco.2.1,e3];exact hq'
    have hu':=hus j (ps.toList[j].1,a.eval ps.toList[j].2) q (by simp only[Array.toList_map,List.getElem?_map,List.getElem?_eq_getElem hj,Option.map_some]) hq'
    rw[Nat.zero_add] at hu'
    refine⟨(a.eval ps.toList[j].2).cells.toList[q],by rw[hu'];simp only[List.getElem?_eq_getElem hlt],?_⟩
    exact hco.2.2 q z _ hz' (by simp only[List.getElem?_eq_getElem hlt])⟩
 rw[hyl'] at h3 h2
 rw[hyl'] at hk
 exact⟨_,_,_,c',_,hrun,h2,h3,hk⟩
end
end Go.az
end
