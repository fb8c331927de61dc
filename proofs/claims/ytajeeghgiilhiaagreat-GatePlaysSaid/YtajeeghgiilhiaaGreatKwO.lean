/- Texts of one chain, put together (MrD, MrE, MrF, MrG, MrH, MrI, MrJ, K3, MrK, T1). -/
import Derived.Test.YtajeeghgiilhiaaGreatKwN
import Derived.Test.YtajeeghgiilhiaaGreatKwI
import Derived.Test.YtajeeghgiilhiaaGreatKwG
import Derived.Test.YtajeeghgiilhiaaGreatKwJ
import Derived.Test.YtajeeghgiilhiaaGreatKwM
import Derived.Test.YtajeeghgiilhiaaGreatKwL
import Derived.Test.YtajeeghgiilhiaaGreatKwK
set_option linter.unusedVariables false
set_option linter.unusedSimpArgs false
set_option maxHeartbeats 16000000
set_option maxRecDepth 8000
section
namespace Go.Bk
open Go Go.Abs
def fG(l:List Nm):List Nm:=l.mergeSort fun x y=>!cR y x
theorem rG(l:List Nm):(fG l).length=l.length:=List.length_mergeSort l
def cG(l:List Nm):Nat→List Nm
 |0=>[]
 |i+1=>if 0<i∧l[i]?=l[i-1]? then cG l i else cG l i++(l[i]?).toList
def ea(l:List Nm):List Nm:=cG l l.length
theorem AW(l:List Nm):cG l 1=l.take 1:=by
 rw[cG,if_neg (by omega)]
 cases l<;>rfl
theorem x7{l:List Nm}{i:Nat}{x y:Nm}(hi:0<i)(hx:l[i]?=some x)(hy:l[i-1]?=some y)(h:¬x=y):cG l (i+1)=cG l i++[x]:=by
 rw[cG,if_neg (by rw[hx,hy];simpa using fun _=>h),hx];rfl
theorem vE{l:List Nm}{i:Nat}{x y:Nm}(hi:0<i)(hx:l[i]?=some x)(hy:l[i-1]?=some y)(h:x=y):cG l (i+1)=cG l i:=by
 rw[cG,if_pos ⟨hi,by rw[hx,hy,h]⟩]
theorem NW{l:List Nm}(h:l.length<2):ea l=l:=by
 match l,h with
 |[],_=>rfl
 |[x],_=>exact AW [x]
theorem rT{l:List Nm}:∀(i:Nat) (x:Nm),x∈cG l i↔x∈l.take i
 |0,x=>by simp[cG]
 |i+1,x=>by
  rw[cG]
  split
  ·rename_i h
   rw[rT i x]
   cases hx:l[i]? with
   |none=>rw[List.take_add_one,hx];simp
   |some y=>
    rw[cp hx,List.mem_append,List.mem_singleton]
    constructor
    ·exact .inl
    ·rintro(h2|rfl)
     ·exact h2
     ·refine List.mem_iff_getElem?.2 ⟨i-1,?_⟩
      rw[List.getElem?_take,if_pos (by omega),←h.2,hx]
  ·rw[List.mem_append,rT i x,List.take_add_one,List.mem_append]
theorem qg{l:List Nm}(hs:l.Pairwise fun x y=>cR y x=false):∀(i:Nat),(cG l i).Pairwise (fun x y=>cR x y=true)
 |0=>List.Pairwise.nil
 |i+1=>by
  rw[cG]
  split
  ·exact qg hs i
  ·rename_i h
   cases hx:l[i]? with
   |none=>simpa using qg hs i
   |some x=>
    refine List.pairwise_append.2 ⟨qg hs i,by simp,fun y hy z hz=>?_⟩
    simp only[Option.toList_some,List.mem_singleton] at hz
    subst hz
    obtain⟨k,hk⟩:=List.mem_iff_getElem?.1 ((rT i y).1 hy)
    rw[List.getElem?_take] at hk
    split at hk
    ·rename_i hki
     have hle:∀{a b:Nat} {u v:Nm},a<b→l[a]?=some u→l[b]?=some v→cR v u=false:=fun{a b} {u v} hab hu hv=>by
      obtain⟨ha,rfl⟩:=List.getElem?_eq_some_iff.1 hu
      obtain⟨hb,rfl⟩:=List.getElem?_eq_some_iff.1 hv
      exact List.pairwise_iff_getElem.1 hs a b ha hb hab
     obtain⟨w,hw⟩:∃w,l[i-1]?=some w:=⟨_,List.getElem?_eq_getElem (by have:=bI hx;omega)⟩
     have h1:cR z w=false:=hle (by omega) hw hx
     have hzw:z≠w:=fun e=>h ⟨by omega,by rw[hx,hw,e]⟩
     have h2:cR w z=true:=by
      rcases lg w z with h3|h3|h3
      ·exact h3
      ·exact absurd h3.symm hzw
      ·rw[h3] at h1;exact absurd h1 (by simp)
     rcases Nat.lt_or_ge k (i-1) with h3|h3
     ·have h4:cR w y=false:=hle h3 hk hw
      rcases lg y w with h5|h5|h5
      ·exact kU h5 h2
      ·rw[h5];exact h2
      ·rw[h5] at h4;exact absurd h4 (by simp)
     ·have:k=i-1:=by omega
      subst this;rw[hk] at hw;cases hw;exact h2
    ·exact absurd hk (by simp)
theorem Wm(l:List Nm):(fG l).Pairwise fun x y=>cR y x=false:=by
 have h:=List.pairwise_mergeSort (le:=fun x y:Nm=>!cR y x) (fun a b c h1 h2=>by
  simp only[Bool.not_eq_true'] at *
  exact rj h2 h1) (fun a b=>by
  rcases lg a b with h|h|h
  ·simp[AY h]
  ·subst h;simp[jE]
  ·simp[AY h]) l
 exact h.imp fun{a b} h=>by simpa using h
theorem ri{l:List Nm}{x:Nm}:x∈fG l↔x∈l:=(List.mergeSort_perm l _).mem_iff
def dS(b:Bk):List Nm:=b.ai.map fun f=>(f.acc,f.sym)
def cm(b:Bk):List Po:=if aQ b then(ea (fG (dS b))).map (fun n=>cz b n.1 n.2) else[]
theorem pS{l:List Nm}{x:Nm}:x∈ea l↔x∈l:=by
 unfold ea;rw[rT,List.take_length]
theorem Tx(l:List Nm):(ea (fG l)).Pairwise (fun x y=>cR x y=true):=qg (Wm l) _
theorem Bi(l:List Nm):(ea l).length≤l.length:=by
 unfold ea
 generalize l.length=n
 induction n with
 |zero=>simp[cG]
 |succ i ih=>
  rw[cG];split
  ·omega
  ·rw[List.length_append];cases l[i]?<;>simp<;>omega
def nC(b:Bk):List Dn:=b.ai.filter fun f=>cu b f
def qh(b:Bk):List Dn:=b.ai.filter fun f=>!cu b f
def eX(b:Bk):Bk:=⟨[],nC b,b.ids,b.clock,0⟩
def kM(b:Bk):Bk×List Po×Int:=
 if aQ b then(if(cm (eX b)).any (·.over) then(b,[],9) else(⟨b.af,qh b,b.ids,b.clock,b.bad⟩,cm (eX b),0)) else(b,[],1)
theorem O8{b:Bk}(h:aQ b=false):kM b=(b,[],1):=by unfold kM;rw[if_neg (by rw[h];simp)]
theorem Pd{b:Bk}(h:aQ b=true)(h2:(cm (eX b)).any (·.over)=true):kM b=(b,[],9):=by unfold kM;rw[if_pos h,if_pos h2]
theorem My{b:Bk}(h:aQ b=true)(h2:(cm (eX b)).any (·.over)=false):kM b=(⟨b.af,qh b,b.ids,b.clock,b.bad⟩,cm (eX b),0):=by unfold kM;rw[if_pos h,if_neg (by rw[h2];simp)]
def iV(b:Bk)(car:List Po)(a s:Bs):Po:=
 if(dv [[cz b a s],[dK car (a,s)]]).2≠0 then⟨a,s,0,0,true⟩ else dK (dv [[cz b a s],[dK car (a,s)]]).1 (a,s)
def nY(b:Bk)(car:List Po)(a s:Bs):Ws:=
 if(dK car (a,s)).over then fF b a s else ec (fF b a s) ((dK car (a,s)).al,IntKind.i64.wrap (0-(dK car (a,s)).al))
theorem zf{l:List Dn}{p:Dn→Bool}{i:Nat}{f:Dn}(hf:l[i]?=some f)(h:p f=false):(l.take (i+1)).filter p=(l.take i).filter p:=by
 rw[cp hf,List.filter_append];simp[h]
theorem Bt{l:List Dn}{p:Dn→Bool}{i:Nat}{f:Dn}(hf:l[i]?=some f)(h:p f=true):(l.take (i+1)).filter p=(l.take i).filter p++[f]:=by
 rw[cp hf,List.filter_append];simp[h]
theorem vY(b:Bk):(cm b).length≤b.ai.length:=by
 unfold cm;split
 ·rw[List.length_map]
  have:=Bi (fG (dS b))
  rw[rG] at this
  simpa[dS] using this
 ·simp
inductive cE(c:Int):List Dn→List Dn→List Dn→Prop
 |nil:cE c [] [] []
 |dJ (f:Dn) {X F G:List Dn}:cE c X F G→cE c X (f::F) (f::G)
 |drop (f:Dn) {X F G:List Dn}:10<c-f.time→cE c X F G→cE c (f::X) (f::F) G
structure Twin(X:List Dn)(b n:Bk):Prop where
 af:n.af=b.af
 ids:n.ids=b.ids
 clock:n.clock=b.clock
 bad:n.bad=b.bad
 ai:cE b.clock X b.ai n.ai
theorem cE.mono{c d:Int}(h:c≤d){X F G:List Dn}(hd:cE c X F G):cE d X F G:=by
 induction hd with
 |nil=>exact .nil
 |dJ f _ ih=>exact .dJ f ih
 |drop f hf _ ih=>exact .drop f (by omega) ih
theorem cE.snoc{c:Int}{X F G:List Dn}(hd:cE c X F G)(f:Dn):cE c X (F++[f]) (G++[f]):=by
 induction hd with
 |nil=>exact .dJ f .nil
 |dJ f _ ih=>exact .dJ f ih
 |drop f hf _ ih=>exact .drop f hf ih
theorem cE.refl{c:Int}:∀(F:List Dn),cE c [] F F
 |[]=> .nil
 |f::F=> .dJ f (cE.refl F)
theorem cE.sub{c:Int}{X F G:List Dn}(hd:cE c X F G):G.Sublist F:=by
 induction hd with
 |nil=>exact .slnil
 |dJ f _ ih=>exact ih.cons_cons f
 |drop f _ _ ih=>exact ih.cons f
theorem cE.trans{c:Int}{X F G:List Dn}(h:cE c X F G):∀{Y H:List Dn},cE c Y G H→∃Z,Z.Perm (X++Y)∧cE c Z F H:=by
 induction h with
 |nil=>intro Y H h2;exact⟨Y,by simp,h2⟩
 |dJ f _ ih=>
  intro Y H h2
  cases h2 with
  |dJ _ h2=>obtain⟨Z,h3,h4⟩:=ih h2;exact⟨Z,h3,.dJ f h4⟩
  |drop _ hf h2=>obtain⟨Z,h3,h4⟩:=ih h2;exact⟨f::Z,(h3.cons f).trans List.perm_middle.symm,.drop f hf h4⟩
 |drop f hf _ ih=>intro Y H h2;obtain⟨Z,h3,h4⟩:=ih h2;exact⟨f::Z,h3.cons f,.drop f hf h4⟩
theorem cE.filter{c:Int}(p:Dn→Bool):∀(F:List Dn),(∀f∈F,p f=false→10<c-f.time)→cE c (F.filter fun f=>!p f) F (F.filter p)
 |[],_=> .nil
 |f::F,hp=>by
  have ih:=cE.filter p F fun g hg=>hp g (List.mem_cons_of_mem _ hg)
  cases h:p f with
  |true=>rw[List.filter_cons_of_pos (p:=p) h,List.filter_cons_of_neg (p:=fun f=>!p f) (by simp[h])];exact .dJ f ih
  |false=>rw[List.filter_cons_of_neg (p:=p) (by simp[h]),List.filter_cons_of_pos (p:=fun f=>!p f) (by simp[h])];exact .drop f (hp f (by simp) h) ih
theorem cE.perm{c:Int}{X F G:List Dn}(h:cE c X F G):F.Perm (X++G):=by
 induction h with
 |nil=>exact .nil
 |dJ f _ ih=>exact(ih.cons f).trans List.perm_middle.symm
 |drop f _ _ ih=>exact ih.cons f
theorem cE.late{c:Int}{X F G:List Dn}(h:cE c X F G):∀f∈X,10<c-f.time:=by
 induction h with
 |nil=>simp
 |dJ f _ ih=>exact ih
 |drop f hf _ ih=>intro g hg;rcases List.mem_cons.1 hg with rfl|hg
                  ·exact hf
                  ·exact ih g hg
theorem jh{f:Dn}{F:List Dn}{id:Bs}:dF (f::F) id=if f.id=id then some 0 else(dF F id).map (· +1):=by
 unfold dF;rw[List.findIdx?_cons];simp only[decide_eq_true_eq]
theorem EC{F:List Dn}{id:Bs}(h:id∉F.map (·.id)):dF F id=none:=by
 unfold dF;rw[List.findIdx?_eq_none_iff]
 intro f hf
 simp only[decide_eq_false_iff_not]
 intro e;exact h (List.mem_map.2 ⟨f,hf,e⟩)
theorem cE.find{c:Int}{X F G:List Dn}(hd:cE c X F G)(nd:(F.map (·.id)).Nodup)(id:Bs):
 (∃i j f,dF F id=some i∧dF G id=some j∧F.getD i mg=f∧G.getD j mg=f∧∀f',cE c X (F.set i f') (G.set j f'))∨
 (∃i f,dF F id=some i∧dF G id=none∧F.getD i mg=f∧10<c-f.time)∨(dF F id=none∧dF G id=none):=by
 induction hd with
 |nil=>exact .inr (.inr ⟨rfl,rfl⟩)
 |dJ f h ih=>
  rw[List.map_cons,List.nodup_cons] at nd
  by_cases e:f.id=id
  ·refine .inl ⟨0,0,f,by rw[jh,if_pos e],by rw[jh,if_pos e],rfl,rfl,fun f'=> .dJ f' h⟩
  ·rcases ih nd.2 with⟨i,j,g,h1,h2,h3,h4,h5⟩|⟨i,g,h1,h2,h3,h4⟩|⟨h1,h2⟩
   ·exact .inl ⟨i+1,j+1,g,by rw[jh,if_neg e,h1];rfl,by rw[jh,if_neg e,h2];rfl,by simpa using h3,by simpa using h4,fun f'=> .dJ f (h5 f')⟩
   ·exact .inr (.inl ⟨i+1,g,by rw[jh,if_neg e,h1];rfl,by rw[jh,if_neg e,h2];rfl,by simpa using h3,h4⟩)
   ·exact .inr (.inr ⟨by rw[jh,if_neg e,h1];rfl,by rw[jh,if_neg e,h2];rfl⟩)
 |drop f hf h ih=>
  rw[List.map_cons,List.nodup_cons] at nd
  by_cases e:f.id=id
  ·refine .inr (.inl ⟨0,f,by rw[jh,if_pos e],EC ?_,rfl,hf⟩)
   intro hm
   obtain⟨g,hg,e2⟩:=List.mem_map.1 hm
   exact nd.1 (List.mem_map.2 ⟨g,h.sub.subset hg,e2.trans e.symm⟩)
  ·rcases ih nd.2 with⟨i,j,g,h1,h2,h3,h4,h5⟩|⟨i,g,h1,h2,h3,h4⟩|⟨h1,h2⟩
   ·exact .inl ⟨i+1,j,g,by rw[jh,if_neg e,h1];rfl,h2,by simpa using h3,h4,fun f'=> .drop f hf (h5 f')⟩
   ·exact .inr (.inl ⟨i+1,g,by rw[jh,if_neg e,h1];rfl,h2,by simpa using h3,h4⟩)
   ·exact .inr (.inr ⟨by rw[jh,if_neg e,h1];rfl,h2⟩)
structure mZ(c:Int)(X F G:List Dn)(p q:Bk×Int):Prop where
 code:p.2=q.2
 af:q.1.af=p.1.af
 ids:q.1.ids=p.1.ids
 clock:q.1.clock=p.1.clock
 bad:q.1.bad=p.1.bad
 CX:p.1.clock=c
 ai:cE c X p.1.ai q.1.ai
 len:p.1.ai.length+G.length=q.1.ai.length+F.length
section
variable{o:List Od}{X F G:List Dn}{ids:List Bs}{cl bad:Int}
theorem mZ.put(h:cE cl X F G)(o':List Od)(e:Int):mZ cl X F G (⟨o',F,ids,cl,bad⟩,e) (⟨o',G,ids,cl,bad⟩,e):=⟨rfl,rfl,rfl,rfl,rfl,rfl,h,by simp only[];omega⟩
theorem UU(h:cE cl X F G)(nd:(F.map (·.id)).Nodup)(x:Ex)(hx:¬x.time<cl):mZ cl X F G (bH ⟨o,F,ids,cl,bad⟩ x) (bH ⟨o,G,ids,cl,bad⟩ x):=by
 unfold bH
 rcases h.find nd x.ref with⟨i,j,f,h1,h2,h3,h4,h5⟩|⟨i,f,h1,h2,h3,h4⟩|⟨h1,h2⟩
 ·simp only[h1,h2,h3,h4]
  by_cases c1:f.live=false∨10<x.time-f.time
  ·rw[if_pos c1,if_pos c1];exact .put h _ 6
  ·rw[if_neg c1,if_neg c1]
   by_cases c2:f.ord≠x.ord∨f.acc≠x.acc∨f.sym≠x.sym∨f.au≠x.au
   ·rw[if_pos c2,if_pos c2];exact .put h _ 3
   ·rw[if_neg c2,if_neg c2]
    by_cases c3:x.kind=7
    ·rw[if_pos c3,if_pos c3]
     exact⟨rfl,rfl,rfl,rfl,rfl,rfl,h5 _,by simp only[List.length_set];omega⟩
    ·rw[if_neg c3,if_neg c3]
     by_cases c4:f.al<x.al
     ·rw[if_pos c4,if_pos c4];exact .put h _ 4
     ·rw[if_neg c4,if_neg c4]
      by_cases c5:(findF o f.ord).2=false∨er { (findF o f.ord).1 with au:=f.au } x.aw=false
      ·rw[if_pos c5,if_pos c5];exact .put h _ 5
      ·rw[if_neg c5,if_neg c5]
       exact⟨rfl,rfl,rfl,rfl,rfl,rfl,h5 _,by simp only[List.length_set];omega⟩
 ·simp only[h1,h2,h3]
  rw[if_pos (.inr (by omega))]
  exact .put h _ 6
 ·simp only[h1,h2]
  exact .put h _ 6
theorem Ii(h:cE cl X F G)(x:Ex):mZ cl X F G (dH ⟨o,F,ids,cl,bad⟩ x) (dH ⟨o,G,ids,cl,bad⟩ x):=by
 unfold dH
 dsimp only
 by_cases c1:(cc o x.ord x.al x.aw).2=0
 ·rw[if_pos c1,if_pos c1]
  exact⟨rfl,rfl,rfl,rfl,rfl,rfl,h.snoc _,by simp only[List.length_append];omega⟩
 ·rw[if_neg c1,if_neg c1]
  by_cases c2:(cc o x.ord x.al x.aw).2=1
  ·rw[if_pos c2,if_pos c2];exact .put h _ 4
  ·rw[if_neg c2,if_neg c2]
   by_cases c3:(cc o x.ord x.al x.aw).2=9
   ·rw[if_pos c3,if_pos c3];exact .put h _ 5
   ·rw[if_neg c3,if_neg c3];exact .put h _ 2
theorem QJ(h:cE cl X F G)(x:Ex):mZ cl X F G (dN ⟨o,F,ids,cl,bad⟩ x) (dN ⟨o,G,ids,cl,bad⟩ x):=by
 unfold dN
 dsimp only
 by_cases c1:(ca o x.ref x.ord x.al x.aw).2=0
 ·rw[if_pos c1,if_pos c1];exact .put h _ 0
 ·rw[if_neg c1,if_neg c1]
  by_cases c2:(ca o x.ref x.ord x.al x.aw).2=1
  ·rw[if_pos c2,if_pos c2];exact .put h _ 4
  ·rw[if_neg c2,if_neg c2];exact .put h _ 2
theorem Ks(h:cE cl X F G)(nd:(F.map (·.id)).Nodup)(x:Ex):mZ cl X F G (bK ⟨o,F,ids,cl,bad⟩ x) (bK ⟨o,G,ids,cl,bad⟩ x):=by
 unfold bK
 dsimp only
 by_cases c1:x.time<cl
 ·rw[if_pos c1,if_pos c1];exact .put h _ 1
 ·rw[if_neg c1,if_neg c1]
  by_cases c2:x.kind=1
  ·rw[if_pos c2,if_pos c2]
   by_cases c3:(cD o (fY x)).2=0
   ·rw[if_pos c3,if_pos c3];exact .put h _ 0
   ·rw[if_neg c3,if_neg c3];exact .put h _ 2
  ·rw[if_neg c2,if_neg c2]
   by_cases c3:x.kind=7∨x.kind=8
   ·rw[if_pos c3,if_pos c3];exact UU h nd x c1
   ·rw[if_neg c3,if_neg c3]
    generalize (if x.kind=4 then x.ref else x.ord)=key
    by_cases c4:(findF o key).2=false∨(findF o key).1.bg=false
    ·rw[if_pos c4,if_pos c4];exact .put h _ 2
    ·rw[if_neg c4,if_neg c4]
     by_cases c5:(findF o key).1.acc≠x.acc∨(findF o key).1.sym≠x.sym∨(findF o key).1.au≠x.au
     ·rw[if_pos c5,if_pos c5];exact .put h _ 3
     ·rw[if_neg c5,if_neg c5]
      by_cases c6:x.kind=2
      ·rw[if_pos c6,if_pos c6];exact Ii h x
      ·rw[if_neg c6,if_neg c6]
       by_cases c7:x.kind=4
       ·rw[if_pos c7,if_pos c7];exact QJ h x
       ·rw[if_neg c7,if_neg c7]
        by_cases c8:(dj o x.ord).2=0
        ·rw[if_pos c8,if_pos c8];exact .put h _ 0
        ·rw[if_neg c8,if_neg c8];exact .put h _ 2
theorem KO{b:Bk}{x:Ex}(h:(bK b x).2=0):b.clock≤x.time:=(sJ h).1
theorem Gm(h:cE cl X F G)(nd:(F.map (·.id)).Nodup)(x:Ex):(bM ⟨o,F,ids,cl,bad⟩ x).2=(bM ⟨o,G,ids,cl,bad⟩ x).2∧Twin X (bM ⟨o,F,ids,cl,bad⟩ x).1 (bM ⟨o,G,ids,cl,bad⟩ x).1∧(bM ⟨o,F,ids,cl,bad⟩ x).1.ai.length+G.length=(bM ⟨o,G,ids,cl,bad⟩ x).1.ai.length+F.length:=by
 unfold bM
 dsimp only
 by_cases c1:bad≠0∨256≤ids.length
 ·rw[if_pos c1,if_pos c1];exact⟨rfl,⟨rfl,rfl,rfl,rfl,h⟩,by simp only[];omega⟩
 ·rw[if_neg c1,if_neg c1]
  by_cases c2:kF ids x.id=true
  ·rw[if_pos c2,if_pos c2];exact⟨rfl,⟨rfl,rfl,rfl,rfl,h⟩,by simp only[];omega⟩
  ·rw[if_neg c2,if_neg c2]
   have ha:=Ks (o:=o) (ids:=ids++[x.id]) (bad:=bad) h nd x
   have hc:=ha.code
   by_cases c3:(bK ⟨o,F,ids++[x.id],cl,bad⟩ x).2≠0
   ·rw[if_pos c3,if_pos (by rw[←hc];exact c3)]
    exact⟨rfl,⟨ha.af,ha.ids,ha.clock,hc.symm,by simp only[];rw[ha.CX];exact ha.ai⟩,ha.len⟩
   ·rw[if_neg c3,if_neg (by rw[←hc];exact c3)]
    exact⟨rfl,⟨ha.af,ha.ids,rfl,ha.bad,ha.ai.mono (KO (Decidable.not_not.1 c3))⟩,ha.len⟩
end
theorem Hc{X:List Dn}{b n:Bk}(h:Twin X b n)(hb:aQ b=true)(hn:aQ n=true)(x:Ex):(aY b x).2=(aY n x).2∧Twin X (aY b x).1 (aY n x).1∧(aY b x).1.ai.length+n.ai.length=(aY n x).1.ai.length+b.ai.length:=by
 unfold aY
 rw[hb,hn,Bool.true_and]
 have nd:(b.ai.map (·.id)).Nodup:=by
  unfold aQ at hb
  simp only[Bool.and_eq_true,decide_eq_true_eq] at hb
  exact hb.2
 obtain⟨o,F,ids,cl,bad⟩:=b
 obtain⟨o',G,ids',cl',bad'⟩:=n
 obtain⟨h1,h2,h3,h4,h5⟩:=h
 simp only at h1 h2 h3 h4
 subst h1;subst h2;subst h3;subst h4
 by_cases c:dh x=true
 ·rw[if_pos c,if_pos c];exact Gm h5 nd x
 ·rw[if_neg c,if_neg c];exact⟨rfl,⟨rfl,rfl,rfl,rfl,h5⟩,by simp only[];omega⟩
def nB(b:Bk):Bk:=⟨b.af,qh b,b.ids,b.clock,b.bad⟩
theorem vb{b:Bk}{f:Dn}(h1:0≤f.time)(h2:f.time≤b.clock)(h3:b.clock≤4611686018427387904):cu b f=decide (10<b.clock-f.time):=by
 unfold cu
 rw[if_neg (by omega),aq (by omega) (by omega)]
theorem ud{b:Bk}(hr:aQ b=true):0≤b.clock∧b.clock≤4611686018427387904:=by
 have:=(eO.1 hr).1
 omega
theorem yF{b n:Bk}(hr:aQ b=true)(ho:aU n.af=true)(hi:n.ids=b.ids)(hc:n.clock=b.clock)(hb:0≤n.bad∧n.bad≤6)(hs:n.ai.Sublist b.ai):aQ n=true:=by
 obtain⟨h1,h2,h3,h4⟩:=eO.1 hr
 have hl:=hs.length_le
 refine eO.2 ⟨?_,by rw[hi];exact h2,fun f hf=>?_,h4.sublist (hs.map _)⟩
 ·rw[hi,hc]
  exact⟨ho,by omega,h1.2.2.1,h1.2.2.2.1,h1.2.2.2.2.1,hb.1,hb.2⟩
 ·have:=h3 f (hs.subset hf)
  unfold cd at *;rw[hi,hc];exact this
theorem DF{b:Bk}(hr:aQ b=true):aQ (nB b)=true:=by
 have h:=(eO.1 hr).1
 exact yF hr h.1 rfl rfl ⟨h.2.2.2.2.2.1,h.2.2.2.2.2.2⟩ (List.filter_sublist (p:=fun f=>!cu b f))
theorem B5{b:Bk}(hr:aQ b=true):aQ (eX b)=true:=yF (n:=eX b) hr (by show aU []=true;decide) rfl rfl ⟨Int.le_refl 0,by show(0:Int)≤6;omega⟩ (List.filter_sublist (p:=fun f=>cu b f))
theorem XH{b:Bk}(hr:aQ b=true):Twin (nC b) b (nB b):=⟨rfl,rfl,rfl,rfl,by
 have hc:=ud hr
 have h:=cE.filter (c:=b.clock) (fun f=>!cu b f) b.ai fun f hf e=>by
  have ha:=j8 hr f hf
  rw[vb ha.2.2.1 ha.2.2.2 hc.2] at e
  simpa using e
 simp only[Bool.not_not] at h
 exact h⟩
theorem Ad(l:List Int):aS (bu l).1=true:=ew.2 (Xk l)
theorem uZ(b:Bk)(a s:Bs):cW (cz b a s)=true:=by
 unfold cz la
 split
 ·split
  ·simp[cW,Ad]
  ·simp[cW,aS]
 ·simp[cW,aS]
theorem nE(b:Bk)(a s:Bs):aI (cz b a s)=(a,s):=by
 unfold cz la
 split
 ·split<;>rfl
 ·rfl
theorem zy{l:List Po}(h1:∀p∈l,cW p=true)(h2:hZ l):ck l=true:=by
 induction l with
 |nil=>rfl
 |cons p l ih=>
  obtain⟨h3,h4⟩:=List.pairwise_cons.1 h2
  have:=ih (fun q hq=>h1 q (List.mem_cons_of_mem _ hq)) h4
  have e:=h1 p (by simp)
  cases l with
  |nil=>simp only[ck,e,Bool.and_true]
  |cons q l=>have e2:=h3 q (by simp);simp only[ck,e] at this ⊢;simp_all[aJ]
theorem pV(b:Bk):ck (cm b)=true:=by
 unfold cm
 split
 ·refine zy (fun p hp=>?_) ?_
  ·obtain⟨n,_,rfl⟩:=List.mem_map.1 hp
   exact uZ b n.1 n.2
  ·unfold hZ
   rw[List.pairwise_map]
   refine(Tx _).imp fun{x y} h=>?_
   unfold aJ
   rw[nE,nE];exact h
 ·rfl
theorem Io{b:Bk}(hr:aQ b=true){a s:Bs}(h:(a,s)∉dS b):cz b a s=⟨a,s,0,0,false⟩:=by
 have:eU a s b.ai=[]:=List.filter_eq_nil_iff.2 fun f hf=>by
  rw[nP]
  rintro⟨_,h2,h3⟩
  exact h (List.mem_map.2 ⟨f,hf,by rw[h2,h3]⟩)
 unfold cz;rw[if_pos hr,this];rfl
theorem VZ{b:Bk}(hr:aQ b=true)(a s:Bs):dK (cm b) (a,s)=cz b a s:=by
 have hm:cm b=(ea (fG (dS b))).map fun n=>cz b n.1 n.2:=by unfold cm;rw[if_pos hr]
 by_cases h:(a,s)∈dS b
 ·have h2:(a,s)∈ea (fG (dS b)):=pS.2 (ri.2 h)
  have h3:cz b a s∈cm b:=by rw[hm];exact List.mem_map.2 ⟨_,h2,rfl⟩
  have hs:=rQ (oG (pV b)) h3
  rw[nE] at hs
  unfold dK
  have hf:(cm b).find? (fun p=>decide (aI p=(a,s)))=some (cz b a s):=by
   have:=List.find?_filter (p:=fun p=>decide (aI p=(a,s))) (q:=fun _=>true) (xs:=cm b)
   unfold dG at hs
   rw[←List.head?_filter,hs];rfl
  rw[hf]
 ·rw[Io hr h]
  unfold dK
  have hf:(cm b).find? (fun p=>decide (aI p=(a,s)))=none:=by
   rw[List.find?_eq_none]
   intro p hp
   rw[hm] at hp
   obtain⟨n,hn,rfl⟩:=List.mem_map.1 hp
   rw[nE]
   simp only[decide_eq_true_eq]
   intro e
   exact h (ri.1 (pS.1 (by rw[←e];exact hn)))
  rw[hf]
theorem KW{p q:Po}{n:Nm}(hp:cW p=true)(hq:cW q=true)(np:aI p=n)(nq:aI q=n):dv [[p],[q]]=([dQ n [p,q]],0):=by
 have h:([[p],[q]]:List (List Po)).all ck=true:=by simp[ck,hp,hq]
 refine Prod.ext ?_ (qo h)
 refine iI.uniq (sj h) ⟨List.pairwise_singleton ..,fun x=>?_⟩
 have hsame:dG n [p,q]=[p,q]:=by unfold dG;rw[List.filter_cons_of_pos (by simp[np]),List.filter_cons_of_pos (by simp[nq])];rfl
 simp only[List.flatten_cons,List.flatten_nil,List.append_nil,List.cons_append,List.nil_append,List.mem_singleton]
 constructor
 ·rintro rfl
  refine⟨⟨p,by simp,by rw[lQ];exact np⟩,?_⟩
  rw[lQ];unfold dR;rw[hsame]
 ·rintro⟨⟨y,hy,e⟩,hx⟩
  have hn:aI x=n:=by
   rcases List.mem_cons.1 hy with rfl|hy
   ·rw[←e];exact np
   ·rw[List.mem_singleton.1 hy] at e;rw[←e];exact nq
  rw[hn] at hx;unfold dR at hx;rw[hsame] at hx;exact hx
theorem has_eq{b:Bk}{car:List Po}{a s:Bs}(h:cW (dK car (a,s))=true)(hn:aI (dK car (a,s))=(a,s)):iV b car a s=dQ (a,s) [cz b a s,dK car (a,s)]:=by
 unfold iV
 generalize dK car (a,s)=q at *
 rw[KW (uZ b a s) h (nE b a s) hn,if_neg (by simp)]
 have e:aI (dQ (a,s) [cz b a s,q])=(a,s):=lQ
 simp only[dK,List.find?_cons,e,decide_true]
theorem zF{x y:Int}(hx:aS x=true)(hy:aS y=true):bu [x,y]=if aS (x+y) then(x+y,true) else(0,false):=by
 unfold bu
 simp only[List.all_cons,List.all_nil,hx,hy,Bool.true_and,Bool.and_true,bp,Int.add_zero]
theorem I4{p q:Po}{n:Nm}(hp:cW p=true)(hq:cW q=true):dQ n [p,q]=if p.over||q.over then⟨n.1,n.2,0,0,true⟩ else if aS (p.al+q.al)&&aS (p.value+q.value) then⟨n.1,n.2,p.al+q.al,p.value+q.value,false⟩ else⟨n.1,n.2,0,0,true⟩:=by
 simp only[cW,Bool.and_eq_true] at hp hq
 unfold dQ
 simp only[List.any_cons,List.any_nil,Bool.or_false,List.map_cons,List.map_nil,zF hp.1.1 hq.1.1,zF hp.1.2 hq.1.2]
 by_cases c1:(p.over||q.over)=true
 ·rw[if_pos c1,if_pos c1]
 ·rw[if_neg c1,if_neg c1]
  cases e1:aS (p.al+q.al)<;>cases e2:aS (p.value+q.value)<;>simp
def qS(a s:Bs)(X:List Dn):Int:=bp ((eU a s X).map fR)
def vS(a s:Bs)(X:List Dn):Int:=bp ((eU a s X).map fun f=>fR f*f.aw)
theorem p6{a s:Bs}(X Y:List Dn):qS a s (X++Y)=qS a s X+qS a s Y:=by unfold qS eU;rw[List.filter_append,List.map_append,lK]
theorem vk{a s:Bs}(X Y:List Dn):vS a s (X++Y)=vS a s X+vS a s Y:=by unfold vS eU;rw[List.filter_append,List.map_append,lK]
theorem zB{a s:Bs}{X Y:List Dn}(h:X.Perm Y):qS a s X=qS a s Y:=by unfold qS eU;exact u6 ((h.filter _).map _)
theorem wu{a s:Bs}{X Y:List Dn}(h:X.Perm Y):vS a s X=vS a s Y:=by unfold vS eU;exact u6 ((h.filter _).map _)
structure fQ(C:List Po)(X:List Dn):Prop where
 ia:ck C=true
 is:∀a s,dK C (a,s)=⟨a,s,qS a s X,vS a s X,false⟩
theorem Mh:fQ [] []:=⟨rfl,fun a s=>rfl⟩
theorem fQ.perm{C:List Po}{X Y:List Dn}(h:fQ C X)(hp:X.Perm Y):fQ C Y:=⟨h.ia,fun a s=>by rw[h.is,zB hp,wu hp]⟩
theorem sc(l:List Po)(n:Nm):(dK l n∈l∧aI (dK l n)=n)∨dK l n=⟨n.1,n.2,0,0,false⟩:=by
 unfold dK
 cases h:l.find? (fun p=>decide (aI p=n)) with
 |none=>exact .inr rfl
 |some p=>exact .inl ⟨List.mem_of_find?_eq_some h,by simpa using List.find?_some h⟩
theorem uc{l:List Po}(h:ck l=true)(n:Nm):cW (dK l n)=true:=by
 rcases sc l n with⟨h1,_⟩|h1
 ·exact zz h _ h1
 ·rw[h1];rfl
theorem FZ(l:List Po)(n:Nm):aI (dK l n)=n:=by
 rcases sc l n with⟨_,h1⟩|h1
 ·exact h1
 ·rw[h1];rfl
theorem Jd{l:List Po}(h:l.any (·.over)=false)(n:Nm):(dK l n).over=false:=by
 rcases sc l n with⟨h1,_⟩|h1
 ·have:=List.any_eq_false.1 h _ h1
  simpa using this
 ·rw[h1]
theorem Mt{f:Dn}(h:(eo f).2=true):(eo f).1=fR f*f.aw:=by
 unfold eo bW at *
 split
 ·rfl
 ·rename_i h2;rw[if_neg h2] at h;exact absurd h (by simp)
theorem Bv{b:Bk}(hr:aQ b=true){a s:Bs}(h:(cz b a s).over=false):cz b a s=⟨a,s,qS a s b.ai,vS a s b.ai,false⟩:=by
 unfold cz at *
 rw[if_pos hr] at *
 unfold la at *
 split
 ·rename_i h2
  simp only[Bool.and_eq_true,List.all_eq_true] at h2
  rw[rR h2.2.1,rR h2.2.2]
  have e:(eU a s b.ai).map (fun f=>(eo f).1)=(eU a s b.ai).map fun f=>fR f*f.aw:=List.map_congr_left fun f hf=>Mt (h2.1 f hf)
  rw[e];rfl
 ·rename_i h2;rw[if_neg h2] at h;exact absurd h (by simp)
theorem A4{b:Bk}{C:List Po}{X:List Dn}(hr:aQ b=true)(hh:fQ C X){a s:Bs}(h:(iV b C a s).over=false):iV b C a s=⟨a,s,qS a s b.ai+qS a s X,vS a s b.ai+vS a s X,false⟩:=by
 have e:=(has_eq (b:=b) (uc hh.ia (a,s)) (FZ C (a,s))).trans (I4 (uZ b a s) (uc hh.ia (a,s)))
 rw[e] at h ⊢
 clear e
 split
 ·rename_i h2;rw[if_pos h2] at h;exact absurd h (by simp)
 ·rename_i h2
  rw[if_neg h2] at h
  simp only[Bool.or_eq_true,not_or,Bool.not_eq_true] at h2
  rw[Bv hr h2.1,hh.is] at h ⊢
  split
  ·rfl
  ·rename_i h3;rw[if_neg h3] at h;exact absurd h (by simp)
theorem LR{b n:Bk}{C D:List Po}{X Y:List Dn}(hb:aQ b=true)(hn:aQ n=true)(ht:Twin X b n)(hc:fQ C (X++Y))(hd:fQ D Y){a s:Bs}(h1:(iV b D a s).over=false)(h2:(iV n C a s).over=false):iV b D a s=iV n C a s:=by
 rw[A4 hb hd h1,A4 hn hc h2,p6,vk,zB ht.ai.perm,wu ht.ai.perm,p6,vk]
 congr 1<;>omega
theorem UA{fin:Bool}{a s:Bs}{f:Dn}(h:fin=true):fj fin a s f=(qS a s [f],-qS a s [f]):=by
 unfold fj qS eU
 by_cases c:f.live=true∧f.acc=a∧f.sym=s
 ·rw[if_pos c,List.filter_cons_of_pos (nP.2 c)]
  simp only[List.filter_nil,List.map_cons,List.map_nil,bp,fR,h]
  cases f.au<;>simp
 ·have:k8 a s f=false:=by cases hm:k8 a s f with
   |false=>rfl
   |true=>exact absurd (nP.1 hm) c
  rw[if_neg c,List.filter_cons_of_neg (by simp[this])]
  simp[bp]
theorem UQ{a s:Bs}(f:Dn)(X:List Dn):qS a s (f::X)=qS a s [f]+qS a s X:=p6 [f] X
theorem IG{b n:Bk}(hc:n.clock=b.clock)(hk:b.clock≤4611686018427387904){c:Int}(e:c=b.clock){X F G:List Dn}(h:cE c X F G)(hf:∀f∈F,0≤f.time∧f.time≤b.clock){a s:Bs}:cX (ji b a s F)=((cX (ji n a s G)).1+qS a s X,(cX (ji n a s G)).2-qS a s X):=by
 induction h with
 |nil=>rfl
 |dJ f _ ih=>
  have ih:=ih fun g hg=>hf g (List.mem_cons_of_mem _ hg)
  have e2:cu b f=cu n f:=by unfold cu;rw[hc]
  simp only[ji,List.map_cons,cX] at *
  rw[ih,e2]
  refine Prod.ext ?_ ?_<;>dsimp only<;>omega
 |@drop f X F G ht _ ih=>
  have ih:=ih fun g hg=>hf g (List.mem_cons_of_mem _ hg)
  have h1:=hf f (by simp)
  have e2:cu b f=true:=by rw[vb h1.1 h1.2 hk];simp;omega
  simp only[ji,List.map_cons,cX] at *
  rw[ih,UA e2,UQ f X]
  refine Prod.ext ?_ ?_<;>dsimp only<;>omega
theorem Vk{b n:Bk}{C:List Po}{X:List Dn}(hb:aQ b=true)(hn:aQ n=true)(ht:Twin X b n)(hc:fQ C X)(a s:Bs):nY n C a s=fF b a s:=by
 have hk:=ud hb
 have hq:=uc hc.ia (a,s)
 unfold nY
 rw[hc.is] at *
 simp only[cW,Bool.and_eq_true] at hq
 have hq:=ew.1 hq.1.1
 have h:=RC (b:=n) (acc:=a) (sym:=s)
 rw[if_neg (by simp)]
 dsimp only
 rw[aq (by omega) (by omega),nS h (m:=4611686018427387904) (by simp only[cZ];omega) (by omega)]
 unfold fF
 rw[if_pos hn,if_pos hb]
 unfold lR
 rw[ht.af,IG ht.clock hk.2 rfl ht.ai (fun f hf=>⟨(j8 hb f hf).2.2.1,(j8 hb f hf).2.2.2⟩)]
 refine Prod.ext ?_ ?_<;>dsimp only<;>omega
theorem Lh{b:Bk}(hr:aQ b=true)(h:(cm (eX b)).any (·.over)=false):fQ (cm (eX b)) (nC b):=⟨pV _,fun a s=>by
 have h1:=Jd h (a,s)
 rw[VZ (B5 hr) a s] at *
 rw[Bv (B5 hr) h1];rfl⟩
theorem get_mem{l:List Po}(h:ck l=true){p:Po}(hp:p∈l):dK l (aI p)=p:=by
 have hs:=rQ (oG h) hp
 unfold dK
 have hf:l.find? (fun q=>decide (aI q=aI p))=some p:=by
  unfold dG at hs
  rw[←List.head?_filter,hs];rfl
 rw[hf]
theorem B3{l:List Po}(h:ck l=true)(ho:∀p∈l,p.over=false)(n:Nm):dK l n=⟨n.1,n.2,gW l n,hX l n,false⟩:=by
 by_cases hm:∃p∈l,aI p=n
 ·obtain⟨p,hp,rfl⟩:=hm
  have hs:=rQ (oG h) hp
  rw[get_mem h hp]
  unfold gW hX
  rw[hs]
  have:=ho p hp
  obtain⟨a,s,q,v,o⟩:=p
  simp only at this
  simp[bp,aI,this]
 ·have hs:dG n l=[]:=by
   unfold dG
   rw[List.filter_eq_nil_iff]
   intro p hp
   simp only[decide_eq_true_eq]
   exact fun e=>hm ⟨p,hp,e⟩
  have hf:l.find? (fun p=>decide (aI p=n))=none:=by
   rw[List.find?_eq_none]
   intro p hp
   simp only[decide_eq_true_eq]
   exact fun e=>hm ⟨p,hp,e⟩
  unfold dK gW hX
  rw[hf,hs];rfl
theorem fQ.Rq{C:List Po}{X:List Dn}(h:fQ C X):∀p∈C,p.over=false:=fun p hp=>by
 have e:=h.is (aI p).1 (aI p).2
 rw[show((aI p).1,(aI p).2)=aI p from rfl,get_mem h.ia hp] at e
 rw[e]
theorem fQ.pO{C:List Po}{X:List Dn}(h:fQ C X)(a s:Bs):gW C (a,s)=qS a s X∧hX C (a,s)=vS a s X:=by
 have e:=h.is a s
 rw[B3 h.ia h.Rq] at e
 injection e with _ _ e1 e2
 exact⟨e1,e2⟩
theorem IN(n:Nm)(l:List Po):cW (dQ n l)=true:=by
 unfold dQ
 split
 ·simp[cW,aS]
 ·split
  ·simp[cW,Ad]
  ·simp[cW,aS]
theorem zY{l all:List Po}(h:iI l all):ck l=true:=by
 refine zy (fun p hp=>?_) h.ia
 have:=((h.mem p).1 hp).2
 rw[this]
 exact IN _ _
theorem Jp{a b:List Po}(ha:ck a=true)(hb:ck b=true)(h:(iD a b).2≠0):(iD a b).2=9:=by
 have hr:[a,b].all ck=true:=by simp[ha,hb]
 have he:(dv [a,b]).2=0:=qo hr
 unfold iD at *
 rw[if_neg (by rw[he];simp)] at *
 split
 ·rfl
 ·rename_i h2;rw[if_neg h2] at h;exact absurd rfl h
theorem DM{C D:List Po}{X Y:List Dn}(hc:fQ C X)(hd:fQ D Y)(h:(iD C D).2=0):fQ (iD C D).1 (X++Y):=by
 obtain⟨h1,h2⟩:=EU h
 refine⟨zY h1,fun a s=>?_⟩
 rw[B3 (zY h1) h2]
 have hs:=NY h1 h2 (a,s)
 rw[hs.1,hs.2.1,Hk,Py,(hc.pO a s).1,(hc.pO a s).2,(hd.pO a s).1,(hd.pO a s).2,p6,vk]
structure Inv(W D:Bk)(C:List Po):Prop where
 rw:aQ W=true
 rd:aQ D=true
 held:∃X,Twin X W D∧fQ C X
theorem Inv.YN{W D:Bk}{C:List Po}(h:Inv W D C)(x:Ex):Inv (aY W x).1 (aY D x).1 C:=by
 obtain⟨X,ht,hc⟩:=h.held
 exact⟨ui h.rw,ui h.rd,X,(Hc ht h.rw h.rd x).2.1,hc⟩
theorem Twin.trans{X Y:List Dn}{W D N:Bk}(h:Twin X W D)(h2:Twin Y D N):∃Z,Z.Perm (X++Y)∧Twin Z W N:=by
 have h3:=h2.ai
 rw[h.clock] at h3
 obtain⟨Z,hz,hd⟩:=h.ai.trans h3
 exact⟨Z,hz,h2.af.trans h.af,h2.ids.trans h.ids,h2.clock.trans h.clock,h2.bad.trans h.bad,hd⟩
theorem Inv.close{W D:Bk}{C:List Po}(h:Inv W D C)(ho:(cm (eX D)).any (·.over)=false)(hc:(iD C (cm (eX D))).2=0):Inv W (nB D) (iD C (cm (eX D))).1:=by
 obtain⟨X,ht,hh⟩:=h.held
 obtain⟨Z,hz,hd⟩:=ht.trans (XH h.rd)
 exact⟨h.rw,DF h.rd,Z,hd,(DM hh (Lh h.rd ho) hc).perm hz.symm⟩
theorem Inv.has{W D:Bk}{C:List Po}(h:Inv W D C)(a s:Bs)(h1:(iV W [] a s).over=false)(h2:(iV D C a s).over=false):iV W [] a s=iV D C a s:=by
 obtain⟨X,ht,hh⟩:=h.held
 exact LR (Y:=[]) h.rw h.rd ht (by simpa using hh) Mh h1 h2
theorem Inv.YQ{W D:Bk}{C:List Po}(h:Inv W D C)(a s:Bs):fF W a s=nY D C a s:=by
 obtain⟨X,ht,hh⟩:=h.held
 exact(Vk h.rw h.rd ht hh a s).symm
theorem Inv.bad{W D:Bk}{C:List Po}(h:Inv W D C):D.bad=W.bad:=by
 obtain⟨X,ht,hh⟩:=h.held
 exact ht.bad
theorem Inv.nine{W D:Bk}{C:List Po}(h:Inv W D C)(hc:(iD C (cm (eX D))).2≠0):(iD C (cm (eX D))).2=9:=by
 obtain⟨X,ht,hh⟩:=h.held
 exact Jp hh.ia (pV _) hc
theorem se{b:Bk}(hr:aQ b=true):b.af.length≤64∧b.ai.length≤256∧b.ids.length≤256:=by
 have h:=(eO.1 hr).1
 exact⟨ly h.1,h.2.1,h.2.2.1⟩
theorem Xg(x:Int):1152921504606846976*x.tdiv 1152921504606846976+x.tmod 1152921504606846976=x:=Int.mul_tdiv_add_tmod x _
theorem OA(x:Int):-1152921504606846976<x.tmod 1152921504606846976∧x.tmod 1152921504606846976<1152921504606846976:=
 ⟨by have:=Int.lt_tmod_of_pos x (b:=1152921504606846976) (by decide);omega,Int.tmod_lt_of_pos x (by decide)⟩
theorem nM{l:List Int}{i:Nat}{x:Int}(hx:l[i]?=some x)(h:(l.take i).all aS=true)(h2:aS x=true):(l.take (i+1)).all aS=true:=by
 rw[cp hx,List.all_append,h];simp[h2]
theorem Jj{l:List Int}{i:Nat}(hi:l.length≤i)(h:(l.take i).all aS=true):l.all aS=true:=by rwa[List.take_of_length_le hi] at h
theorem tU{l:List Int}{i:Nat}{x:Int}(hx:l[i]?=some x):bp (l.take (i+1))=bp (l.take i)+x:=by rw[cp hx,lK];simp[bp]
theorem Uv{l:List Int}{i:Nat}(h:l.all aS=true)(hl:l.length≤1000000):-4611686018427387904000000≤bp (l.take i)∧bp (l.take i)≤4611686018427387904000000:=by
 have h2:(l.take i).all aS=true:=by
  rw[List.all_eq_true] at *
  exact fun y hy=>h y (List.mem_of_mem_take hy)
 have:=s5 h2
 have h3:(l.take i).length≤1000000:=by rw[List.length_take];omega
 omega
theorem PA{l:List Int}{u r:Int}{i:Nat}(hi:l.length≤i)(h:l.all aS=true)(e:u*1152921504606846976+r=bp (l.take i))(h1:-1152921504606846976<r)(h2:r<1152921504606846976)(hu:5<u∨u< -5):bu l=(0,false):=by
 rw[List.take_of_length_le hi] at e
 exact rJ h (rh.2 (by omega))
theorem Na{l:List Int}{u r:Int}{i:Nat}(hi:l.length≤i)(h:l.all aS=true)(e:u*1152921504606846976+r=bp (l.take i))(hn:aS (u*1152921504606846976+r)=false):bu l=(0,false):=by
 rw[List.take_of_length_le hi] at e
 exact rJ h (by rw[←e];exact hn)
theorem Ua{l:List Int}{u r:Int}{i:Nat}(hi:l.length≤i)(h:l.all aS=true)(e:u*1152921504606846976+r=bp (l.take i))(hn:aS (u*1152921504606846976+r)=true):bu l=(u*1152921504606846976+r,true):=by
 rw[List.take_of_length_le hi] at e
 rw[e] at *
 exact Av h hn
theorem FD{x y:Int}(hx:0<x)(hy:0<y):(4611686018427387904:Int).tdiv y<x↔4611686018427387904<x*y:=by
 rw[Int.tdiv_eq_ediv_of_nonneg (by decide)]
 constructor
 ·intro h
  by_cases c:4611686018427387904<x*y
  ·exact c
  ·have:=(Int.le_ediv_iff_mul_le hy).2 (show x*y≤4611686018427387904 by omega)
   omega
 ·intro h
  by_cases c:4611686018427387904/y<x
  ·exact c
  ·have:=(Int.le_ediv_iff_mul_le hy).1 (show x≤4611686018427387904/y by omega)
   omega
theorem uo{a b:Int}(h:aS a=false):bW a b=(0,false):=by unfold bW;rw[h];rfl
theorem sb{a b:Int}(h:aS b=false):bW a b=(0,false):=by unfold bW;rw[h];simp
theorem Ig{a b:Int}(ha:aS a=true)(hb:aS b=true)(h:a=0∨b=0):bW a b=(0,true):=by
 have e:a*b=0:=by rcases h with h|h<;>simp[h]
 unfold bW;rw[ha,hb,e];rfl
theorem qL{a b x y:Int}(ha:aS a=true)(hb:aS b=true)(hx:0<x)(hy:0<y)(hs:a*b=x*y∨a*b= -(x*y)):
 (IntKind.i64.wrap ((4611686018427387904:Int).tdiv y)<x→bW a b=(0,false))∧(¬IntKind.i64.wrap ((4611686018427387904:Int).tdiv y)<x→bW a b=(a*b,true)∧-4611686018427387904≤a*b∧a*b≤4611686018427387904∧IntKind.i64.wrap (x*y)=x*y∧IntKind.i64.wrap (0-x*y)= -(x*y)):=by
 have hw:IntKind.i64.wrap ((4611686018427387904:Int).tdiv y)=(4611686018427387904:Int).tdiv y:=by
  rw[Int.tdiv_eq_ediv_of_nonneg (by decide)]
  have h1:=Int.ediv_nonneg (a:=4611686018427387904) (b:=y) (by decide) (by omega)
  have h2:=Int.ediv_le_self (a:=4611686018427387904) y (by decide)
  exact aq (by omega) (by omega)
 rw[hw,FD hx hy]
 have hp:0<x*y:=Int.mul_pos hx hy
 generalize x*y=z at *
 generalize hab:a*b=w at *
 constructor
 ·intro h
  unfold bW
  rw[ha,hb,hab,rh.2 (by omega)];rfl
 ·intro h
  refine⟨?_,by omega,by omega,aq (by omega) (by omega),by rw[aq (by omega) (by omega)];omega⟩
  unfold bW
  rw[ha,hb,hab,ew.2 (by omega)];rfl
end Go.Bk
end
section
namespace Go.Proofs.YtajeeghgiilhiaaGreat
open Go Go.Abs Go.RowKit Go.Bk
theorem mc(n:Int):ae E 64 [i64 n] (fun r t=>r=bl (aS n)∧t=[]):=by
 refine ae.av (n:=9) (rs:=[.tmp 2]) Tryz.func64 rfl Tryz.ntmps64 rfl ?_
 repeat'(first
 |refine aa.ab fun K hK=>?_
 |(refine aa.region ?_;simp only[go_sem])
 |(refine hK _ ?_;clear hK K)
 |(refine aH.split (fun h=>?_) (fun h=>?_)<;>simp only[h,go_sem]<;>(try simp only[dD] at h))
 |(
  refine aa.ret ?_
  refine az.is ?_;simp only[go_sem,aB,aE,aF,aA,aC,aD]<;>(try((simp[aS, *]<;>omega)))))
theorem pY(l:List Int)(hl:l.length≤1000000):ae E 142 [.sl none 1 (l.map i64)] (fun r t=>r= .ax [i64 (bu l).1,bl (bu l).2]∧t=[]):=by
 refine ae.av (n:=67) (rs:=[.tmp 2,.tmp 3]) Tryz.func142 rfl Tryz.ntmps142 rfl ?_
 repeat'(first
 |refine aa.ab fun K hK=>?_
 |(
  refine aa.here 4 15 6 rfl ?_
  obtain⟨x,hx⟩:∃x,l[i]?=some x:=⟨_,List.getElem?_eq_getElem (by omega)⟩
  refine aa.region ?_;simp only[go_sem])
 |(
  refine aa.here 10 27 8 rfl ?_
  obtain⟨x,hx⟩:∃x,l[i]?=some x:=⟨_,List.getElem?_eq_getElem (by omega)⟩
  have hn:=ew.1 (List.all_eq_true.1 hall x (List.mem_of_getElem? hx))
  have q1:=Xg x
  have q2:=OA x
  have hw0:IntKind.i64.wrap (x.tdiv 1152921504606846976)=x.tdiv 1152921504606846976:=aq (by omega) (by omega)
  have hw1:IntKind.i64.wrap (u+x.tdiv 1152921504606846976)=u+x.tdiv 1152921504606846976:=aq (by omega) (by omega)
  have hw2:IntKind.i64.wrap (r+x.tmod 1152921504606846976)=r+x.tmod 1152921504606846976:=aq (by omega) (by omega)
  have hw3:IntKind.i64.wrap (u+x.tdiv 1152921504606846976+1)=u+x.tdiv 1152921504606846976+1:=aq (by omega) (by omega)
  have hw4:IntKind.i64.wrap (u+x.tdiv 1152921504606846976-1)=u+x.tdiv 1152921504606846976-1:=aq (by omega) (by omega)
  have hw5:IntKind.i64.wrap (r+x.tmod 1152921504606846976-1152921504606846976)=r+x.tmod 1152921504606846976-1152921504606846976:=aq (by omega) (by omega)
  have hw6:IntKind.i64.wrap (r+x.tmod 1152921504606846976+1152921504606846976)=r+x.tmod 1152921504606846976+1152921504606846976:=aq (by omega) (by omega)
  refine aa.region ?_;simp only[go_sem])
 |(
  refine aa.here 12 41 2 rfl ?_
  (try simp only[hw0,hw1,hw2,hw3,hw4,hw5,hw6])
  refine aa.region ?_;simp only[go_sem])
 |(
  refine aa.here 13 43 3 rfl ?_
  (try simp only[hw0,hw1,hw2,hw3,hw4,hw5,hw6])
  refine aa.region ?_;simp only[go_sem])
 |(
  refine aa.here 15 47 2 rfl ?_
  (try simp only[hw0,hw1,hw2,hw3,hw4,hw5,hw6])
  refine aa.region ?_;simp only[go_sem])
 |(
  refine aa.here 16 49 3 rfl ?_
  (try simp only[hw0,hw1,hw2,hw3,hw4,hw5,hw6])
  refine aa.region ?_;simp only[go_sem])
 |(refine aa.region ?_;simp only[go_sem])
 |(refine hK _ ?_;clear hK K)
 |refine aa.block ?_
 |refine aa.cond rfl (fun c=>?_) (fun c=>?_)<;>first|exact Bool.noConfusion c|(try simp only[dD] at c)
 |refine aa.skip ?_
 |(refine aa.exit ?_;simp only[go_sem])
 |(refine ah.one (mc x) (by kernel_rfl) rfl ?_;simp only[go_sem])
 |((rw[show IntKind.i64.wrap (u*1152921504606846976)=u*1152921504606846976 from aq (by omega) (by omega),aq (by omega) (by omega)]);refine ah.one (mc (u*1152921504606846976+r)) (by kernel_rfl) rfl ?_;simp only[go_sem])
 |(refine aH.bY (fun h=>?_) (fun h=>?_)<;>simp only[h,go_sem]<;>(try simp only[dD] at h))
 |(refine aG.bA (by assumption) ?_;(try simp only[go_sem]))
 |((with_reducible refine And.intro ?_ ?_);(focus((simp;done)));(try simp only[hb,go_sem]))
 |(
  refine aa.here 2 9 4 rfl ?_
  refine aa.cr (ι:=Nat) [2,3,9,10,11,12,13,14,15,16,17,18,19,20] (fun(i:Nat)=>[(4,i64 i)]) (fun(i:Nat)=>i≤l.length∧(l.take i).all aS=true) (fun(i:Nat)=>l.length-i) (0) ?_ ?_ ?_
  ·(try simp only[go_sem]);(repeat'(first|fail));done
  ·exact⟨Nat.zero_le _,by simp⟩
  rintro i ⟨h1,h2⟩
  simp only[go_sem])
 |(
  refine aa.here 8 21 4 rfl ?_
  refine aa.cr (ι:=Nat×Int×Int) [21,22,23,24,25,26,27,28,29,30,31,32,33,34,35,36,37,38,39,40,41,42,43,44,45,46,47,48,49,50,51,52] (fun⟨i,u,r⟩=>[(5,i64 u),(6,i64 r),(7,i64 i)]) (fun⟨i,u,r⟩=>i≤l.length∧u*1152921504606846976+r=bp (l.take i)∧-1152921504606846976<r∧r<1152921504606846976) (fun⟨i,u,r⟩=>l.length-i) ((0,0,0)) ?_ ?_ ?_
  ·(try simp only[go_sem]);(repeat'(first|fail));done
  ·exact⟨by omega,by simp[bp],by omega,by omega⟩
  rintro⟨i,u,r⟩ ⟨g1,g2,g3,g4⟩
  simp only[go_sem]
  have hall:=Jj (by omega) h2
  have hsp:=Uv (i:=i) hall hl)
 |(
  refine⟨i+1,?_,?_,?_⟩
  ·(try simp only[go_sem]);(try rw[aq (by omega) (by omega)]);(repeat'(exact .inr rfl));done
  ·exact⟨by omega,nM hx h2 (by assumption)⟩
  ·(try simp only[]);omega)
 |(
  first
  |(refine⟨(i+1,u+x.tdiv 1152921504606846976,r+x.tmod 1152921504606846976),?_,⟨by show i+1≤l.length;omega,by show(u+x.tdiv 1152921504606846976)*1152921504606846976+(r+x.tmod 1152921504606846976)=_;rw[tU hx];omega,by show -1152921504606846976<r+x.tmod 1152921504606846976;omega,by show r+x.tmod 1152921504606846976<1152921504606846976;omega⟩,by show l.length-(i+1)<l.length-i;omega⟩
    (try simp only[go_sem,hw0,hw1,hw2,hw3,hw4,hw5,hw6]);(try rw[aq (by omega) (by omega)]);(repeat'(first|refine And.intro ?_ ?_|exact .inr rfl|(simp;done)));done)
  |(refine⟨(i+1,u+x.tdiv 1152921504606846976+1,r+x.tmod 1152921504606846976-1152921504606846976),?_,⟨by show i+1≤l.length;omega,by show(u+x.tdiv 1152921504606846976+1)*1152921504606846976+(r+x.tmod 1152921504606846976-1152921504606846976)=_;rw[tU hx];omega,by show -1152921504606846976<r+x.tmod 1152921504606846976-1152921504606846976;omega,by show r+x.tmod 1152921504606846976-1152921504606846976<1152921504606846976;omega⟩,by show l.length-(i+1)<l.length-i;omega⟩
    (try simp only[go_sem,hw0,hw1,hw2,hw3,hw4,hw5,hw6]);(try rw[aq (by omega) (by omega)]);(repeat'(first|refine And.intro ?_ ?_|exact .inr rfl));done)
  |(refine⟨(i+1,u+x.tdiv 1152921504606846976-1,r+x.tmod 1152921504606846976+1152921504606846976),?_,⟨by show i+1≤l.length;omega,by show(u+x.tdiv 1152921504606846976-1)*1152921504606846976+(r+x.tmod 1152921504606846976+1152921504606846976)=_;rw[tU hx];omega,by show -1152921504606846976<r+x.tmod 1152921504606846976+1152921504606846976;omega,by show r+x.tmod 1152921504606846976+1152921504606846976<1152921504606846976;omega⟩,by show l.length-(i+1)<l.length-i;omega⟩
    (try simp only[go_sem,hw0,hw1,hw2,hw3,hw4,hw5,hw6]);(try rw[aq (by omega) (by omega)]);(repeat'(first|refine And.intro ?_ ?_|exact .inr rfl));done)
  |(exfalso;omega))
 |(
  refine aa.ret ?_
  refine az.is ?_;simp only[go_sem,aB,aE,aF,aA,aC,aD]<;>(try((first|(rw[zR hx (by simp_all;done)];exact⟨rfl,rfl⟩)|(rw[PA (by omega) hall g2 g3 g4 (by omega)];(exact⟨rfl,rfl⟩))|(rw[Na (by omega) hall g2 (by simp_all;done)];(exact⟨rfl,rfl⟩))|(rw[Ua (by omega) hall g2 (by simp_all;done)];(exact⟨rfl,rfl⟩))))))
 |refine aa.fin (by assumption) ?_)
theorem ym(a b:Int):ae E 143 [i64 a,i64 b] (fun r t=>r= .ax [i64 (bW a b).1,bl (bW a b).2]∧t=[]):=by
 refine ae.av (n:=57) (rs:=[.tmp 4,.tmp 5]) Tryz.func143 rfl Tryz.ntmps143 rfl ?_
 repeat'(first
 |refine aa.ab fun K hK=>?_
 |(
  refine aa.here 5 22 4 rfl ?_
  have ha:aS a=true:=by simp_all
  have hb:aS b=true:=by simp_all
  have ha2:=ew.1 ha
  have hb2:=ew.1 hb
  refine aa.region ?_;simp only[go_sem])
 |(
  refine aa.here 10 32 4 rfl ?_
  (repeat rw[aq (by omega) (by omega)])
  first
  |(have hq:a*b=a*b:=rfl;have hg:=qL ha hb (x:=a) (y:=b) (by omega) (by omega) (.inl rfl))
  |(have hq:a*b= -((0-a)*b):=(by rw[Int.zero_sub,Int.neg_mul,Int.neg_neg]);have hg:=qL ha hb (x:=0-a) (y:=b) (by omega) (by omega) (.inr hq))
  |(have hq:a*b= -(a*(0-b)):=(by rw[Int.zero_sub,Int.mul_neg,Int.neg_neg]);have hg:=qL ha hb (x:=a) (y:=0-b) (by omega) (by omega) (.inr hq))
  |(have hq:a*b=(0-a)*(0-b):=(by rw[Int.zero_sub,Int.zero_sub,Int.neg_mul_neg]);have hg:=qL ha hb (x:=0-a) (y:=0-b) (by omega) (by omega) (.inl hq))
  refine aa.region ?_;simp only[go_sem])
 |(refine aa.region ?_;simp only[go_sem])
 |(refine hK _ ?_;clear hK K)
 |refine aa.cond rfl (fun c=>?_) (fun c=>?_)<;>first|exact Bool.noConfusion c|(try simp only[dD] at c)
 |refine aa.skip ?_
 |(refine ah.one (mc a) (by kernel_rfl) rfl ?_;simp only[go_sem])
 |(refine ah.one (mc b) (by kernel_rfl) rfl ?_;simp only[go_sem])
 |(refine aH.bY (fun h=>?_) (fun h=>?_)<;>simp only[h,go_sem]<;>(try simp only[dD] at h))
 |(refine aH.split (fun h=>?_) (fun h=>?_)<;>simp only[h,go_sem]<;>(try simp only[dD] at h))
 |((with_reducible refine And.intro ?_ ?_);(focus(omega));(try simp only[hb,go_sem]))
 |(
  refine aa.ret ?_
  refine az.is ?_;simp only[go_sem,aB,aE,aF,aA,aC,aD]<;>(try((first|(rw[uo ‹aS a=false›];(exact⟨rfl,rfl⟩))|(rw[sb ‹aS b=false›];(exact⟨rfl,rfl⟩))|(rw[Ig ‹aS a=true› ‹aS b=true› (by omega)];(exact⟨rfl,rfl⟩))|(rw[hg.1 (by assumption)];(exact⟨rfl,rfl⟩))|(have hz:=hg.2 (by assumption);rw[hz.1];refine⟨?_,rfl⟩;show _=a*b;rw[hz.2.2.2.1];first|done|exact hq.symm|(rw[hz.2.2.2.2];exact hq.symm))|(exfalso;omega))))))
end Go.Proofs.YtajeeghgiilhiaaGreat
end
section
namespace Go.Bk
open Go Go.Abs
theorem vO(x y:Po):aJ x y=(decide (x.acc<y.acc)||(decide (x.acc=y.acc)&&decide (x.sym<y.sym))):=by
 have h:=oU (a:=aI x) (b:=aI y)
 unfold aJ
 rw[Bool.eq_iff_iff,h]
 simp[aI]
def ir(p:Po)(s:List Po×Bool)(e:Po):List Po×Bool:=if s.2=false∧aJ p e=true then(s.1++[p]++[e],true) else(s.1++[e],s.2)
def fN(p:Po)(l:List Po):List Po×Bool:=l.foldl (ir p) ([],false)
def jP(n:Nm)(l:List Po):Bool:=l.any fun e=>decide (aI e=n)
def eS(l:List Po)(p:Po):List Po:=if jP (aI p) l then l else if(fN p l).2 then(fN p l).1 else(fN p l).1++[p]
theorem yV{p x:Po}{l:List Po}{i:Nat}(hx:l[i]?=some x):fN p (l.take (i+1))=ir p (fN p (l.take i)) x:=by
 unfold fN;rw[cp hx,List.foldl_append];rfl
theorem qp(p:Po):∀(l:List Po) (s:List Po×Bool),(s.2=true→l.foldl (ir p) s=(s.1++l,true))∧(s.2=false→∃a b,l=a++b∧(∀e∈a,aJ p e=false)∧((b=[]∧l.foldl (ir p) s=(s.1++l,false))∨(∃e c,b=e::c∧aJ p e=true∧l.foldl (ir p) s=(s.1++a++p::b,true))))
 |[],s=>⟨fun h=>by simp[←h],fun h=>⟨[],[],rfl,by simp,.inl ⟨rfl,by simp[←h]⟩⟩⟩
 |x::l,s=>by
  constructor
  ·intro h
   rw[List.foldl_cons]
   have e:ir p s x=(s.1++[x],true):=by unfold ir;rw[if_neg (by simp[h]),h]
   rw[e,((qp p l _).1 rfl)];simp
  ·intro h
   rw[List.foldl_cons]
   cases c:aJ p x with
   |true=>
    have e:ir p s x=(s.1++[p]++[x],true):=by unfold ir;rw[if_pos ⟨h,c⟩]
    refine⟨[],x::l,rfl,by simp,.inr ⟨x,l,rfl,c,?_⟩⟩
    rw[e,((qp p l _).1 rfl)];simp
   |false=>
    have e:ir p s x=(s.1++[x],false):=by unfold ir;rw[if_neg (by simp[c]),h]
    rw[e]
    obtain⟨a,b,h1,h2,h3⟩:=(qp p l (s.1++[x],false)).2 rfl
    refine⟨x::a,b,by rw[h1];rfl,fun y hy=>by rcases List.mem_cons.1 hy with rfl|hy;exact c;exact h2 y hy,?_⟩
    rcases h3 with⟨h4,h5⟩|⟨e',c',h4,h5,h6⟩
    ·exact .inl ⟨h4,by rw[h5];simp⟩
    ·exact .inr ⟨e',c',h4,h5,by rw[h6];simp⟩
theorem rD{l:List Po}{p:Po}(h:jP (aI p) l=true):eS l p=l:=by unfold eS;rw[if_pos h]
theorem uQ{l:List Po}{p:Po}(h:jP (aI p) l=false):∃a b,l=a++b∧(∀e∈a,aJ p e=false)∧(∀e c,b=e::c→aJ p e=true)∧eS l p=a++p::b:=by
 unfold eS fN
 rw[if_neg (by simp[h])]
 obtain⟨a,b,h1,h2,h3⟩:=(qp p l ([],false)).2 rfl
 rcases h3 with⟨h4,h5⟩|⟨e,c,h4,h5,h6⟩
 ·subst h4
  refine⟨a,[],h1,h2,by simp,?_⟩
  rw[h5];simp[h1]
 ·refine⟨a,b,h1,h2,fun e' c' e2=>by rw[h4] at e2;cases e2;exact h5,?_⟩
  rw[h6];simp
theorem S1{l:List Po}{p:Po}(hr:hZ l):hZ (eS l p):=by
 cases h:jP (aI p) l with
 |true=>rw[rD h];exact hr
 |false=>
  obtain⟨a,b,h1,h2,h3,h4⟩:=uQ h
  rw[h4]
  rw[h1] at hr
  unfold hZ at *
  rw[List.pairwise_append] at hr ⊢
  obtain⟨r1,r2,r3⟩:=hr
  have hne:∀e∈l,aI e≠aI p:=fun e he e2=>by
   have:=List.any_eq_false.1 h e he
   simp[e2] at this
  refine⟨r1,List.pairwise_cons.2 ⟨fun q hq=>?_,r2⟩,fun x hx y hy=>?_⟩
  ·cases b with
   |nil=>simp at hq
   |cons e c=>
    have h5:=h3 e c rfl
    rcases List.mem_cons.1 hq with rfl|hq
    ·exact h5
    ·exact kU h5 ((List.pairwise_cons.1 r2).1 q hq)
  ·rcases List.mem_cons.1 hy with rfl|hy
   ·rcases lg (aI x) (aI y) with h5|h5|h5
    ·exact h5
    ·exact absurd h5 (hne x (by rw[h1];exact List.mem_append_left _ hx))
    ·have:=h2 x hx;unfold aJ at this;rw[h5] at this;exact absurd this (by simp)
   ·exact r3 x hx y hy
theorem QK{l:List Po}{p:Po}(q:Po):q∈eS l p↔q∈l∨(q=p∧jP (aI p) l=false):=by
 cases h:jP (aI p) l with
 |true=>rw[rD h];simp
 |false=>
  obtain⟨a,b,h1,h2,h3,h4⟩:=uQ h
  rw[h4,h1]
  simp only[List.mem_append,List.mem_cons,and_true]
  constructor
  ·rintro(h|h|h)
   ·exact .inl (.inl h)
   ·exact .inr h
   ·exact .inl (.inr h)
  ·rintro((h|h)|h)
   ·exact .inl h
   ·exact .inr (.inr h)
   ·exact .inr (.inl h)
theorem Oc(l:List Po)(p:Po):(eS l p).length≤l.length+1:=by
 cases h:jP (aI p) l with
 |true=>rw[rD h];omega
 |false=>
  obtain⟨a,b,h1,_,_,h4⟩:=uQ h
  rw[h4,h1];simp;omega
def fI(g:Nm→Po)(ns:List Nm):List Po:=ns.foldl (fun l n=>eS l (g n)) []
theorem Qk{g:Nm→Po}{ns:List Nm}{i:Nat}{n:Nm}(h:ns[i]?=some n):fI g (ns.take (i+1))=eS (fI g (ns.take i)) (g n):=by
 unfold fI;rw[cp h,List.foldl_append];rfl
theorem s7{g:Nm→Po}(hg:∀n,aI (g n)=n):∀(ns:List Nm) (l:List Po),hZ l→(∀q∈l,q=g (aI q))→hZ (ns.foldl (fun l n=>eS l (g n)) l)∧(∀q,q∈ns.foldl (fun l n=>eS l (g n)) l↔q∈l∨∃n∈ns,q=g n)
 |[],l,hr,hl=>⟨hr,fun q=>by simp⟩
 |n::ns,l,hr,hl=>by
  rw[List.foldl_cons]
  have hp:∀q,q∈eS l (g n)↔q∈l∨q=g n:=fun q=>by
   rw[QK]
   constructor
   ·rintro(h|h)
    ·exact .inl h
    ·exact .inr h.1
   ·rintro(h|h)
    ·exact .inl h
    ·cases c:jP (aI (g n)) l with
     |false=>exact .inr ⟨h,rfl⟩
     |true=>
      obtain⟨e,he,e2⟩:=List.any_eq_true.1 c
      have e2:aI e=aI (g n):=by simpa using e2
      have e3:=hl e he
      rw[e2,hg] at e3
      rw[h,←e3];exact .inl he
  obtain⟨h1,h2⟩:=s7 hg ns (eS l (g n)) (S1 hr) (fun q hq=>by
   rcases(hp q).1 hq with h|h
   ·exact hl q h
   ·rw[h,hg])
  refine⟨h1,fun q=>(h2 q).trans ?_⟩
  rw[hp]
  simp only[List.mem_cons,exists_eq_or_imp,or_assoc]
theorem AA{g:Nm→Po}(hg:∀n,aI (g n)=n)(ns:List Nm):hZ (fI g ns):=(s7 hg ns [] List.Pairwise.nil (by simp)).1
theorem yd{g:Nm→Po}(hg:∀n,aI (g n)=n)(ns:List Nm)(q:Po):q∈fI g ns↔∃n∈ns,q=g n:=by
 have:=(s7 hg ns [] List.Pairwise.nil (by simp)).2 q
 simpa[fI] using this
theorem A2(g:Nm→Po)(ns:List Nm):(fI g ns).length≤ns.length:=by
 have:∀(ns:List Nm) (l:List Po),(ns.foldl (fun l n=>eS l (g n)) l).length≤l.length+ns.length:=by
  intro ns
  induction ns with
  |nil=>intro l;simp
  |cons n ns ih=>intro l;rw[List.foldl_cons];have:=ih (eS l (g n));have:=Oc l (g n);simp only[List.length_cons];omega
 simpa[fI] using this ns []
theorem HA{b:Bk}(hr:aQ b=true):fI (fun n=>cz b n.1 n.2) (dS b)=cm b:=by
 have hg:∀n:Nm,aI (cz b n.1 n.2)=n:=fun n=>nE b n.1 n.2
 refine vC (AA hg _) (oG (pV b)) fun q=>?_
 rw[yd hg]
 unfold cm
 rw[if_pos hr,List.mem_map]
 constructor
 ·rintro⟨n,h1,h2⟩;exact⟨n,pS.2 (ri.2 h1),h2.symm⟩
 ·rintro⟨n,h1,h2⟩;exact⟨n,ri.1 (pS.1 h1),h2.symm⟩
theorem DK{ls:List (List Po)}(h:ls.all ck=true):fI (dR ls.flatten) (ls.flatten.map aI)=(dv ls).1:=by
 have hg:∀n:Nm,aI (dR ls.flatten n)=n:=fun n=>l9
 refine iI.uniq ⟨AA hg _,fun q=>?_⟩ (sj h)
 rw[yd hg]
 constructor
 ·rintro⟨n,h1,rfl⟩
  obtain⟨y,hy,rfl⟩:=List.mem_map.1 h1
  exact⟨⟨y,hy,by rw[l9]⟩,by rw[l9]⟩
 ·rintro⟨⟨y,hy,e⟩,h2⟩
  exact⟨aI q,List.mem_map.2 ⟨y,hy,e⟩,h2⟩
end Go.Bk
end
section
namespace Go.Proofs.YtajeeghgiilhiaaGreat
open Go Go.Abs Go.RowKit Go.Bk
theorem mf{α:Type}{l:List α}{i:Nat}{x:α}(h:l[i]?=some x):l.set i x=l:=by
 obtain⟨hi,rfl⟩:=List.getElem?_eq_some_iff.1 h
 exact List.set_getElem_self hi
def aO(d:Array Po)(m:Nat):List AV:=d.toList.map bD++spare 5 m
theorem eQ{d:Array Po}{m i:Nat}(h:i<d.size):(aO d m)[i]?=some (bD d[i]!):=by
 unfold aO
 rw[List.getElem?_append_left (by simpa using h),List.getElem?_map,Array.getElem?_toList,Array.getElem?_eq_getElem h,getElem!_pos d i h];rfl
theorem oa{d:Array Po}{m i:Nat}{x:Po}(h:i<d.size):(aO d m).set i (bD x)=aO (d.setIfInBounds i x) m:=by
 unfold aO
 rw[List.set_append_left _ _ (by simpa using h),Array.toList_setIfInBounds,List.map_set]
theorem qu{d:Array Po}{m i j:Nat}(hi:i<d.size)(hj:j<d.size):((aO d m).set i (bD d[j]!)).set j (bD d[i]!)=aO (Go.Sort.swp d i j) m:=by
 rw[oa hi,oa (by rw[Array.size_setIfInBounds];exact hj)];rfl
theorem mb{no nt:Nat}(d:Array Po)(m:Nat):∀e∈aO d m,∀z∈e.leaves,z.bF no nt=true:=by
 unfold aO
 exact lO (f:=bD) (l:=d.toList) (fun x z hz=>by
  simp only[AV.leaves,List.mem_cons,List.not_mem_nil,or_false] at hz
  rcases hz with rfl|rfl|rfl|rfl|rfl<;>rfl) _ rfl
section
variable{u v n i j lo hi mi:Nat}{d:Array Po}
theorem Xb(h:i<n):Go.Stb.dM u v n i d=Go.Stb.dM u v n (i+1) (Go.Sort.swp d (u+i) (v+i)):=by
 rw[Go.Stb.dM,if_pos h]
theorem OV(h:n≤i):Go.Stb.dM u v n i d=d:=by
 rw[Go.Stb.dM,if_neg (by omega)]
theorem KG(h1:0<j)(h:j<i):Go.Stb.ed mi i j d=Go.Stb.ed mi (i-j) j (Go.Stb.dM (mi-i) mi j 0 d):=by
 rw[Go.Stb.ed,dif_neg (by omega),if_neg (by omega),if_pos h]
theorem CJ(h1:0<i)(h:i<j):Go.Stb.ed mi i j d=Go.Stb.ed mi i (j-i) (Go.Stb.dM (mi-i) (mi+j-i) i 0 d):=by
 rw[Go.Stb.ed,dif_neg (by omega),if_neg (by omega),if_neg (by omega)]
theorem GL(h1:0<i)(h:i=j):Go.Stb.ed mi i j d=Go.Stb.dM (mi-i) mi i 0 d:=by
 rw[Go.Stb.ed,dif_neg (by omega),if_pos h]
theorem Li(h:i<hi):Go.Sort.insOuter aJ lo hi i d=Go.Sort.insOuter aJ lo hi (i+1) (Go.Sort.insInner aJ lo i d):=by
 rw[Go.Sort.insOuter,if_pos h]
theorem QR(h:hi≤i):Go.Sort.insOuter aJ lo hi i d=d:=by
 rw[Go.Sort.insOuter,if_neg (by omega)]
theorem Gk(h:j≤lo):Go.Sort.insInner aJ lo j d=d:=by
 cases j with
 |zero=>rfl
 |succ j=>rw[Go.Sort.insInner,if_neg (by simp;omega)]
theorem qC{p q:Po}:aJ p q=true↔ee (aI p) (aI q)<0:=by unfold aJ cR;exact decide_eq_true_iff
theorem Sj(h:¬ee (aI d[j]!) (aI d[j-1]!)<0):Go.Sort.insInner aJ lo j d=d:=by
 cases j with
 |zero=>rfl
 |succ j=>
  rw[Go.Sort.insInner,if_neg]
  rw[←qC] at h
  simp only[Nat.add_sub_cancel] at h
  simp[h]
theorem Eh(h:lo<j)(hl:ee (aI d[j]!) (aI d[j-1]!)<0):Go.Sort.insInner aJ lo j d=Go.Sort.insInner aJ lo (j-1) (Go.Sort.swp d j (j-1)):=by
 cases j with
 |zero=>omega
 |succ j=>
  rw[←qC] at hl
  simp only[Nat.add_sub_cancel] at hl ⊢
  rw[Go.Sort.insInner,if_pos (by simp[hl];omega)]
end
theorem Ou(x y:Int):ae E 131 [.sl none 1 [i64 x,i64 y]] (fun r t=>r=i64 (if x≠0 then x else y)∧t=[]):=by
 refine ae.av (n:=18) (rs:=[.tmp 2]) Tryz.func131 rfl Tryz.ntmps131 rfl ?_
 repeat'(first
 |refine aa.ab fun K hK=>?_
 |(
  refine aa.here 4 10 3 rfl ?_
  obtain⟨z,hz2,hzz⟩:∃z,([i64 x,i64 y]:List AV)[i]?=some (i64 z)∧(i=0∧z=x∨i=1∧z=y):=by
   rcases i with _|_|i
   ·exact⟨x,rfl,.inl ⟨rfl,rfl⟩⟩
   ·exact⟨y,rfl,.inr ⟨rfl,rfl⟩⟩
   ·exfalso;omega
  refine aa.region ?_;simp only[go_sem,hz2])
 |(refine aa.region ?_;simp only[go_sem])
 |(refine hK _ ?_;clear hK K)
 |refine aa.block ?_
 |refine aa.cond rfl (fun c=>?_) (fun c=>?_)<;>(try simp only[dD] at c)
 |refine aa.skip ?_
 |(refine aa.exit ?_;simp only[go_sem])
 |((with_reducible refine And.intro ?_ ?_);(focus((simp;done)));(try simp only[hb,go_sem]))
 |(
  refine aa.here 3 9 1 rfl ?_
  refine aa.cr (ι:=Nat) [2,5,9,10,11,12,13,14,15,16] (fun(i:Nat)=>[(8,i64 i)]) (fun(i:Nat)=>i≤2∧(0<i→x=0)∧(1<i→y=0)) (fun(i:Nat)=>2-i) (0) ?_ ?_ ?_
  ·(try simp only[go_sem]);(repeat'(first|fail));done
  ·exact⟨by omega,by omega,by omega⟩
  rintro i ⟨h1,h2,h3⟩
  simp only[go_sem])
 |(
  refine⟨i+1,?_,?_,?_⟩
  ·(try simp only[go_sem]);(try rw[aq (by omega) (by omega)]);(repeat'(exact .inr rfl));done
  ·(rcases hzz with⟨rfl,rfl⟩|⟨rfl,rfl⟩<;>exact⟨by omega,by intros;first|assumption|omega,by intros;first|assumption|omega⟩)
  ·(try simp only[]);omega)
 |(
  refine aa.ret ?_
  refine az.is ?_;simp only[go_sem,aB,aE,aF,aA,aC,aD]<;>(first|(rcases hzz with⟨rfl,rfl⟩|⟨rfl,rfl⟩<;>simp_all;done)|(have e1:=h2 (by omega);have e2:=h3 (by omega);subst e1;subst e2;rfl)))
 |refine aa.fin (by assumption) ?_)
theorem rL(p q:Po):ae E 104 [bD p,bD q] (fun r t=>r=i64 (ee (aI p) (aI q))∧t=[]):=by
 refine ae.av (n:=17) (rs:=[.tmp 4]) Tryz.func104 rfl Tryz.ntmps104 rfl ?_
 repeat'(first
 |refine aa.ab fun K hK=>?_
 |(refine aa.region ?_;simp only[go_sem])
 |(refine aa.here 1 5 13 rfl ?_;refine aa.bc [0,1,2,3,5,6,7,8,4,9,10,11,12] [] (by kernel_rfl) (by kernel_rfl) rfl ?_;simp only[go_sem])
 |(refine hK _ ?_;clear hK K)
 |(refine ah.one (sR p.acc q.acc) (by kernel_rfl) rfl ?_;simp only[go_sem])
 |(refine ah.one (sR p.sym q.sym) (by kernel_rfl) rfl ?_;simp only[go_sem])
 |(refine ah.one (Ou (gk p.acc q.acc) (gk p.sym q.sym)) (by kernel_rfl) rfl ?_;simp only[go_sem])
 |(
  refine aa.ret ?_
  refine az.is ?_;simp only[go_sem,aB,aE,aF,aA,aC,aD]<;>(rfl)))
set_option maxRecDepth 100000 in
theorem uf{ops:Array Oper}{l0:List Oper}{Q:Exit→St→Prop}{tmps up:List AV}{gl:Nat→Option (List AV)}{own:List (Option (List AV))}{tk:List Nat}{dst:Option Tmp}{x0 x1 x2 x3 x4:Operand}{tys:Array TypeId}{ty:TypeId}{pos:String}{after:Array Edge}{id m N:Nat}{d:Array Po}{u v n:Nat}
 (hx0:St.ev ⟨tmps,own,tk,gl,none,up⟩ x0= .mu id 5 0 N (N+m))
 (hx1:St.ev ⟨tmps,own,tk,gl,none,up⟩ x1=i64 (u:Int))
 (hx2:St.ev ⟨tmps,own,tk,gl,none,up⟩ x2=i64 (v:Int))
 (hx3:St.ev ⟨tmps,own,tk,gl,none,up⟩ x3=i64 (n:Int))
 (hx4:St.ev ⟨tmps,own,tk,gl,none,up⟩ x4= .fn 104 [])
 (ho:own[id]?=some (some (aO d m)))
 (hbu:(tmps++up).all (AV.bF own.length tk.length)=true)
 (hbo:bm own own.length tk.length)
 (hl:N≤1000000)
 (hN:d.size=N)
 (hu:u+n≤N)
 (hv:v+n≤N)
 (hend:aj E ops l0 Q (St.put ⟨tmps,own.set id (some (aO (Go.Stb.dM u v n 0 d) m)),tk,gl,none,up⟩ dst (.ax []))):aj E ops (⟨dst,.call ⟨.value (.func 259),#[x0,x1,x2,x3,x4],tys⟩,ty,pos,after,none⟩::l0) Q ⟨tmps,own,tk,gl,none,up⟩:=by
 have hid:=bE ho
 obtain⟨ow,how⟩:∃ow:List (Option (List AV)),own=ow.set id (some (aO d m)):=⟨own,(mf ho).symm⟩
 subst how
 rw[List.length_set] at hid
 have hob:∀d':Array Po,bm (ow.set id (some (aO d' m))) ow.length tk.length:=fun d'=>by
  have:=hbo.set (id:=id) (mb d' m);rwa[List.set_set,List.length_set] at this
 have hob2:∀d':Array Po,bm (ow.set id (some (aO d' m))) (ow.set id (some (aO d' m))).length tk.length:=fun d'=>by rw[List.length_set];exact hob d'
 rw[List.length_set] at hbu
 simp only[List.set_set] at hend
 refine aj.call (caps:=[]) (rs:=[]) Tryz.func259 rfl Tryz.ntmps259 rfl (by kernel_rfl) rfl rfl ?_
 show aa E _ _ ⟨([St.ev _ x0,St.ev _ x1,St.ev _ x2,St.ev _ x3,St.ev _ x4]++[])++List.replicate (38-5) (.v undef),_,tk,gl,none,tmps++up⟩
 rw[hx0,hx1,hx2,hx3,hx4]
 have hBn:∀(tm:List AV) (d':Array Po),d'=Go.Stb.dM u v n 0 d→bG E.P [] ⟨tmps,ow.set id (some (aO d m)),tk,gl,none,up⟩ (fun s z=>aj E ops l0 Q (s.put dst z)) .normal ⟨tm,ow.set id (some (aO d' m)),tk,gl,none,tmps++up⟩:=fun tm d' e=>by subst e;exact⟨rfl,hend⟩
 have hBr:∀(tm:List AV) (d':Array Po),d'=Go.Stb.dM u v n 0 d→bG E.P [] ⟨tmps,ow.set id (some (aO d m)),tk,gl,none,up⟩ (fun s z=>aj E ops l0 Q (s.put dst z)) .ret ⟨tm,ow.set id (some (aO d' m)),tk,gl,none,tmps++up⟩:=fun tm d' e=>by subst e;exact⟨rfl,hend⟩
 generalize bG E.P [] ⟨tmps,ow.set id (some (aO d m)),tk,gl,none,up⟩ (fun s z=>aj E ops l0 Q (s.put dst z))=Q1 at hBn hBr ⊢
 generalize tmps++up=up' at hbu hBn hBr ⊢
 clear hend ho hbo hx0 hx1 hx2 hx3 hx4
 have hset:∀x,(ow.set id x)[id]?=some x:=fun x=>List.getElem?_set_self hid
 repeat'(first
 |refine aa.ab fun K hK=>?_
 |(
  refine aa.here 3 16 24 rfl ?_
  have w1:IntKind.i64.wrap ((u:Int)+i)=((u+i:Nat):Int):=by rw[aq (by omega) (by omega)];omega
  have w2:IntKind.i64.wrap ((v:Int)+i)=((v+i:Nat):Int):=by rw[aq (by omega) (by omega)];omega
  have g1:(aO e m)[u+i]?=some (bD e[u+i]!):=eQ (by omega)
  have g2:(aO e m)[v+i]?=some (bD e[v+i]!):=eQ (by omega)
  have g3:((aO e m).set (u+i) (bD e[v+i]!))[v+i]?=some (bD (e.setIfInBounds (u+i) e[v+i]!)[v+i]!):=by rw[oa (by omega)];exact eQ (by rw[Array.size_setIfInBounds];omega)
  have g4:((aO e m).set (u+i) (bD e[v+i]!)).set (v+i) (bD e[u+i]!)=aO (Go.Sort.swp e (u+i) (v+i)) m:=qu (by omega) (by omega)
  refine aa.bc [0,1,2,3,4,5,6,7,8,9,10,11,12,13,14,15,16,17,18,19,20,21,22,23] [] (by kernel_rfl) (by kernel_rfl) rfl ?_;simp only[go_sem,hset,List.set_set,List.length_set,w1,w2,g1,g2,g3,g4,Int.toNat_natCast,hset,List.set_set])
 |(refine aa.region ?_;simp only[go_sem,hset,List.set_set,List.length_set])
 |(refine hK _ ?_;clear hK K)
 |refine aa.block ?_
 |refine aa.cond rfl (fun c=>?_) (fun c=>?_)<;>(try simp only[dD] at c)
 |refine aa.skip ?_
 |(refine aa.exit ?_;simp only[go_sem,hset,List.set_set,List.length_set])
 |((with_reducible refine And.intro ?_ ?_);(focus(omega));(try simp only[hb,go_sem,hset,List.set_set,List.length_set]))
 |(
  refine aa.here 1 11 3 rfl ?_
  refine aa.b6 (ι:=Nat×Array Po) [11,12,13,14,15,16,17,18,19,20,21,22,23,24,25,26,27,28,29,30,31,32,33,34,35,36,37] (fun⟨i,e⟩=>[(10,i64 i)]) (fun⟨i,e⟩=>ow.set id (some (aO e m))) (fun⟨i,e⟩=>tk) (fun⟨i,e⟩=>i≤n∧e.size=N∧Go.Stb.dM u v n i e=Go.Stb.dM u v n 0 d) (fun⟨i,e⟩=>n-i) ((0,d)) ?_ ?_ ?_
  ·(try simp only[go_sem]);(try simp only[List.set_set,List.length_set]);(repeat'(first|assumption|exact bm.wk (hob _)|exact cY|exact .inr (decide_eq_true hid)|refine And.intro ?_ ?_));done
  ·exact⟨by omega,hN,rfl⟩
  rintro⟨i,e⟩ ⟨h1,h2,h3⟩
  simp only[go_sem,hset,List.set_set,List.length_set])
 |(
  refine⟨(i+1,Go.Sort.swp e (u+i) (v+i)),?_,?_,?_⟩
  ·(try simp only[go_sem]);(try rw[aq (by omega) (by omega)]);(try simp only[List.set_set,List.length_set]);(repeat'(first|assumption|exact bm.wk (hob _)|exact cY|exact .inr (decide_eq_true hid)|refine And.intro ?_ ?_|exact .inr rfl));done
  ·(try dsimp only);exact⟨by omega,by rw[Go.Sort.swp_size];exact h2,(Xb (by omega)).symm.trans h3⟩
  ·(try simp only[]);omega)
 |(exact hBn _ _ (by rw[←h3,OV (by omega)])))
set_option maxRecDepth 100000 in
theorem DJ{ops:Array Oper}{l0:List Oper}{Q:Exit→St→Prop}{tmps up:List AV}{gl:Nat→Option (List AV)}{own:List (Option (List AV))}{tk:List Nat}{dst:Option Tmp}{x0 x1 x2 x3 x4:Operand}{tys:Array TypeId}{ty:TypeId}{pos:String}{after:Array Edge}{id m N:Nat}{d:Array Po}{lo mi hi:Nat}
 (hx0:St.ev ⟨tmps,own,tk,gl,none,up⟩ x0= .mu id 5 0 N (N+m))
 (hx1:St.ev ⟨tmps,own,tk,gl,none,up⟩ x1=i64 (lo:Int))
 (hx2:St.ev ⟨tmps,own,tk,gl,none,up⟩ x2=i64 (mi:Int))
 (hx3:St.ev ⟨tmps,own,tk,gl,none,up⟩ x3=i64 (hi:Int))
 (hx4:St.ev ⟨tmps,own,tk,gl,none,up⟩ x4= .fn 104 [])
 (ho:own[id]?=some (some (aO d m)))
 (hbu:(tmps++up).all (AV.bF own.length tk.length)=true)
 (hbo:bm own own.length tk.length)
 (hl:N≤1000000)
 (hN:d.size=N)
 (h1:lo<mi)
 (h2:mi<hi)
 (h3:hi≤N)
 (hend:aj E ops l0 Q (St.put ⟨tmps,own.set id (some (aO (Go.Stb.ed mi (mi-lo) (hi-mi) d) m)),tk,gl,none,up⟩ dst (.ax []))):aj E ops (⟨dst,.call ⟨.value (.func 252),#[x0,x1,x2,x3,x4],tys⟩,ty,pos,after,none⟩::l0) Q ⟨tmps,own,tk,gl,none,up⟩:=by
 have hid:=bE ho
 obtain⟨ow,how⟩:∃ow:List (Option (List AV)),own=ow.set id (some (aO d m)):=⟨own,(mf ho).symm⟩
 subst how
 rw[List.length_set] at hid
 have hob:∀d':Array Po,bm (ow.set id (some (aO d' m))) ow.length tk.length:=fun d'=>by
  have:=hbo.set (id:=id) (mb d' m);rwa[List.set_set,List.length_set] at this
 have hob2:∀d':Array Po,bm (ow.set id (some (aO d' m))) (ow.set id (some (aO d' m))).length tk.length:=fun d'=>by rw[List.length_set];exact hob d'
 rw[List.length_set] at hbu
 simp only[List.set_set] at hend
 refine aj.call (caps:=[]) (rs:=[]) Tryz.func252 rfl Tryz.ntmps252 rfl (by kernel_rfl) rfl rfl ?_
 show aa E _ _ ⟨([St.ev _ x0,St.ev _ x1,St.ev _ x2,St.ev _ x3,St.ev _ x4]++[])++List.replicate (58-5) (.v undef),_,tk,gl,none,tmps++up⟩
 rw[hx0,hx1,hx2,hx3,hx4]
 have hBn:∀(tm:List AV) (d':Array Po),d'=Go.Stb.ed mi (mi-lo) (hi-mi) d→bG E.P [] ⟨tmps,ow.set id (some (aO d m)),tk,gl,none,up⟩ (fun s z=>aj E ops l0 Q (s.put dst z)) .normal ⟨tm,ow.set id (some (aO d' m)),tk,gl,none,tmps++up⟩:=fun tm d' e=>by subst e;exact⟨rfl,hend⟩
 have hBr:∀(tm:List AV) (d':Array Po),d'=Go.Stb.ed mi (mi-lo) (hi-mi) d→bG E.P [] ⟨tmps,ow.set id (some (aO d m)),tk,gl,none,up⟩ (fun s z=>aj E ops l0 Q (s.put dst z)) .ret ⟨tm,ow.set id (some (aO d' m)),tk,gl,none,tmps++up⟩:=fun tm d' e=>by subst e;exact⟨rfl,hend⟩
 generalize bG E.P [] ⟨tmps,ow.set id (some (aO d m)),tk,gl,none,up⟩ (fun s z=>aj E ops l0 Q (s.put dst z))=Q1 at hBn hBr ⊢
 generalize tmps++up=up' at hbu hBn hBr ⊢
 clear hend ho hbo hx0 hx1 hx2 hx3 hx4
 have hset:∀x,(ow.set id x)[id]?=some x:=fun x=>List.getElem?_set_self hid
 repeat'(first
 |refine aa.ab fun K hK=>?_
 |(
  refine aa.here 0 12 4 rfl ?_
  have w0:IntKind.i64.wrap ((mi:Int)-lo)=((mi-lo:Nat):Int):=by rw[aq (by omega) (by omega)];omega
  refine aa.region ?_;simp only[go_sem,hset,List.set_set,List.length_set,w0])
 |(
  refine aa.here 1 15 4 rfl ?_
  have w0:IntKind.i64.wrap ((hi:Int)-mi)=((hi-mi:Nat):Int):=by rw[aq (by omega) (by omega)];omega
  refine aa.region ?_;simp only[go_sem,hset,List.set_set,List.length_set,w0])
 |(
  refine aa.here 5 32 4 rfl ?_
  have w0:IntKind.i64.wrap ((i:Int)-j)=((i-j:Nat):Int):=by rw[aq (by omega) (by omega)];omega
  refine aa.region ?_;simp only[go_sem,hset,List.set_set,List.length_set,w0])
 |(
  refine aa.here 7 47 4 rfl ?_
  have w0:IntKind.i64.wrap ((j:Int)-i)=((j-i:Nat):Int):=by rw[aq (by omega) (by omega)];omega
  refine aa.region ?_;simp only[go_sem,hset,List.set_set,List.length_set,w0])
 |(
  refine aa.here 4 24 8 rfl ?_
  have w0:IntKind.i64.wrap ((mi:Int)-i)=((mi-i:Nat):Int):=by rw[aq (by omega) (by omega)];omega
  refine aa.bq ?_
  refine aj.at 8 7 rfl ?_
  simp only[go_sem,hset,List.set_set,List.length_set,w0]
  refine uf (id:=id) (m:=m) (N:=N) (d:=e) (u:=mi-i) (v:=mi) (n:=j) (by rfl) (by rfl) (by rfl) (by rfl) (by rfl) (hset _) (by simp only[List.length_set,List.all_append,hbu,List.all_cons,List.all_nil,List.cons_append,List.nil_append,AV.bF,AV.dY,AV.cU,decide_eq_true hid,Bool.and_true,Bool.true_and,List.all_replicate]) (hob2 _) hl (by(assumption)) (by omega) (by omega) ?_
  simp only[go_sem,hset,List.set_set,List.length_set,w0]
  refine aj.of ?_
  (try simp only[go_sem,hset,List.set_set,List.length_set,w0]))
 |(
  refine aa.here 6 35 12 rfl ?_
  have w0:IntKind.i64.wrap ((mi:Int)-i)=((mi-i:Nat):Int):=by rw[aq (by omega) (by omega)];omega
  have w1:IntKind.i64.wrap ((mi:Int)+j)=((mi+j:Nat):Int):=by rw[aq (by omega) (by omega)];omega
  have w2:IntKind.i64.wrap (((mi+j:Nat):Int)-i)=((mi+j-i:Nat):Int):=by rw[aq (by omega) (by omega)];omega
  refine aa.bq ?_
  refine aj.at 12 11 rfl ?_
  simp only[go_sem,hset,List.set_set,List.length_set,w0,w1,w2]
  refine uf (id:=id) (m:=m) (N:=N) (d:=e) (u:=mi-i) (v:=mi+j-i) (n:=i) (by rfl) (by rfl) (by rfl) (by rfl) (by rfl) (hset _) (by simp only[List.length_set,List.all_append,hbu,List.all_cons,List.all_nil,List.cons_append,List.nil_append,AV.bF,AV.dY,AV.cU,decide_eq_true hid,Bool.and_true,Bool.true_and,List.all_replicate]) (hob2 _) hl (by(assumption)) (by omega) (by omega) ?_
  simp only[go_sem,hset,List.set_set,List.length_set,w0,w1,w2]
  refine aj.of ?_
  (try simp only[go_sem,hset,List.set_set,List.length_set,w0,w1,w2]))
 |(
  refine aa.here 8 50 8 rfl ?_
  have w0:IntKind.i64.wrap ((mi:Int)-i)=((mi-i:Nat):Int):=by rw[aq (by omega) (by omega)];omega
  refine aa.bq ?_
  refine aj.at 8 7 rfl ?_
  simp only[go_sem,hset,List.set_set,List.length_set,w0]
  refine uf (id:=id) (m:=m) (N:=N) (d:=e) (u:=mi-i) (v:=mi) (n:=i) (by rfl) (by rfl) (by rfl) (by rfl) (by rfl) (hset _) (by simp only[List.length_set,List.all_append,hbu,List.all_cons,List.all_nil,List.cons_append,List.nil_append,AV.bF,AV.dY,AV.cU,decide_eq_true hid,Bool.and_true,Bool.true_and,List.all_replicate]) (hob2 _) hl (by(assumption)) (by omega) (by omega) ?_
  simp only[go_sem,hset,List.set_set,List.length_set,w0]
  refine aj.of ?_
  (try simp only[go_sem,hset,List.set_set,List.length_set,w0]))
 |(refine aa.region ?_;simp only[go_sem,hset,List.set_set,List.length_set])
 |(refine hK _ ?_;clear hK K)
 |refine aa.block ?_
 |refine aa.cond rfl (fun c=>?_) (fun c=>?_)<;>(try simp only[dD] at c)
 |refine aa.skip ?_
 |(refine aa.exit ?_;simp only[go_sem,hset,List.set_set,List.length_set])
 |(
  refine aa.here 2 18 3 rfl ?_
  refine aa.b6 (ι:=Nat×Nat×Array Po) [18,19,20,21,22,23,24,25,26,27,28,29,30,31,32,33,34,35,36,37,38,39,40,41,42,43,44,45,46,47,48,49] (fun⟨i,j,e⟩=>[(10,i64 i),(11,i64 j)]) (fun⟨i,j,e⟩=>ow.set id (some (aO e m))) (fun⟨i,j,e⟩=>tk) (fun⟨i,j,e⟩=>0<i∧0<j∧i≤mi∧mi+j≤N∧e.size=N∧Go.Stb.ed mi i j e=Go.Stb.ed mi (mi-lo) (hi-mi) d) (fun⟨i,j,e⟩=>i+j) ((mi-lo,hi-mi,d)) ?_ ?_ ?_
  ·(try simp only[go_sem]);(try simp only[List.set_set,List.length_set]);(repeat'(first|assumption|exact bm.wk (hob _)|exact cY|exact .inr (decide_eq_true hid)|refine And.intro ?_ ?_));done
  ·exact⟨by omega,by omega,by omega,by omega,hN,rfl⟩
  rintro⟨i,j,e⟩ ⟨g1,g2,g3,g4,g5,g6⟩
  simp only[go_sem,hset,List.set_set,List.length_set])
 |(
  refine⟨(i-j,j,Go.Stb.dM (mi-i) mi j 0 e),?_,?_,?_⟩
  ·(try simp only[go_sem]);(try rw[aq (by omega) (by omega)]);(try simp only[List.set_set,List.length_set]);(repeat'(first|assumption|exact bm.wk (hob _)|exact cY|exact .inr (decide_eq_true hid)|refine And.intro ?_ ?_));done
  ·(try dsimp only);exact⟨by omega,by omega,by omega,by omega,by rw[Go.Stb.j5 _ _ _ _ _ _ rfl];exact g5,by(exact(KG (by omega) (by omega)).symm.trans g6)⟩
  ·(try simp only[]);omega)
 |(
  refine⟨(i,j-i,Go.Stb.dM (mi-i) (mi+j-i) i 0 e),?_,?_,?_⟩
  ·(try simp only[go_sem]);(try rw[aq (by omega) (by omega)]);(try simp only[List.set_set,List.length_set]);(repeat'(first|assumption|exact bm.wk (hob _)|exact cY|exact .inr (decide_eq_true hid)|refine And.intro ?_ ?_));done
  ·(try dsimp only);exact⟨by omega,by omega,by omega,by omega,by rw[Go.Stb.j5 _ _ _ _ _ _ rfl];exact g5,by(exact(CJ (by omega) (by omega)).symm.trans g6)⟩
  ·(try simp only[]);omega)
 |(exact hBn _ _ (by rw[←g6,GL (by omega) (by omega)]))
 |refine aa.fin (by assumption) ?_)
set_option maxRecDepth 100000 in
theorem wT{ops:Array Oper}{l0:List Oper}{Q:Exit→St→Prop}{tmps up:List AV}{gl:Nat→Option (List AV)}{own:List (Option (List AV))}{tk:List Nat}{dst:Option Tmp}{x0 x1 x2 x3:Operand}{tys:Array TypeId}{ty:TypeId}{pos:String}{after:Array Edge}{id m N:Nat}{d:Array Po}{lo hi:Nat}
 (hx0:St.ev ⟨tmps,own,tk,gl,none,up⟩ x0= .mu id 5 0 N (N+m))
 (hx1:St.ev ⟨tmps,own,tk,gl,none,up⟩ x1=i64 (lo:Int))
 (hx2:St.ev ⟨tmps,own,tk,gl,none,up⟩ x2=i64 (hi:Int))
 (hx3:St.ev ⟨tmps,own,tk,gl,none,up⟩ x3= .fn 104 [])
 (ho:own[id]?=some (some (aO d m)))
 (hbu:(tmps++up).all (AV.bF own.length tk.length)=true)
 (hbo:bm own own.length tk.length)
 (hl:N≤1000000)
 (hN:d.size=N)
 (h1:lo≤hi)
 (h2:hi≤N)
 (hend:aj E ops l0 Q (St.put ⟨tmps,own.set id (some (aO (Go.Sort.insertionSort aJ d lo hi) m)),tk,gl,none,up⟩ dst (.ax []))):aj E ops (⟨dst,.call ⟨.value (.func 225),#[x0,x1,x2,x3],tys⟩,ty,pos,after,none⟩::l0) Q ⟨tmps,own,tk,gl,none,up⟩:=by
 have hid:=bE ho
 obtain⟨ow,how⟩:∃ow:List (Option (List AV)),own=ow.set id (some (aO d m)):=⟨own,(mf ho).symm⟩
 subst how
 rw[List.length_set] at hid
 have hob:∀d':Array Po,bm (ow.set id (some (aO d' m))) ow.length tk.length:=fun d'=>by
  have:=hbo.set (id:=id) (mb d' m);rwa[List.set_set,List.length_set] at this
 have hob2:∀d':Array Po,bm (ow.set id (some (aO d' m))) (ow.set id (some (aO d' m))).length tk.length:=fun d'=>by rw[List.length_set];exact hob d'
 rw[List.length_set] at hbu
 simp only[List.set_set] at hend
 refine aj.call (caps:=[]) (rs:=[]) Tryz.func225 rfl Tryz.ntmps225 rfl (by kernel_rfl) rfl rfl ?_
 show aa E _ _ ⟨([St.ev _ x0,St.ev _ x1,St.ev _ x2,St.ev _ x3]++[])++List.replicate (53-4) (.v undef),_,tk,gl,none,tmps++up⟩
 rw[hx0,hx1,hx2,hx3]
 have hBn:∀(tm:List AV) (d':Array Po),d'=Go.Sort.insertionSort aJ d lo hi→bG E.P [] ⟨tmps,ow.set id (some (aO d m)),tk,gl,none,up⟩ (fun s z=>aj E ops l0 Q (s.put dst z)) .normal ⟨tm,ow.set id (some (aO d' m)),tk,gl,none,tmps++up⟩:=fun tm d' e=>by subst e;exact⟨rfl,hend⟩
 have hBr:∀(tm:List AV) (d':Array Po),d'=Go.Sort.insertionSort aJ d lo hi→bG E.P [] ⟨tmps,ow.set id (some (aO d m)),tk,gl,none,up⟩ (fun s z=>aj E ops l0 Q (s.put dst z)) .ret ⟨tm,ow.set id (some (aO d' m)),tk,gl,none,tmps++up⟩:=fun tm d' e=>by subst e;exact⟨rfl,hend⟩
 generalize bG E.P [] ⟨tmps,ow.set id (some (aO d m)),tk,gl,none,up⟩ (fun s z=>aj E ops l0 Q (s.put dst z))=Q1 at hBn hBr ⊢
 generalize tmps++up=up' at hbu hBn hBr ⊢
 clear hend ho hbo hx0 hx1 hx2 hx3
 have hset:∀x,(ow.set id x)[id]?=some x:=fun x=>List.getElem?_set_self hid
 repeat'(first
 |refine aa.ab fun K hK=>?_
 |(
  refine aa.here 0 10 3 rfl ?_
  have w0:IntKind.i64.wrap ((lo:Int)+1)=((lo+1:Nat):Int):=by rw[aq (by omega) (by omega)];omega
  refine aa.region ?_;simp only[go_sem,hset,List.set_set,List.length_set,w0])
 |(
  refine aa.here 6 37 18 rfl ?_
  have w0:IntKind.i64.wrap ((j:Int)-1)=((j-1:Nat):Int):=by rw[aq (by omega) (by omega)];omega
  have g1:(aO e2 m)[j]?=some (bD e2[j]!):=eQ (by omega)
  have g2:(aO e2 m)[j-1]?=some (bD e2[j-1]!):=eQ (by omega)
  have g3:((aO e2 m).set (j) (bD e2[j-1]!))[j-1]?=some (bD (e2.setIfInBounds (j) e2[j-1]!)[j-1]!):=by rw[oa (by omega)];exact eQ (by rw[Array.size_setIfInBounds];omega)
  have g4:((aO e2 m).set (j) (bD e2[j-1]!)).set (j-1) (bD e2[j]!)=aO (Go.Sort.swp e2 (j) (j-1)) m:=qu (by omega) (by omega)
  refine aa.bc [0,1,2,3,4,5,6,7,8,9,10,11,12,13,14,15,16,17] [] (by kernel_rfl) (by kernel_rfl) rfl ?_;simp only[go_sem,hset,List.set_set,List.length_set,w0,g1,g2,g3,g4,Int.toNat_natCast,hset,List.set_set])
 |(
  refine aa.here 5 35 3 rfl ?_
  have w0:IntKind.i64.wrap ((j:Int)-1)=((j-1:Nat):Int):=by rw[aq (by omega) (by omega)];omega
  refine aa.region ?_;simp only[go_sem,hset,List.set_set,List.length_set,w0])
 |(
  refine aa.here 4 18 17 rfl ?_
  rcases Nat.lt_or_ge lo j with hlj|hlj
  rotate_left
  refine aa.bc [0,1,2,3,4,5,6,7,8,9,10,11,12,13,14,15,16] [] (by kernel_rfl) (by kernel_rfl) rfl ?_;simp only[go_sem,hset,List.set_set,List.length_set]
  rotate_left
  have w0:IntKind.i64.wrap ((j:Int)-1)=((j-1:Nat):Int):=by rw[aq (by omega) (by omega)];omega
  have g1:(aO e2 m)[j]?=some (bD e2[j]!):=eQ (by omega)
  have g2:(aO e2 m)[(IntKind.i64.wrap ((j:Int)-1)).toNat]?=some (bD e2[j-1]!):=by rw[w0,Int.toNat_natCast];exact eQ (by omega)
  refine aa.bc [0,1,2,3,4,5,6,7,8,9,10,11,12,13,14,15,16] [] (by kernel_rfl) (by kernel_rfl) rfl ?_;simp only[go_sem,hset,List.set_set,List.length_set])
 |(refine aa.region ?_;simp only[go_sem,hset,List.set_set,List.length_set])
 |(refine hK _ ?_;clear hK K)
 |refine aa.block ?_
 |refine aa.cond rfl (fun c=>?_) (fun c=>?_)<;>first|exact Bool.noConfusion c|(try simp only[dD] at c)
 |refine aa.skip ?_
 |(refine aa.exit ?_;simp only[go_sem,hset,List.set_set,List.length_set])
 |(refine ah.one (rL _ _) (by kernel_rfl) rfl ?_;simp only[go_sem,hset,List.set_set,List.length_set])
 |(refine aH.split (fun h=>?_) (fun h=>?_)<;>simp only[h,go_sem,hset,List.set_set,List.length_set]<;>(try simp only[dD] at h))
 |(refine aG.bA (by assumption) ?_;(try simp only[go_sem,hset,List.set_set,List.length_set]))
 |((first|refine aG.nth ?_ (fun b hb=>?_)|with_reducible refine And.intro ?_ ?_);(focus(omega));(try simp only[hb,go_sem,hset,List.set_set,List.length_set]))
 |(
  refine aa.here 1 12 3 rfl ?_
  refine aa.b6 (ι:=Nat×Array Po) [9,12,13,14,15,16,17,18,19,20,21,22,23,24,25,26,27,28,29,30,31,32,33,34,35,36,37,38,39,40,41,42,43,44,45,46,47,48,49,50,51,52] (fun⟨i,e⟩=>[(8,i64 i)]) (fun⟨i,e⟩=>ow.set id (some (aO e m))) (fun⟨i,e⟩=>tk) (fun⟨i,e⟩=>lo+1≤i∧i≤hi+1∧e.size=N∧Go.Sort.insOuter aJ lo hi i e=Go.Sort.insertionSort aJ d lo hi) (fun⟨i,e⟩=>hi-i) ((lo+1,d)) ?_ ?_ ?_
  ·(try simp only[go_sem]);(try simp only[List.set_set,List.length_set]);(repeat'(first|assumption|exact bm.wk (hob _)|exact cY|exact .inr (decide_eq_true hid)|refine And.intro ?_ ?_));done
  ·exact⟨by omega,by omega,hN,rfl⟩
  rintro⟨i,e⟩ ⟨g1,g2,g3,g4⟩
  simp only[go_sem,hset,List.set_set,List.length_set])
 |(
  refine aa.here 4 18 17 rfl ?_
  refine aa.b6 (ι:=Nat×Array Po) [18,19,20,21,22,23,24,25,26,27,28,29,30,31,32,33,34,35,36,37,38,39,40,41,42,43,44,45,46,47,48,49,50,51,52] (fun⟨j,e2⟩=>[(9,i64 j)]) (fun⟨j,e2⟩=>ow.set id (some (aO e2 m))) (fun⟨j,e2⟩=>tk) (fun⟨j,e2⟩=>lo≤j∧j≤i∧e2.size=N∧Go.Sort.insInner aJ lo j e2=Go.Sort.insInner aJ lo i e) (fun⟨j,e2⟩=>j) ((i,e)) ?_ ?_ ?_
  ·(try simp only[go_sem]);(try simp only[List.set_set,List.length_set]);(repeat'(first|assumption|exact bm.wk (hob _)|exact cY|exact .inr (decide_eq_true hid)|refine And.intro ?_ ?_));done
  ·exact⟨by omega,by omega,g3,rfl⟩
  rintro⟨j,e2⟩ ⟨k1,k2,k3,k4⟩
  simp only[go_sem,hset,List.set_set,List.length_set])
 |(
  refine⟨(i+1,e2),?_,?_,?_⟩
  ·(try simp only[go_sem]);(try rw[aq (by omega) (by omega)]);(try simp only[List.set_set,List.length_set]);(repeat'(first|assumption|exact bm.wk (hob _)|exact cY|exact .inr (decide_eq_true hid)|refine And.intro ?_ ?_|exact .inr rfl));done
  ·(try dsimp only);exact⟨by omega,by omega,k3,by rw[Li (by omega),←k4] at g4;first|(rw[Gk (by omega)] at g4;exact g4)|(rw[Sj (by assumption)] at g4;exact g4)⟩
  ·(try simp only[]);omega)
 |(
  refine⟨(j-1,Go.Sort.swp e2 j (j-1)),?_,?_,?_⟩
  ·(try simp only[go_sem]);(try rw[aq (by omega) (by omega)]);(try simp only[List.set_set,List.length_set]);(repeat'(first|assumption|exact bm.wk (hob _)|exact cY|exact .inr (decide_eq_true hid)|refine And.intro ?_ ?_));done
  ·(try dsimp only);exact⟨by omega,by omega,by rw[Go.Sort.swp_size];exact k3,(Eh (by omega) (by assumption)).symm.trans k4⟩
  ·(try simp only[]);omega)
 |(exact hBn _ _ (by rw[←g4,QR (by omega)]))
 |(exfalso;omega)
 |refine aa.fin (by assumption) ?_)
end Go.Proofs.YtajeeghgiilhiaaGreat
end
