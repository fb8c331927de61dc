/- Texts of one chain, put together (TxC, KpA, KpE, N0, N1, N2, Shelf, N3, M0, M1, N4, N5, N7). -/
import Derived.Test.YthoonfpkfdjhiaaGreatDoorKaF
import Derived.Test.YthoonfpkfdjhiaaGreatDoorKaE
import Derived.Lib.LaidTab
import Derived.WalkSmall
import Derived.Shelf.Small.Strs
import Derived.Shelf.Small.Wraps
import Derived.Shelf.Strconv.Itoa0
import Derived.Shelf.Strconv.Itoa1
import Derived.Shelf.LaysM
import Derived.Shelf.Strconv.Itoa2
import Derived.Shelf.Strconv.Itoa3
import Derived.Shelf.Strconv.Itoa4
import Derived.Ground.MpProg
import Derived.Shelf.Pu.ParseUintPublic10
import Derived.Shelf.Pu.ErrVarParseUint
import Derived.Shelf.Strings.Search1
import Derived.Shelf.Strings.Search2
import Derived.Shelf.Strings.Search3
import Derived.Shelf.Strings.Count
import Derived.Shelf.Strings.Shaped
import Derived.Shelf.Strings.Prefix
import Derived.Shelf.Bytes.SlIndexSmall
import Derived.Ground.SlbNamesProg
import Derived.Shelf.Bytes.SlCountOne
import Derived.Shelf.Bytes.SlIndexAt
import Derived.Shelf.Bytes.Small
import Derived.Shelf.Bytes.IndexByte
import Derived.Test.YthoonfpkfdjhiaaGreatDoorProg
set_option linter.unusedVariables false
set_option linter.unusedSimpArgs false
set_option maxHeartbeats 16000000
set_option maxRecDepth 8000
section
namespace Go.Txt
open Go.Fld Go.Bk Go.Msg
def cleanW(w:List UInt8):Prop:=(32:UInt8)∉w∧(10:UInt8)∉w∧w.length≤20
theorem clean_name{s:List UInt8}(h:nameB s=true):cleanW s:=by
 unfold nameB at h
 simp only[Bool.and_eq_true,decide_eq_true_eq] at h
 refine⟨fun h1=>?_,fun h1=>?_,by omega⟩
 ·have:=List.all_eq_true.1 h.2 32 h1
  exact absurd this (by decide)
 ·have:=List.all_eq_true.1 h.2 10 h1
  exact absurd this (by decide)
theorem clean_show{n:Int}(h:whenB n=true):cleanW (showF n):=by
 rw[whenB_iff] at h
 have hok:numOK n=true:=numOK_iff.2 ⟨by omega,h.2⟩
 have he:showF n=Lib.decDigits n.toNat:=by
  unfold showF;rw[if_pos hok];unfold Lib.itoa;rw[if_neg (by omega)]
 refine⟨fun h1=>?_,fun h1=>?_,show_len n⟩
 ·rw[he] at h1
  have:=List.all_eq_true.1 (decDigits_dig n.toNat) 32 h1
  exact absurd this (by decide)
 ·rw[he] at h1
  have:=List.all_eq_true.1 (decDigits_dig n.toNat) 10 h1
  exact absurd this (by decide)
theorem small_when{n:Int}(h:smallB n=true):whenB n=true:=by rw[smallB_iff] at h;rw[whenB_iff];omega
theorem venue_when{n:Int}(h:venueB n=true):whenB n=true:=by rw[venue_iff] at h;rw[whenB_iff];omega
theorem clean_side(b:Bool):cleanW (sideW b):=by cases b<;>exact⟨by decide,by decide,by decide⟩
theorem clean_on(b:Bool):cleanW (onW b):=by cases b<;>exact⟨by decide,by decide,by decide⟩
theorem clean_ask{k:Int}(h:1≤k∧k≤8):cleanW (nameW askN k):=by
 rcases eight h with rfl|rfl|rfl|rfl|rfl|rfl|rfl|rfl<;>exact⟨by decide,by decide,by decide⟩
theorem clean_ex{k:Int}(h:1≤k∧k≤8):cleanW (nameW exN k):=by
 rcases eight h with rfl|rfl|rfl|rfl|rfl|rfl|rfl|rfl<;>exact⟨by decide,by decide,by decide⟩
theorem clean_ref{s:List UInt8}(h:s=[]∨nameB s=true):cleanW (refW s):=by
 unfold refW
 split
 ·exact⟨by decide,by decide,by decide⟩
 ·exact clean_name (h.resolve_left (by assumption))
theorem may_kind{a:Ak}(h:mayA a=true):1≤a.kind∧a.kind≤8:=by
 unfold mayA at h
 repeat' split at h
 all_goals first|omega|(simp at h;done)
theorem may1{a:Ak}(k:a.kind=1):mayA a=(venueB a.venue&&nameB a.ord.id&&nameB a.ord.acc&&nameB a.ord.sym&&whenB a.ord.qty&&whenB a.ord.price):=by unfold mayA;rw[if_pos k]
theorem may2{a:Ak}(k:a.kind=2):mayA a=(venueB a.venue&&nameB a.id&&nameB a.ord.id&&whenB a.ord.qty&&whenB a.ord.price):=by unfold mayA;rw[if_neg (by omega),if_pos k]
theorem may3{a:Ak}(k:a.kind=3):mayA a=(venueB a.venue&&execB a.exec):=by unfold mayA;rw[if_neg (by omega),if_neg (by omega),if_pos k]
theorem may4{a:Ak}(k:a.kind=4):mayA a=whenB a.now:=by unfold mayA;rw[if_neg (by omega),if_neg (by omega),if_neg (by omega),if_pos k]
theorem may5{a:Ak}(k:a.kind=5):mayA a=true:=by unfold mayA;rw[if_neg (by omega),if_neg (by omega),if_neg (by omega),if_neg (by omega),if_pos k]
theorem may67{a:Ak}(k:a.kind=6∨a.kind=7):mayA a=venueB a.venue:=by unfold mayA;rw[if_neg (by omega),if_neg (by omega),if_neg (by omega),if_neg (by omega),if_neg (by omega),if_pos k]
theorem may8{a:Ak}(k:a.kind=8):mayA a=(nameB a.lim.acc&&nameB a.lim.sym&&whenB a.lim.long&&whenB a.lim.short&&whenB a.lim.qty&&whenB a.lim.value):=by
 unfold mayA;rw[if_neg (by omega),if_neg (by omega),if_neg (by omega),if_neg (by omega),if_neg (by omega),if_neg (by omega),if_pos k]
theorem words1{a:Ak}(k:a.kind=1):wordsA a=[nameW askN 1,showF a.venue,a.ord.id,a.ord.acc,a.ord.sym,sideW a.ord.buy,showF a.ord.qty,showF a.ord.price]:=by unfold wordsA;rw[if_pos k]
theorem words2{a:Ak}(k:a.kind=2):wordsA a=[nameW askN 2,showF a.venue,a.id,a.ord.id,showF a.ord.qty,showF a.ord.price]:=by unfold wordsA;rw[if_neg (by omega),if_pos k]
theorem words3{a:Ak}(k:a.kind=3):wordsA a=[nameW askN 3,showF a.venue,nameW exN a.exec.kind,a.exec.id,refW a.exec.ref,a.exec.ord,a.exec.acc,a.exec.sym,sideW a.exec.buy,showF a.exec.qty,showF a.exec.price,showF a.exec.time]:=by
 unfold wordsA;rw[if_neg (by omega),if_neg (by omega),if_pos k]
theorem words4{a:Ak}(k:a.kind=4):wordsA a=[nameW askN 4,showF a.now]:=by unfold wordsA;rw[if_neg (by omega),if_neg (by omega),if_neg (by omega),if_pos k]
theorem words5{a:Ak}(k:a.kind=5):wordsA a=[nameW askN 5,onW a.on]:=by unfold wordsA;rw[if_neg (by omega),if_neg (by omega),if_neg (by omega),if_neg (by omega),if_pos k]
theorem words6{a:Ak}(k:a.kind=6):wordsA a=[nameW askN 6,showF a.venue,onW a.on]:=by unfold wordsA;rw[if_neg (by omega),if_neg (by omega),if_neg (by omega),if_neg (by omega),if_neg (by omega),if_pos k]
theorem words8{a:Ak}(k:a.kind=8):wordsA a=[nameW askN 8,a.lim.acc,a.lim.sym,showF a.lim.long,showF a.lim.short,showF a.lim.qty,showF a.lim.value]:=by
 unfold wordsA;rw[if_neg (by omega),if_neg (by omega),if_neg (by omega),if_neg (by omega),if_neg (by omega),if_neg (by omega),if_pos k]
theorem words7{a:Ak}(k:a.kind=7):wordsA a=[nameW askN 7,showF a.venue]:=by
 unfold wordsA;rw[if_neg (by omega),if_neg (by omega),if_neg (by omega),if_neg (by omega),if_neg (by omega),if_neg (by omega),if_neg (by omega),k]
theorem clean_words{a:Ak}(h:mayA a=true):(∀w∈wordsA a,cleanW w)∧(wordsA a).length≤12∧2≤(wordsA a).length:=by
 have hk:=may_kind h
 have hn:=clean_ask hk
 rcases eight hk with k|k|k|k|k|k|k|k
 ·rw[may1 k] at h;simp only[Bool.and_eq_true] at h
  rw[k] at hn
  rw[words1 k]
  refine⟨fun w hw=>?_,by simp,by simp⟩
  simp only[List.mem_cons,List.not_mem_nil,or_false] at hw
  rcases hw with rfl|rfl|rfl|rfl|rfl|rfl|rfl|rfl
  ·exact hn
  ·exact clean_show (venue_when h.1.1.1.1.1)
  ·exact clean_name h.1.1.1.1.2
  ·exact clean_name h.1.1.1.2
  ·exact clean_name h.1.1.2
  ·exact clean_side _
  ·exact clean_show h.1.2
  ·exact clean_show h.2
 ·rw[may2 k] at h;simp only[Bool.and_eq_true] at h
  rw[k] at hn
  rw[words2 k]
  refine⟨fun w hw=>?_,by simp,by simp⟩
  simp only[List.mem_cons,List.not_mem_nil,or_false] at hw
  rcases hw with rfl|rfl|rfl|rfl|rfl|rfl
  ·exact hn
  ·exact clean_show (venue_when h.1.1.1.1)
  ·exact clean_name h.1.1.1.2
  ·exact clean_name h.1.1.2
  ·exact clean_show h.1.2
  ·exact clean_show h.2
 ·rw[may3 k] at h;simp only[Bool.and_eq_true] at h
  have hx:=exec_ok h.2
  rw[k] at hn
  rw[words3 k]
  refine⟨fun w hw=>?_,by simp,by simp⟩
  simp only[List.mem_cons,List.not_mem_nil,or_false] at hw
  rcases hw with rfl|rfl|rfl|rfl|rfl|rfl|rfl|rfl|rfl|rfl|rfl|rfl
  ·exact hn
  ·exact clean_show (venue_when h.1)
  ·exact clean_ex hx.kind
  ·exact clean_name hx.id
  ·exact clean_ref hx.ref
  ·exact clean_name hx.ord
  ·exact clean_name hx.acc
  ·exact clean_name hx.sym
  ·exact clean_side _
  ·exact clean_show (small_when hx.qty)
  ·exact clean_show (small_when hx.price)
  ·exact clean_show hx.time
 ·rw[may4 k] at h
  rw[k] at hn
  rw[words4 k]
  refine⟨fun w hw=>?_,by simp,by simp⟩
  simp only[List.mem_cons,List.not_mem_nil,or_false] at hw
  rcases hw with rfl|rfl
  ·exact hn
  ·exact clean_show h
 ·rw[k] at hn
  rw[words5 k]
  refine⟨fun w hw=>?_,by simp,by simp⟩
  simp only[List.mem_cons,List.not_mem_nil,or_false] at hw
  rcases hw with rfl|rfl
  ·exact hn
  ·exact clean_on _
 ·rw[may67 (.inl k)] at h
  rw[k] at hn
  rw[words6 k]
  refine⟨fun w hw=>?_,by simp,by simp⟩
  simp only[List.mem_cons,List.not_mem_nil,or_false] at hw
  rcases hw with rfl|rfl|rfl
  ·exact hn
  ·exact clean_show (venue_when h)
  ·exact clean_on _
 ·rw[may67 (.inr k)] at h
  rw[k] at hn
  rw[words7 k]
  refine⟨fun w hw=>?_,by simp,by simp⟩
  simp only[List.mem_cons,List.not_mem_nil,or_false] at hw
  rcases hw with rfl|rfl
  ·exact hn
  ·exact clean_show (venue_when h)
 ·rw[may8 k] at h;simp only[Bool.and_eq_true] at h
  rw[k] at hn
  rw[words8 k]
  refine⟨fun w hw=>?_,by simp,by simp⟩
  simp only[List.mem_cons,List.not_mem_nil,or_false] at hw
  rcases hw with rfl|rfl|rfl|rfl|rfl|rfl|rfl
  ·exact hn
  ·exact clean_name h.1.1.1.1.1
  ·exact clean_name h.1.1.1.1.2
  ·exact clean_show h.1.1.1.2
  ·exact clean_show h.1.1.2
  ·exact clean_show h.1.2
  ·exact clean_show h.2
theorem words_ne(a:Ak):wordsA a≠[]:=by
 unfold wordsA
 repeat' split
 all_goals simp
theorem split_words{a:Ak}(h:mayA a=true):splitW 32 (joinW 32 (wordsA a))=wordsA a:=split_join (words_ne a) (fun w hw=>((clean_words h).1 w hw).1)
theorem words_hd(a:Ak)(h:1≤a.kind∧a.kind≤8):wd (wordsA a) 0=nameW askN a.kind:=by
 rcases eight h with k|k|k|k|k|k|k|k
 ·rw[words1 k,k];rfl
 ·rw[words2 k,k];rfl
 ·rw[words3 k,k];rfl
 ·rw[words4 k,k];rfl
 ·rw[words5 k,k];rfl
 ·rw[words6 k,k];rfl
 ·rw[words7 k,k];rfl
 ·rw[words8 k,k];rfl
theorem show_iff{a:Ak}{s:List UInt8}:showA a=(s,0)↔mayA a=true∧wordsA a=splitW 32 s:=by
 unfold showA
 constructor
 ·intro h
  split at h
  ·rename_i hm
   refine⟨hm,?_⟩
   simp only[Prod.mk.injEq,and_true] at h
   rw[←h,split_words hm]
  ·simp at h
 ·rintro⟨hm,hw⟩
  rw[if_pos hm,hw,join_split]
theorem nb_of{n:Int}(h:whenB n=true):numW (showF n)=n:=by
 rw[whenB_iff] at h
 have:=(show_fine h.1 h.2).2.2.2
 unfold numW;rw[this,if_pos rfl]
theorem side_back(b:Bool):decide (sideW b=[98,117,121])=b:=by cases b<;>rfl
theorem on_back(b:Bool):decide (onW b=[111,110])=b:=by cases b<;>rfl
theorem ref_back{s:List UInt8}(h:s=[]∨nameB s=true):refB (refW s)=s:=by
 unfold refW refB
 split
 ·rename_i e;rw[if_pos rfl,e]
 ·rename_i e
  rw[if_neg]
  intro e2
  have:=h.resolve_left e
  rw[e2] at this
  exact absurd this (by decide)
theorem asked_back{a:Ak}(h:mayA a=true):askedA a.kind (wordsA a)=plainA a:=by
 have hk:=may_kind h
 rcases eight hk with k|k|k|k|k|k|k|k
 ·rw[may1 k] at h;simp only[Bool.and_eq_true] at h
  rw[words1 k,k]
  have e:plainA a=⟨1,a.venue,⟨a.ord.id,a.ord.acc,a.ord.sym,a.ord.buy,a.ord.qty,a.ord.price,0,false⟩,[],zeroX,0,false,zeroL⟩:=by unfold plainA;rw[if_pos k]
  rw[e]
  show(⟨1,numW (showF a.venue),⟨a.ord.id,a.ord.acc,a.ord.sym,decide (sideW a.ord.buy=[98,117,121]),numW (showF a.ord.qty),numW (showF a.ord.price),0,false⟩,[],zeroX,0,false,zeroL⟩:Ak)=_
  rw[nb_of (venue_when h.1.1.1.1.1),nb_of h.1.2,nb_of h.2,side_back]
 ·rw[may2 k] at h;simp only[Bool.and_eq_true] at h
  rw[words2 k,k]
  have e:plainA a=⟨2,a.venue,⟨a.ord.id,[],[],false,a.ord.qty,a.ord.price,0,false⟩,a.id,zeroX,0,false,zeroL⟩:=by unfold plainA;rw[if_neg (by omega),if_pos k]
  rw[e]
  show(⟨2,numW (showF a.venue),⟨a.ord.id,[],[],false,numW (showF a.ord.qty),numW (showF a.ord.price),0,false⟩,a.id,zeroX,0,false,zeroL⟩:Ak)=_
  rw[nb_of (venue_when h.1.1.1.1),nb_of h.1.2,nb_of h.2]
 ·rw[may3 k] at h;simp only[Bool.and_eq_true] at h
  have hx:=exec_ok h.2
  rw[words3 k,k]
  have e:plainA a=⟨3,a.venue,zeroO,[],a.exec,0,false,zeroL⟩:=by unfold plainA;rw[if_neg (by omega),if_neg (by omega),if_pos k]
  rw[e]
  show(⟨3,numW (showF a.venue),zeroO,[],⟨a.exec.id,refB (refW a.exec.ref),a.exec.ord,a.exec.acc,a.exec.sym,placeF exN (nameW exN a.exec.kind),decide (sideW a.exec.buy=[98,117,121]),numW (showF a.exec.qty),numW (showF a.exec.price),numW (showF a.exec.time)⟩,0,false,zeroL⟩:Ak)=_
  rw[nb_of (venue_when h.1),ref_back hx.ref,ex_place hx.kind,side_back,nb_of (small_when hx.qty),nb_of (small_when hx.price),nb_of hx.time]
 ·rw[may4 k] at h
  rw[words4 k,k]
  have e:plainA a=⟨4,0,zeroO,[],zeroX,a.now,false,zeroL⟩:=by unfold plainA;rw[if_neg (by omega),if_neg (by omega),if_neg (by omega),if_pos k]
  rw[e]
  show(⟨4,0,zeroO,[],zeroX,numW (showF a.now),false,zeroL⟩:Ak)=_
  rw[nb_of h]
 ·rw[words5 k,k]
  have e:plainA a=⟨5,0,zeroO,[],zeroX,0,a.on,zeroL⟩:=by unfold plainA;rw[if_neg (by omega),if_neg (by omega),if_neg (by omega),if_neg (by omega),if_pos k]
  rw[e]
  show(⟨5,0,zeroO,[],zeroX,0,decide (onW a.on=[111,110]),zeroL⟩:Ak)=_
  rw[on_back]
 ·rw[may67 (.inl k)] at h
  rw[words6 k,k]
  have e:plainA a=⟨6,a.venue,zeroO,[],zeroX,0,a.on,zeroL⟩:=by unfold plainA;rw[if_neg (by omega),if_neg (by omega),if_neg (by omega),if_neg (by omega),if_neg (by omega),if_pos k]
  rw[e]
  show(⟨6,numW (showF a.venue),zeroO,[],zeroX,0,decide (onW a.on=[111,110]),zeroL⟩:Ak)=_
  rw[nb_of (venue_when h),on_back]
 ·rw[may67 (.inr k)] at h
  rw[words7 k,k]
  have e:plainA a=⟨7,a.venue,zeroO,[],zeroX,0,false,zeroL⟩:=by unfold plainA;rw[if_neg (by omega),if_neg (by omega),if_neg (by omega),if_neg (by omega),if_neg (by omega),if_neg (by omega),if_neg (by omega),k]
  rw[e]
  show(⟨7,numW (showF a.venue),zeroO,[],zeroX,0,false,zeroL⟩:Ak)=_
  rw[nb_of (venue_when h)]
 ·rw[may8 k] at h;simp only[Bool.and_eq_true] at h
  rw[words8 k,k]
  have e:plainA a=⟨8,0,zeroO,[],zeroX,0,false,a.lim⟩:=by unfold plainA;rw[if_neg (by omega),if_neg (by omega),if_neg (by omega),if_neg (by omega),if_neg (by omega),if_neg (by omega),if_pos k]
  rw[e]
  show(⟨8,0,zeroO,[],zeroX,0,false,⟨a.lim.acc,a.lim.sym,numW (showF a.lim.long),numW (showF a.lim.short),numW (showF a.lim.qty),numW (showF a.lim.value)⟩⟩:Ak)=_
  rw[nb_of h.1.1.1.2,nb_of h.1.1.2,nb_of h.1.2,nb_of h.2]
theorem plain_kind{a:Ak}(hk:1≤a.kind∧a.kind≤8):(plainA a).kind=a.kind∧mayA (plainA a)=mayA a∧wordsA (plainA a)=wordsA a:=by
 rcases eight hk with k|k|k|k|k|k|k|k<;>simp[plainA,mayA,wordsA,k]
theorem join_len{c:UInt8}{m:Nat}:∀{l:List (List UInt8)},(∀w∈l,w.length≤m)→(joinW c l).length≤(m+1)*l.length
 |[],_=>by simp[joinW]
 |[a],h=>by have:=h a (by simp);simp[joinW];omega
 |a::b::l,h=>by
  have h1:=h a (by simp)
  have h2:=join_len (c:=c) (l:=b::l) (fun w hw=>h w (by simp only[List.mem_cons] at hw ⊢;exact .inr hw))
  simp only[joinW,List.length_append,List.length_cons] at h2 ⊢
  rw[Nat.mul_succ (m+1) (l.length+1)]
  omega
theorem show_short{a:Ak}(h:mayA a=true):(joinW 32 (wordsA a)).length≤252:=by
 obtain⟨h1,h2,_⟩:=clean_words h
 have:=join_len (c:=32) (m:=20) (fun w hw=>(h1 w hw).2.2)
 omega
theorem parse_show{a:Ak}(h:mayA a=true):parseA (joinW 32 (wordsA a))=(plainA a,0):=by
 have hk:=may_kind h
 have hs:=show_short h
 obtain⟨p1,p2,p3⟩:=plain_kind hk
 unfold parseA
 rw[if_neg (by omega),split_words h,words_hd a hk,ask_place hk,if_neg (by omega),asked_back h,if_pos]
 exact show_iff.2 ⟨by rw[p2];exact h,by rw[p3,split_words h]⟩
theorem parse_err{s:List UInt8}(h:¬(parseA s).2=0):(parseA s).1=zeroA:=by
 revert h;unfold parseA
 repeat' split
 all_goals simp
def flagW(b:Bool):List UInt8:=if b then[49] else[48]
def turn12(b:UInt8):UInt8:=if b=1 then 2 else b
def reportM(x:Ex):Mg:=⟨7,1,0,false,0,0,false,[],x⟩
def reportA(x:Ex):List UInt8:=(putM (reportM x)).1.map turn12
def fieldsA(a:Ak):List Fld.Fd:=
 if a.kind=1 then[(1,showF a.kind),(2,showF a.venue),(3,a.ord.id),(4,a.ord.acc),(5,a.ord.sym),(6,flagW a.ord.buy),(7,showF a.ord.qty),(8,showF a.ord.price)]
 else if a.kind=2 then[(1,showF a.kind),(2,showF a.venue),(3,a.id),(4,a.ord.id),(7,showF a.ord.qty),(8,showF a.ord.price)]
 else if a.kind=3 then[(1,showF a.kind),(2,showF a.venue),(9,reportA a.exec)]
 else if a.kind=4 then[(1,showF a.kind),(10,showF a.now)]
 else if a.kind=5 then[(1,showF a.kind),(11,flagW a.on)]
 else if a.kind=6 then[(1,showF a.kind),(2,showF a.venue),(11,flagW a.on)]
 else if a.kind=8 then[(1,showF a.kind),(4,a.lim.acc),(5,a.lim.sym),(12,showF a.lim.long),(13,showF a.lim.short),(7,showF a.lim.qty),(8,showF a.lim.value)]
 else[(1,showF a.kind),(2,showF a.venue)]
def putK(a:Ak):List UInt8×Int:=if mayA a=true then(encL (fieldsA a),0) else([],1)
theorem show_dl{n:Int}{k:Nat}(h0:0≤n)(h1:n≤4611686018427387904)(h:n.toNat<10^k)(hk:0<k):(showF n).length≤k:=by
 have hok:numOK n=true:=numOK_iff.2 ⟨by omega,h1⟩
 have he:showF n=Lib.decDigits n.toNat:=by
  unfold showF;rw[if_pos hok];unfold Lib.itoa;rw[if_neg (by omega)]
 rw[he];exact dec_len h hk
theorem report_right{x:Ex}(h:execB x=true):rightM (reportM x)=true:=by
 unfold rightM okM reportM
 simp[bareM,smallB,whenB,h]
theorem encF_l(t:Int)(v:List UInt8):(encF (t,v)).length=(showF t).length+v.length+2:=by
 unfold encF;simp only[List.length_append,List.length_cons,List.length_nil];omega
theorem report_len{x:Ex}(h:execB x=true):1≤(reportA x).length∧(reportA x).length≤256∧(1:UInt8)∉reportA x:=by
 have hx:=exec_ok h
 unfold reportA
 rw[putM_ok (report_right h)]
 refine⟨?_,?_,?_⟩
 ·rw[List.length_map]
  show 1≤(encL ((35,letF 7)::_)).length
  rw[encL,List.length_append,encF_l];omega
 ·rw[List.length_map]
  have l35:=show_dl (n:=35) (k:=2) (by decide) (by decide) (by decide) (by decide)
  have l34:=show_dl (n:=34) (k:=2) (by decide) (by decide) (by decide) (by decide)
  have l52:=show_dl (n:=52) (k:=2) (by decide) (by decide) (by decide) (by decide)
  have l17:=show_dl (n:=17) (k:=2) (by decide) (by decide) (by decide) (by decide)
  have l19:=show_dl (n:=19) (k:=2) (by decide) (by decide) (by decide) (by decide)
  have l11:=show_dl (n:=11) (k:=2) (by decide) (by decide) (by decide) (by decide)
  have l1:=show_dl (n:=1) (k:=1) (by decide) (by decide) (by decide) (by decide)
  have l55:=show_dl (n:=55) (k:=2) (by decide) (by decide) (by decide) (by decide)
  have l54:=show_dl (n:=54) (k:=2) (by decide) (by decide) (by decide) (by decide)
  have l150:=show_dl (n:=150) (k:=3) (by decide) (by decide) (by decide) (by decide)
  have l32:=show_dl (n:=32) (k:=2) (by decide) (by decide) (by decide) (by decide)
  have l31:=show_dl (n:=31) (k:=2) (by decide) (by decide) (by decide) (by decide)
  have l60:=show_dl (n:=60) (k:=2) (by decide) (by decide) (by decide) (by decide)
  have l0:=show_dl (n:=0) (k:=1) (by decide) (by decide) (by decide) (by decide)
  have lk:=show_dl (n:=x.kind) (k:=1) (by have:=hx.kind;omega) (by have:=hx.kind;omega) (by have:=hx.kind;omega) (by decide)
  have lq:=show_len x.qty
  have lp:=show_len x.price
  have lt:=show_len x.time
  have n1:=(name_fine hx.id).2.1
  have n2:=(name_fine hx.ord).2.1
  have n3:=(name_fine hx.acc).2.1
  have n4:=(name_fine hx.sym).2.1
  have n5:x.ref.length≤16:=by
   rcases hx.ref with e|e
   ·rw[e];decide
   ·exact(name_fine e).2.1
  have ll:(letF 7).length=1:=by decide
  have ls:(if x.buy=true then[49] else[50]:List UInt8).length=1:=by cases x.buy<;>rfl
  have hr:(encL (someF 19 x.ref)).length≤20:=by
   unfold someF
   split
   ·simp[encL]
   ·rw[encL,List.length_append,encF_l];simp[encL];omega
  have hp:packL (reportM x)=(35,letF 7)::(34,showF 1)::(52,showF 0)::([]++execL x):=rfl
  rw[hp]
  unfold execL
  simp only[List.nil_append,encL,encL_app,List.length_append,encF_l,List.length_nil]
  omega
 ·intro hm
  obtain⟨b,_,hb⟩:=List.mem_map.1 hm
  unfold turn12 at hb
  split at hb
  ·exact absurd hb (by decide)
  ·rename_i e;exact e hb
theorem flag_fine{t:Int}{b:Bool}(ht:1≤t∧t≤9999):rightF (t,flagW b)=true:=by
 cases b<;>exact fld_fine ht (by decide) (by decide) (by decide)
theorem when_fine{t n:Int}(ht:1≤t∧t≤9999)(h:whenB n=true):rightF (t,showF n)=true:=by
 rw[whenB_iff] at h;exact num_fine ht h.1 h.2
theorem fields_fine{a:Ak}(h:mayA a=true):(fieldsA a).all rightF=true∧2≤(fieldsA a).length∧(fieldsA a).length≤8:=by
 have hk:=may_kind h
 have h1:rightF (1,showF a.kind)=true:=num_fine (by decide) (by omega) (by omega)
 rcases eight hk with k|k|k|k|k|k|k|k
 ·rw[may1 k] at h;simp only[Bool.and_eq_true] at h
  unfold fieldsA;rw[if_pos k]
  refine⟨?_,by simp,by simp⟩
  simp only[List.all_cons,List.all_nil,Bool.and_true,Bool.and_eq_true]
  exact⟨h1,when_fine (by decide) (venue_when h.1.1.1.1.1),nmf_fine (by decide) h.1.1.1.1.2,nmf_fine (by decide) h.1.1.1.2,nmf_fine (by decide) h.1.1.2,flag_fine (by decide),when_fine (by decide) h.1.2,when_fine (by decide) h.2⟩
 ·rw[may2 k] at h;simp only[Bool.and_eq_true] at h
  unfold fieldsA;rw[if_neg (by omega),if_pos k]
  refine⟨?_,by simp,by simp⟩
  simp only[List.all_cons,List.all_nil,Bool.and_true,Bool.and_eq_true]
  exact⟨h1,when_fine (by decide) (venue_when h.1.1.1.1),nmf_fine (by decide) h.1.1.1.2,nmf_fine (by decide) h.1.1.2,when_fine (by decide) h.1.2,when_fine (by decide) h.2⟩
 ·rw[may3 k] at h;simp only[Bool.and_eq_true] at h
  obtain⟨r1,r2,r3⟩:=report_len h.2
  unfold fieldsA;rw[if_neg (by omega),if_neg (by omega),if_pos k]
  refine⟨?_,by simp,by simp⟩
  simp only[List.all_cons,List.all_nil,Bool.and_true,Bool.and_eq_true]
  exact⟨h1,when_fine (by decide) (venue_when h.1),fld_fine (by decide) r1 r2 r3⟩
 ·rw[may4 k] at h
  unfold fieldsA;rw[if_neg (by omega),if_neg (by omega),if_neg (by omega),if_pos k]
  refine⟨?_,by simp,by simp⟩
  simp only[List.all_cons,List.all_nil,Bool.and_true,Bool.and_eq_true]
  exact⟨h1,when_fine (by decide) h⟩
 ·unfold fieldsA;rw[if_neg (by omega),if_neg (by omega),if_neg (by omega),if_neg (by omega),if_pos k]
  refine⟨?_,by simp,by simp⟩
  simp only[List.all_cons,List.all_nil,Bool.and_true,Bool.and_eq_true]
  exact⟨h1,flag_fine (by decide)⟩
 ·rw[may67 (.inl k)] at h
  unfold fieldsA;rw[if_neg (by omega),if_neg (by omega),if_neg (by omega),if_neg (by omega),if_neg (by omega),if_pos k]
  refine⟨?_,by simp,by simp⟩
  simp only[List.all_cons,List.all_nil,Bool.and_true,Bool.and_eq_true]
  exact⟨h1,when_fine (by decide) (venue_when h),flag_fine (by decide)⟩
 ·rw[may67 (.inr k)] at h
  unfold fieldsA;rw[if_neg (by omega),if_neg (by omega),if_neg (by omega),if_neg (by omega),if_neg (by omega),if_neg (by omega),if_neg (by omega)]
  refine⟨?_,by simp,by simp⟩
  simp only[List.all_cons,List.all_nil,Bool.and_true,Bool.and_eq_true]
  exact⟨h1,when_fine (by decide) (venue_when h)⟩
 ·rw[may8 k] at h;simp only[Bool.and_eq_true] at h
  unfold fieldsA;rw[if_neg (by omega),if_neg (by omega),if_neg (by omega),if_neg (by omega),if_neg (by omega),if_neg (by omega),if_pos k]
  refine⟨?_,by simp,by simp⟩
  simp only[List.all_cons,List.all_nil,Bool.and_true,Bool.and_eq_true]
  exact⟨h1,nmf_fine (by decide) h.1.1.1.1.1,nmf_fine (by decide) h.1.1.1.1.2,when_fine (by decide) h.1.1.1.2,when_fine (by decide) h.1.1.2,when_fine (by decide) h.1.2,when_fine (by decide) h.2⟩
theorem put_fields{a:Ak}(h:mayA a=true):putF (fieldsA a)=(encL (fieldsA a),0):=by
 obtain⟨h1,_,h2⟩:=fields_fine h
 unfold putF;rw[if_neg (by omega),if_pos h1]
def turn21(b:UInt8):UInt8:=if b=2 then 1 else b
def execK(s:List UInt8):Ex:=if(readM (s.map turn21)).2=0 then(readM (s.map turn21)).1.exec else zeroX
def venueK(k:Int):Bool:=decide (k=1∨k=2∨k=3∨k=6∨k=7)
def askedK(l:List Fld.Fd):Ak:=
 { kind:=nm l 1,venue:=if venueK (nm l 1)=true then nm l 2 else 0,
   ord:=if nm l 1=1 then⟨tx l 3,tx l 4,tx l 5,decide (tx l 6=[49]),nm l 7,nm l 8,0,false⟩ else if nm l 1=2 then⟨tx l 4,[],[],false,nm l 7,nm l 8,0,false⟩ else zeroO,
   id:=if nm l 1=2 then tx l 3 else[],exec:=if nm l 1=3 then execK (tx l 9) else zeroX,now:=if nm l 1=4 then nm l 10 else 0,
   on:=if nm l 1=5∨nm l 1=6 then decide (tx l 11=[49]) else false,
   lim:=if nm l 1=8 then⟨tx l 4,tx l 5,nm l 12,nm l 13,nm l 7,nm l 8⟩ else zeroL }
def readK(b:List UInt8):Ak×Int:=
 if(parseL b).2=0 then(if putK (askedK (parseL b).1)=(b,0) then(askedK (parseL b).1,0) else(zeroA,3)) else(zeroA,3)
theorem flag_eq(b:Bool):decide (flagW b=[49])=b:=by cases b<;>decide
theorem turn_back:∀{l:List UInt8},(2:UInt8)∉l→(l.map turn12).map turn21=l
 |[],_=>rfl
 |b::l,h=>by
  simp only[List.mem_cons,not_or] at h
  rw[List.map_cons,List.map_cons,turn_back h.2]
  congr 1
  unfold turn12 turn21
  by_cases e:b=1
  ·subst e;rfl
  ·rw[if_neg e,if_neg (fun x=>h.1 x.symm)]
theorem nm_hd{t:Int}{n:Int}{l:List Fld.Fd}(h0:0≤n)(h1:n≤4611686018427387904):nm ((t,showF n)::l) t=n:=by
 unfold nm;rw[num_get (l:=(t,showF n)::l) (t:=t) (n:=n) (by rw[get_hd,if_pos rfl]) h0 h1]
theorem nm_ne{t u:Int}{s:List UInt8}{l:List Fld.Fd}(h:¬t=u):nm ((t,s)::l) u=nm l u:=by
 unfold nm numF;rw[get_hd,if_neg h]
theorem tx_hd{t:Int}{s:List UInt8}{l:List Fld.Fd}:tx ((t,s)::l) t=s:=by unfold tx;rw[get_hd,if_pos rfl]
theorem tx_ne{t u:Int}{s:List UInt8}{l:List Fld.Fd}(h:¬t=u):tx ((t,s)::l) u=tx l u:=by unfold tx;rw[get_hd,if_neg h]
theorem no2_name{s:List UInt8}(h:nameB s=true):(2:UInt8)∉s:=by
 intro hm
 unfold nameB at h
 simp only[Bool.and_eq_true] at h
 have:=List.all_eq_true.1 h.2 2 hm
 revert this;decide
theorem no2_show{n:Int}(h0:0≤n)(h1:n≤4611686018427387904):(2:UInt8)∉showF n:=by
 have hok:numOK n=true:=numOK_iff.2 ⟨by omega,h1⟩
 have he:showF n=Lib.decDigits n.toNat:=by
  unfold showF;rw[if_pos hok];unfold Lib.itoa;rw[if_neg (by omega)]
 intro h
 rw[he] at h
 have:=List.all_eq_true.1 (decDigits_dig n.toNat) 2 h
 revert this;decide
theorem no2_enc:∀{l:List Fld.Fd},(∀f∈l,0≤f.1∧f.1≤9999∧(2:UInt8)∉f.2)→(2:UInt8)∉encL l
 |[],_=>by simp[encL]
 |f::l,h=>by
  have h1:=h f (by simp)
  have h2:=no2_enc (l:=l) (fun g hg=>h g (by simp[hg]))
  have h3:=no2_show (n:=f.1) h1.1 (by omega)
  rw[encL,List.mem_append,encF]
  simp only[List.mem_append,List.mem_cons,List.not_mem_nil,or_false,not_or]
  exact⟨⟨h3,by decide,h1.2.2,by decide⟩,h2⟩
theorem no2_f{t:Int}{s:List UInt8}(h0:0≤t)(h1:t≤9999)(h:(2:UInt8)∉s):0≤(t,s).1∧(t,s).1≤9999∧(2:UInt8)∉(t,s).2:=⟨h0,h1,h⟩
theorem no2_report{x:Ex}(h:execB x=true):(2:UInt8)∉(putM (reportM x)).1:=by
 have hx:=exec_ok h
 rw[putM_ok (report_right h)]
 have ht:=whenB_iff.1 hx.time
 have hq:=smallB_iff.1 hx.qty
 have hp:=smallB_iff.1 hx.price
 have hk:=hx.kind
 refine no2_enc fun f hf=>?_
 have e:packL (reportM x)=(35,letF 7)::(34,showF 1)::(52,showF 0)::(execL x):=rfl
 rw[e] at hf
 simp only[execL,List.mem_cons,List.mem_append,List.not_mem_nil,or_false] at hf
 rcases hf with rfl|rfl|rfl|rfl|hf|rfl|rfl|rfl|rfl|rfl|rfl|rfl|rfl
 ·exact no2_f (by decide) (by decide) (by decide)
 ·exact no2_f (by decide) (by decide) (no2_show (n:=1) (by decide) (by decide))
 ·exact no2_f (by decide) (by decide) (no2_show (n:=0) (by decide) (by decide))
 ·exact no2_f (by decide) (by decide) (no2_name hx.id)
 ·unfold someF at hf
  split at hf
  ·simp at hf
  ·rename_i hr
   simp only[List.mem_singleton] at hf
   subst hf
   exact no2_f (by decide) (by decide) (no2_name (hx.ref.resolve_left hr))
 ·exact no2_f (by decide) (by decide) (no2_name hx.ord)
 ·exact no2_f (by decide) (by decide) (no2_name hx.acc)
 ·exact no2_f (by decide) (by decide) (no2_name hx.sym)
 ·refine no2_f (by decide) (by decide) ?_
  cases x.buy<;>decide
 ·exact no2_f (by decide) (by decide) (no2_show (by omega) (by omega))
 ·exact no2_f (by decide) (by decide) (no2_show (by omega) (by omega))
 ·exact no2_f (by decide) (by decide) (no2_show (by omega) (by omega))
 ·exact no2_f (by decide) (by decide) (no2_show (by omega) (by omega))
theorem exec_back{x:Ex}(h:execB x=true):execK (reportA x)=x:=by
 have hr:=report_right h
 have e:(reportA x).map turn21=encL (packL (reportM x)):=by
  unfold reportA;rw[turn_back (no2_report h),putM_ok hr]
 unfold execK
 rw[e,readM_put hr];rfl
theorem when_bd{n:Int}(h:whenB n=true):0≤n∧n≤4611686018427387904:=whenB_iff.1 h
theorem venue_bd{n:Int}(h:venueB n=true):0≤n∧n≤4611686018427387904:=by
 unfold venueB at h;simp at h;omega
theorem asked_of{l:List Fld.Fd}{k:Int}(h:nm l 1=k):askedK l =
 { kind:=k,venue:=if venueK k=true then nm l 2 else 0,
   ord:=if k=1 then⟨tx l 3,tx l 4,tx l 5,decide (tx l 6=[49]),nm l 7,nm l 8,0,false⟩ else if k=2 then⟨tx l 4,[],[],false,nm l 7,nm l 8,0,false⟩ else zeroO,
   id:=if k=2 then tx l 3 else[],exec:=if k=3 then execK (tx l 9) else zeroX,now:=if k=4 then nm l 10 else 0,
   on:=if k=5∨k=6 then decide (tx l 11=[49]) else false,
   lim:=if k=8 then⟨tx l 4,tx l 5,nm l 12,nm l 13,nm l 7,nm l 8⟩ else zeroL }:=by subst h;rfl
theorem asked1{a:Ak}(h:mayA a=true)(k:a.kind=1):askedK (fieldsA a)=plainA a:=by
 rw[may1 k] at h
 simp only[Bool.and_eq_true] at h
 obtain⟨⟨⟨⟨⟨h1,h2⟩,h3⟩,h4⟩,h5⟩,h6⟩:=h
 have e:fieldsA a=[(1,showF a.kind),(2,showF a.venue),(3,a.ord.id),(4,a.ord.acc),(5,a.ord.sym),(6,flagW a.ord.buy),(7,showF a.ord.qty),(8,showF a.ord.price)]:=by unfold fieldsA;rw[if_pos k]
 have h0:nm (fieldsA a) 1=1:=by rw[e,nm_hd (by omega) (by omega)];exact k
 have p:plainA a=⟨1,a.venue,⟨a.ord.id,a.ord.acc,a.ord.sym,a.ord.buy,a.ord.qty,a.ord.price,0,false⟩,[],zeroX,0,false,zeroL⟩:=by unfold plainA;rw[if_pos k]
 rw[asked_of h0,e,p]
 simp[venueK,zeroX,zeroL,zeroO,flag_eq,tx_ne,nm_ne,tx_hd,nm_hd (venue_bd h1).1 (venue_bd h1).2,nm_hd (when_bd h5).1 (when_bd h5).2,nm_hd (when_bd h6).1 (when_bd h6).2]
theorem asked2{a:Ak}(h:mayA a=true)(k:a.kind=2):askedK (fieldsA a)=plainA a:=by
 rw[may2 k] at h
 simp only[Bool.and_eq_true] at h
 obtain⟨⟨⟨⟨h1,h2⟩,h3⟩,h4⟩,h5⟩:=h
 have e:fieldsA a=[(1,showF a.kind),(2,showF a.venue),(3,a.id),(4,a.ord.id),(7,showF a.ord.qty),(8,showF a.ord.price)]:=by unfold fieldsA;rw[if_neg (by omega),if_pos k]
 have h0:nm (fieldsA a) 1=2:=by rw[e,nm_hd (by omega) (by omega)];exact k
 have p:plainA a=⟨2,a.venue,⟨a.ord.id,[],[],false,a.ord.qty,a.ord.price,0,false⟩,a.id,zeroX,0,false,zeroL⟩:=by unfold plainA;rw[if_neg (by omega),if_pos k]
 rw[asked_of h0,e,p]
 simp[venueK,zeroX,zeroL,zeroO,flag_eq,tx_ne,nm_ne,tx_hd,nm_hd (venue_bd h1).1 (venue_bd h1).2,nm_hd (when_bd h4).1 (when_bd h4).2,nm_hd (when_bd h5).1 (when_bd h5).2]
theorem asked3{a:Ak}(h:mayA a=true)(k:a.kind=3):askedK (fieldsA a)=plainA a:=by
 rw[may3 k] at h
 simp only[Bool.and_eq_true] at h
 obtain⟨h1,h2⟩:=h
 have e:fieldsA a=[(1,showF a.kind),(2,showF a.venue),(9,reportA a.exec)]:=by unfold fieldsA;rw[if_neg (by omega),if_neg (by omega),if_pos k]
 have h0:nm (fieldsA a) 1=3:=by rw[e,nm_hd (by omega) (by omega)];exact k
 have p:plainA a=⟨3,a.venue,zeroO,[],a.exec,0,false,zeroL⟩:=by unfold plainA;rw[if_neg (by omega),if_neg (by omega),if_pos k]
 rw[asked_of h0,e,p]
 simp[venueK,zeroX,zeroL,zeroO,flag_eq,tx_ne,nm_ne,tx_hd,nm_hd (venue_bd h1).1 (venue_bd h1).2,exec_back h2]
theorem asked4{a:Ak}(h:mayA a=true)(k:a.kind=4):askedK (fieldsA a)=plainA a:=by
 rw[may4 k] at h
 have e:fieldsA a=[(1,showF a.kind),(10,showF a.now)]:=by unfold fieldsA;rw[if_neg (by omega),if_neg (by omega),if_neg (by omega),if_pos k]
 have h0:nm (fieldsA a) 1=4:=by rw[e,nm_hd (by omega) (by omega)];exact k
 have p:plainA a=⟨4,0,zeroO,[],zeroX,a.now,false,zeroL⟩:=by unfold plainA;rw[if_neg (by omega),if_neg (by omega),if_neg (by omega),if_pos k]
 rw[asked_of h0,e,p]
 simp[venueK,zeroX,zeroL,zeroO,flag_eq,tx_ne,nm_ne,tx_hd,nm_hd (when_bd h).1 (when_bd h).2]
theorem asked5{a:Ak}(h:mayA a=true)(k:a.kind=5):askedK (fieldsA a)=plainA a:=by
 rw[may5 k] at h
 have e:fieldsA a=[(1,showF a.kind),(11,flagW a.on)]:=by unfold fieldsA;rw[if_neg (by omega),if_neg (by omega),if_neg (by omega),if_neg (by omega),if_pos k]
 have h0:nm (fieldsA a) 1=5:=by rw[e,nm_hd (by omega) (by omega)];exact k
 have p:plainA a=⟨5,0,zeroO,[],zeroX,0,a.on,zeroL⟩:=by unfold plainA;rw[if_neg (by omega),if_neg (by omega),if_neg (by omega),if_neg (by omega),if_pos k]
 rw[asked_of h0,e,p]
 simp[venueK,zeroX,zeroL,zeroO,flag_eq,tx_ne,nm_ne,tx_hd]
theorem asked6{a:Ak}(h:mayA a=true)(k:a.kind=6):askedK (fieldsA a)=plainA a:=by
 rw[may67 (.inl k)] at h
 have e:fieldsA a=[(1,showF a.kind),(2,showF a.venue),(11,flagW a.on)]:=by unfold fieldsA;rw[if_neg (by omega),if_neg (by omega),if_neg (by omega),if_neg (by omega),if_neg (by omega),if_pos k]
 have h0:nm (fieldsA a) 1=6:=by rw[e,nm_hd (by omega) (by omega)];exact k
 have p:plainA a=⟨6,a.venue,zeroO,[],zeroX,0,a.on,zeroL⟩:=by unfold plainA;rw[if_neg (by omega),if_neg (by omega),if_neg (by omega),if_neg (by omega),if_neg (by omega),if_pos k]
 rw[asked_of h0,e,p]
 simp[venueK,zeroX,zeroL,zeroO,flag_eq,tx_ne,nm_ne,tx_hd,nm_hd (venue_bd h).1 (venue_bd h).2]
theorem asked7{a:Ak}(h:mayA a=true)(k:a.kind=7):askedK (fieldsA a)=plainA a:=by
 rw[may67 (.inr k)] at h
 have e:fieldsA a=[(1,showF a.kind),(2,showF a.venue)]:=by unfold fieldsA;rw[if_neg (by omega),if_neg (by omega),if_neg (by omega),if_neg (by omega),if_neg (by omega),if_neg (by omega),if_neg (by omega)]
 have h0:nm (fieldsA a) 1=7:=by rw[e,nm_hd (by omega) (by omega)];exact k
 have p:plainA a=⟨7,a.venue,zeroO,[],zeroX,0,false,zeroL⟩:=by unfold plainA;rw[if_neg (by omega),if_neg (by omega),if_neg (by omega),if_neg (by omega),if_neg (by omega),if_neg (by omega),if_neg (by omega),k]
 rw[asked_of h0,e,p]
 simp[venueK,zeroX,zeroL,zeroO,flag_eq,tx_ne,nm_ne,tx_hd,nm_hd (venue_bd h).1 (venue_bd h).2]
theorem asked8{a:Ak}(h:mayA a=true)(k:a.kind=8):askedK (fieldsA a)=plainA a:=by
 rw[may8 k] at h
 simp only[Bool.and_eq_true] at h
 obtain⟨⟨⟨⟨⟨h1,h2⟩,h3⟩,h4⟩,h5⟩,h6⟩:=h
 have e:fieldsA a=[(1,showF a.kind),(4,a.lim.acc),(5,a.lim.sym),(12,showF a.lim.long),(13,showF a.lim.short),(7,showF a.lim.qty),(8,showF a.lim.value)]:=by unfold fieldsA;rw[if_neg (by omega),if_neg (by omega),if_neg (by omega),if_neg (by omega),if_neg (by omega),if_neg (by omega),if_pos k]
 have h0:nm (fieldsA a) 1=8:=by rw[e,nm_hd (by omega) (by omega)];exact k
 have p:plainA a=⟨8,0,zeroO,[],zeroX,0,false,a.lim⟩:=by unfold plainA;rw[if_neg (by omega),if_neg (by omega),if_neg (by omega),if_neg (by omega),if_neg (by omega),if_neg (by omega),if_pos k]
 rw[asked_of h0,e,p]
 simp[venueK,zeroX,zeroL,zeroO,flag_eq,tx_ne,nm_ne,tx_hd,nm_hd (when_bd h3).1 (when_bd h3).2,nm_hd (when_bd h4).1 (when_bd h4).2,nm_hd (when_bd h5).1 (when_bd h5).2,nm_hd (when_bd h6).1 (when_bd h6).2]
theorem asked_fields{a:Ak}(h:mayA a=true):askedK (fieldsA a)=plainA a:=by
 have hk:=may_kind h
 have hc:a.kind=1∨a.kind=2∨a.kind=3∨a.kind=4∨a.kind=5∨a.kind=6∨a.kind=7∨a.kind=8:=by omega
 rcases hc with k|k|k|k|k|k|k|k
 ·exact asked1 h k
 ·exact asked2 h k
 ·exact asked3 h k
 ·exact asked4 h k
 ·exact asked5 h k
 ·exact asked6 h k
 ·exact asked7 h k
 ·exact asked8 h k
theorem plain_kd(a:Ak):(plainA a).kind=a.kind:=by
 unfold plainA
 repeat' split
 all_goals first|rfl|(simp[*];done)
theorem may_plain(a:Ak):mayA (plainA a)=mayA a:=by
 have hk:=plain_kd a
 by_cases k1:a.kind=1
 ·rw[may1 (hk.trans k1),may1 k1];unfold plainA;rw[if_pos k1]
 by_cases k2:a.kind=2
 ·rw[may2 (hk.trans k2),may2 k2];unfold plainA;rw[if_neg k1,if_pos k2]
 by_cases k3:a.kind=3
 ·rw[may3 (hk.trans k3),may3 k3];unfold plainA;rw[if_neg k1,if_neg k2,if_pos k3]
 by_cases k4:a.kind=4
 ·rw[may4 (hk.trans k4),may4 k4];unfold plainA;rw[if_neg k1,if_neg k2,if_neg k3,if_pos k4]
 by_cases k5:a.kind=5
 ·rw[may5 (hk.trans k5),may5 k5]
 by_cases k6:a.kind=6
 ·rw[may67 (.inl (hk.trans k6)),may67 (.inl k6)];unfold plainA;rw[if_neg k1,if_neg k2,if_neg k3,if_neg k4,if_neg k5,if_pos k6]
 by_cases k8:a.kind=8
 ·rw[may8 (hk.trans k8),may8 k8];unfold plainA;rw[if_neg k1,if_neg k2,if_neg k3,if_neg k4,if_neg k5,if_neg k6,if_pos k8]
 by_cases k7:a.kind=7
 ·rw[may67 (.inr (hk.trans k7)),may67 (.inr k7)];unfold plainA;rw[if_neg k1,if_neg k2,if_neg k3,if_neg k4,if_neg k5,if_neg k6,if_neg k8]
 ·cases h:mayA a with
  |true=>have:=may_kind h;omega
  |false=>
   cases h2:mayA (plainA a) with
   |true=>have:=may_kind h2;omega
   |false=>rfl
theorem fields_plain(a:Ak):fieldsA (plainA a)=fieldsA a:=by
 by_cases k1:a.kind=1
 ·simp[fieldsA,plainA,k1]
 by_cases k2:a.kind=2
 ·simp[fieldsA,plainA,k2]
 by_cases k3:a.kind=3
 ·simp[fieldsA,plainA,k3]
 by_cases k4:a.kind=4
 ·simp[fieldsA,plainA,k4]
 by_cases k5:a.kind=5
 ·simp[fieldsA,plainA,k5]
 by_cases k6:a.kind=6
 ·simp[fieldsA,plainA,k6]
 by_cases k8:a.kind=8
 ·simp[fieldsA,plainA,k8]
 ·simp[fieldsA,plainA,k1,k2,k3,k4,k5,k6,k8]
theorem put_plain(a:Ak):putK (plainA a)=putK a:=by unfold putK;rw[may_plain,fields_plain]
theorem plain_asked(l:List Fld.Fd):plainA (askedK l)=askedK l:=by
 generalize hk:nm l 1=k
 rw[asked_of hk]
 by_cases k1:k=1
 ·subst k1;simp[plainA,venueK]
 by_cases k2:k=2
 ·subst k2;simp[plainA,venueK]
 by_cases k3:k=3
 ·subst k3;simp[plainA,venueK]
 by_cases k4:k=4
 ·subst k4;simp[plainA,venueK]
 by_cases k5:k=5
 ·subst k5;simp[plainA,venueK]
 by_cases k6:k=6
 ·subst k6;simp[plainA,venueK]
 by_cases k8:k=8
 ·subst k8;simp[plainA,venueK]
 ·simp[plainA,venueK,k1,k2,k3,k4,k5,k6,k8]
theorem parse_fields{a:Ak}(h:mayA a=true):parseL (encL (fieldsA a))=(fieldsA a,0):=by
 have⟨h1,_,h3⟩:=fields_fine h
 have hl:=encL_len h1
 have:=parse_put (a:=fieldsA a) (b:=[]) h1 (by simp) (by simp;omega) (by simp[encL];omega)
 simpa[encL] using this
theorem read_put{a:Ak}(h:mayA a=true):readK (putK a).1=(plainA a,0):=by
 have e:putK a=(encL (fieldsA a),0):=if_pos h
 unfold readK
 rw[e]
 show(if(parseL (encL (fieldsA a))).2=0 then _ else _)=_
 rw[parse_fields h,if_pos rfl]
 show(if putK (askedK (fieldsA a))=_ then _ else _)=_
 rw[asked_fields h,put_plain,e,if_pos rfl]
theorem read_ok{b:List UInt8}(h:(readK b).2=0):putK (readK b).1=(b,0)∧plainA (readK b).1=(readK b).1:=by
 unfold readK at h ⊢
 by_cases h1:(parseL b).2=0
 ·rw[if_pos h1] at h ⊢
  by_cases h2:putK (askedK (parseL b).1)=(b,0)
  ·rw[if_pos h2];exact⟨h2,plain_asked _⟩
  ·rw[if_neg h2] at h;exact absurd h (by decide)
 ·rw[if_neg h1] at h;exact absurd h (by decide)
theorem read_no{b:List UInt8}(h:¬(readK b).2=0):readK b=(zeroA,3):=by
 unfold readK at h ⊢
 by_cases h1:(parseL b).2=0
 ·rw[if_pos h1] at h ⊢
  by_cases h2:putK (askedK (parseL b).1)=(b,0)
  ·rw[if_pos h2] at h;exact absurd rfl h
  ·rw[if_neg h2]
 ·rw[if_neg h1]
end Go.Txt
end
section
namespace Go.Proofs.YthoonfpkfdjhiaaGreatDoor
open Go Go.Abs Go.RowKit Go.Fld
def okW(w:World):Prop:=Lib.TabIs Tryz.prog w "internal/strconv.uint64pow10" .u64 Lib.pow10Tab∧(∃tp p,w.var? Tryz.prog "strconv.ErrRange" =some #[.iface tp p])∧
 ∃m,w.cell? ⟨0,0,none⟩=some (.int .i64 m)
theorem var_mono{w w':World}{n:String}{cs:Array Value}(hb:Go.RowKit.Below w.heap.size w w')(h:w.var? Tryz.prog n=some cs):w'.var? Tryz.prog n=some cs:=by
 unfold World.var? at h ⊢
 cases hg:Tryz.prog.globalNamed n with
 |none=>simp[hg] at h
 |some g=>
  simp only[hg,Option.bind_some] at h ⊢
  have hlt:g<w.heap.size:=by
   rcases Nat.lt_or_ge g w.heap.size with h'|h'
   ·exact h'
   ·rw[Array.getElem?_eq_none h'] at h;simp at h
  rw[hb.block g hlt];exact h
theorem cell_mono{w w':World}{g o:Nat}{v:Value}(hb:Go.RowKit.Below w.heap.size w w')(h:w.cell? ⟨g,o,none⟩=some v):w'.cell? ⟨g,o,none⟩=some v:=
 (cell_of_block (hb.block g (World.block_lt_of_cell? _ ⟨g,o,none⟩ h)) o).trans h
theorem okW_mono{w w':World}(hb:Go.RowKit.Below w.heap.size w w')(h:okW w):okW w':=
 ⟨var_mono hb h.1,let⟨tp,p,h2⟩:=h.2.1;⟨tp,p,var_mono hb h2⟩,let⟨m,h3⟩:=h.2.2;⟨m,cell_mono hb h3⟩⟩
noncomputable def E:Env:={ P:=Tryz.prog,ok:=okW,mono:=fun _ _ hb h=>okW_mono hb h,gl:=fun _=>none }
@[go_sem] theorem E_P:E.P=Tryz.prog:=rfl
theorem kb{w w':World}(h:Go.RowKit.Below w.heap.size w w'):Go.Abs.Below E.dr w.heap.size w w':=⟨h,fun d=>(show False from d).elim⟩
abbrev fldV(f:Fld.Fd):AV:= .agg [i64 f.1,str f.2]
abbrev bytesV(l:Bs):AV:= .sl none 1 (l.map u8)
abbrev fldsV(l:List Fld.Fd):AV:= .sl none 2 (l.map fldV)
theorem nright_c(n:Int):ACalls E 115 [i64 n] (fun r t=>r=bl (numOK n)∧t=[]):=by
 refine ACalls.of_awp (n:=9) (rs:=[.tmp 2]) Tryz.func115 rfl Tryz.ntmps115 rfl ?_
 refine AWP.seqk fun K1 hK1=>?_
 refine AWP.region ?_
 simp only[go_sem]
 refine hK1 _ ?_;clear hK1 K1
 refine AWP.seqk fun K2 hK2=>?_
 refine AWP.region ?_
 simp only[go_sem]
 repeat'((refine AGuard.split (fun h=>?_) (fun h=>?_)<;>simp only[h,go_sem]<;>try simp only[dD] at h))
 all_goals(
  refine hK2 _ ?_;clear hK2 K2
  refine AWP.ret ?_
  try simp only[go_sem]
  exact⟨[],.v _,rfl,rfl,by simp_all[numOK]<;>omega,rfl⟩)
theorem r1right_c(n:Int):ACalls E 121 [i64 n] (fun r t=>r=bl (numOK n)∧t=[]):=by
 refine ACalls.of_awp (n:=9) (rs:=[.tmp 2]) Tryz.func121 rfl Tryz.ntmps121 rfl ?_
 refine AWP.seqk fun K1 hK1=>?_
 refine AWP.region ?_
 simp only[go_sem]
 refine hK1 _ ?_;clear hK1 K1
 refine AWP.seqk fun K2 hK2=>?_
 refine AWP.region ?_
 simp only[go_sem]
 repeat'((refine AGuard.split (fun h=>?_) (fun h=>?_)<;>simp only[h,go_sem]<;>try simp only[dD] at h))
 all_goals(
  refine hK2 _ ?_;clear hK2 K2
  refine AWP.ret ?_
  try simp only[go_sem]
  exact⟨[],.v _,rfl,rfl,by simp_all[numOK]<;>omega,rfl⟩)
theorem r1show_s(n:Int)(ih:∀m:Int,msr m<msr n→ACalls E 66 [i64 m] (fun r t=>r=str (showF m)∧t=[])):ACalls E 66 [i64 n] (fun r t=>r=str (showF n)∧t=[]):=by
 refine ACalls.of_awp (n:=27) (rs:=[.tmp 2]) Tryz.func66 rfl Tryz.ntmps66 rfl ?_
 refine AWP.seqk fun K1 hK1=>?_
 refine AWP.region ?_
 simp only[go_sem]
 refine hK1 _ ?_;clear hK1 K1
 refine AWP.seqk fun K2 hK2=>?_
 refine AWP.seqk fun K3 hK3=>?_
 refine AWP.region ?_
 simp only[go_sem]
 repeat'((refine ACall.one (r1right_c _) (by kernel_rfl) rfl ?_;simp only[go_sem]))
 refine hK3 _ ?_;clear hK3 K3
 refine AWP.cond rfl (fun c5=>?_) (fun c5=>?_)
 ·(
   try simp only[dD] at c5
   refine AWP.seqk fun K4 hK4=>?_
   refine AWP.region ?_
   simp only[go_sem]
   refine hK4 _ ?_;clear hK4 K4
   refine AWP.ret ?_
   try simp only[go_sem]
   clear hK2 K2
   exact⟨[],.v _,rfl,rfl,by first
    |(have e:showF n=[]:=by unfold showF;rw[c5];rfl
      rw[e]),rfl⟩)
 ·(
   try simp only[dD] at c5
   refine AWP.skip ?_
   refine hK2 _ ?_;clear hK2 K2
   refine AWP.seqk fun K5 hK5=>?_
   refine AWP.seqk fun K6 hK6=>?_
   refine AWP.region ?_
   simp only[go_sem]
   refine hK6 _ ?_;clear hK6 K6
   refine AWP.cond rfl (fun c7=>?_) (fun c7=>?_)
   ·(
     try simp only[dD] at c7
     refine AWP.seqk fun K7 hK7=>?_
     refine AWP.region ?_
     simp only[go_sem]
     repeat'(first|(refine ACall.one (ih _ (by(exact msr_neg c5 c7))) (by kernel_rfl) rfl ?_;simp only[go_sem])|((with_reducible refine And.intro ?_ ?_);(focus((have:=show_len (IntKind.i64.wrap (0-n));omega)));(try simp only[hb,go_sem])))
     refine hK7 _ ?_;clear hK7 K7
     refine AWP.ret ?_
     try simp only[go_sem]
     clear hK5 K5
     exact⟨[],.v _,rfl,rfl,by first
      |(have hh:=numOK_iff.1 c5
        rw[show_neg c5 c7,wrap64_id (by omega) (by omega),Int.zero_sub]),rfl⟩)
   ·(
     try simp only[dD] at c7
     refine AWP.skip ?_
     refine hK5 _ ?_;clear hK5 K5
     refine AWP.seqk fun K8 hK8=>?_
     refine AWP.seqk fun K9 hK9=>?_
     refine AWP.region ?_
     simp only[go_sem]
     refine hK9 _ ?_;clear hK9 K9
     refine AWP.cond rfl (fun c13=>?_) (fun c13=>?_)
     ·(
       try simp only[dD] at c13
       refine AWP.seqk fun K10 hK10=>?_
       refine AWP.region ?_
       simp only[go_sem]
       refine hK10 _ ?_;clear hK10 K10
       refine AWP.ret ?_
       try simp only[go_sem]
       clear hK8 K8
       exact⟨[],.v _,rfl,rfl,by(rw[show_dig (by omega) c13,enc_dig (by omega) c13]),rfl⟩)
     ·(
       try simp only[dD] at c13
       refine AWP.skip ?_
       refine hK8 _ ?_;clear hK8 K8
       refine AWP.seqk fun K11 hK11=>?_
       refine AWP.region ?_
       simp only[go_sem]
       repeat'(first|(refine ACall.one (ih _ (by(have:=c13;exact msr_div c5 c13))) (by kernel_rfl) rfl ?_;simp only[go_sem])|((with_reducible refine And.intro ?_ ?_);(focus((have:=show_len (IntKind.i64.wrap (n.tdiv 10));rw[enc_dig (by rw[Int.tmod_eq_emod_of_nonneg (by omega)];omega) (by rw[Int.tmod_eq_emod_of_nonneg (by omega)];omega)];show _+1≤_;omega)));(try simp only[hb,go_sem])))
       refine hK11 _ ?_;clear hK11 K11
       refine AWP.ret ?_
       try simp only[go_sem]
       exact⟨[],.v _,rfl,rfl,by(rw[show_big c5 (by omega),wdiv c5,enc_dig (by rw[Int.tmod_eq_emod_of_nonneg (by omega)];omega) (by rw[Int.tmod_eq_emod_of_nonneg (by omega)];omega)]),rfl⟩)))
theorem r1show_c(n:Int):ACalls E 66 [i64 n] (fun r t=>r=str (showF n)∧t=[]):=by
 have:∀(k:Nat) (n:Int),msr n=k→ACalls E 66 [i64 n] (fun r t=>r=str (showF n)∧t=[]):=by
  intro k
  induction k using Nat.strongRecOn with
  |_ k ih=>intro n hn;exact r1show_s n fun m hm=>ih (msr m) (by omega) m rfl
 exact this _ n rfl
end Go.Proofs.YthoonfpkfdjhiaaGreatDoor
end
section
namespace Go.Proofs
open Go.Shelf
def Tryz.lays440_ren:Go.Shelf.Ren:=⟨fun|137=>114|217=>155|266=>188|n=>n,fun|9=>9|5=>5|3=>3|n=>n,fun|n=>n⟩
theorem Tryz.lays440:Go.Proofs.Lays.n137 Tryz.prog Tryz.lays440_ren:={
 mixed:=by kernel_rfl
 f137:=Tryz.func114.trans (congrArg some (by kernel_rfl))
 f217:=Tryz.func155.trans (congrArg some (by kernel_rfl))
 f266:=Tryz.func188.trans (congrArg some (by kernel_rfl))
 t3:=Tryz.underlying3
 a3:=Tryz.isAgg3
 z3:=Tryz.sizeOf3
 v3:=Tryz.zeroValue3
 t5:=Tryz.underlying5
 a5:=Tryz.isAgg5
 z5:=Tryz.sizeOf5
 v5:=Tryz.zeroValue5
 t9:=Tryz.underlying9
 a9:=Tryz.isAgg9
 z9:=Tryz.sizeOf9
 v9:=Tryz.zeroValue9 }
open Go.RowKit in
theorem Tryz.strings_IndexByte(s:ByteArray)(c:Int)(w:World):
 Calls Tryz.prog 114 #[.string s,.int .u8 c] w fun e w'=>e= .returned (.int .i64 (Lib.indexByte s.data.toList c.toNat.toUInt8))∧w'=w:=Any.strings_IndexByte Tryz.lays440 s c w
def Tryz.lays356_ren:Go.Shelf.Ren:=⟨fun|103=>163|210=>198|206=>239|n=>n,fun|9=>9|4=>4|24=>132|3=>3|n=>n,fun|n=>n⟩
theorem Tryz.lays356:Go.Proofs.Lays.n103 Tryz.prog Tryz.lays356_ren:={
 mixed:=by kernel_rfl
 f103:=Tryz.func163.trans (congrArg some (by kernel_rfl))
 f206:=Tryz.func239.trans (congrArg some (by kernel_rfl))
 f210:=Tryz.func198.trans (congrArg some (by kernel_rfl))
 t3:=Tryz.underlying3
 a3:=Tryz.isAgg3
 z3:=Tryz.sizeOf3
 v3:=Tryz.zeroValue3
 t4:=Tryz.underlying4
 a4:=Tryz.isAgg4
 z4:=Tryz.sizeOf4
 v4:=Tryz.zeroValue4
 t9:=Tryz.underlying9
 a9:=Tryz.isAgg9
 z9:=Tryz.sizeOf9
 v9:=Tryz.zeroValue9
 t24:=Tryz.underlying132
 a24:=Tryz.isAgg132
 z24:=Tryz.sizeOf132
 v24:=Tryz.zeroValue132 }
open Go.RowKit in
theorem Tryz.strings_CutPrefix(s p:ByteArray)(w:World):
 Calls Tryz.prog 163 #[.string s,.string p] w fun e w'=>e= .returned (.tuple #[.string ⟨(Lib.trimPrefix s.data.toList p.data.toList).toArray⟩,.bool (Lib.hasPrefix s.data.toList p.data.toList)])∧w'=w:=Any.strings_CutPrefix Tryz.lays356 s p w
def Tryz.laysM173_ren:Go.Shelf.Ren:=⟨fun|173=>116|246=>156|283=>189|284=>190|285=>191|286=>192|129=>226|317=>227|318=>228|319=>229|320=>230|337=>266|338=>267|n=>n,fun|2=>2|3=>3|9=>9|4=>4|171=>266|0=>0|53=>208|37=>30|5=>5|173=>269|212=>300|51=>203|20=>20|213=>301|46=>202|232=>353|233=>354|n=>n,fun|17=>1|18=>6|19=>7|n=>n⟩
theorem Tryz.laysM173:Go.Proofs.LaysM.n173 Tryz.prog Tryz.laysM173_ren:={
 mixed:=by kernel_rfl
 f129:=Tryz.func226.trans (congrArg some (by kernel_rfl))
 f173:=Tryz.func116.trans (congrArg some (by kernel_rfl))
 f246:=Tryz.func156.trans (congrArg some (by kernel_rfl))
 f283:=Tryz.func189.trans (congrArg some (by kernel_rfl))
 f284:=Tryz.func190.trans (congrArg some (by kernel_rfl))
 f285:=Tryz.func191.trans (congrArg some (by kernel_rfl))
 f286:=Tryz.func192.trans (congrArg some (by kernel_rfl))
 f317:=Tryz.func227.trans (congrArg some (by kernel_rfl))
 f318:=Tryz.func228.trans (congrArg some (by kernel_rfl))
 f319:=Tryz.func229.trans (congrArg some (by kernel_rfl))
 f320:=Tryz.func230.trans (congrArg some (by kernel_rfl))
 f337:=Tryz.func266.trans (congrArg some (by kernel_rfl))
 f338:=Tryz.func267.trans (congrArg some (by kernel_rfl))
 t0:=Tryz.underlying0
 a0:=Tryz.isAgg0
 z0:=Tryz.sizeOf0
 v0:=Tryz.zeroValue0
 t2:=Tryz.underlying2
 a2:=Tryz.isAgg2
 z2:=Tryz.sizeOf2
 v2:=Tryz.zeroValue2
 t3:=Tryz.underlying3
 a3:=Tryz.isAgg3
 z3:=Tryz.sizeOf3
 v3:=Tryz.zeroValue3
 t4:=Tryz.underlying4
 a4:=Tryz.isAgg4
 z4:=Tryz.sizeOf4
 v4:=Tryz.zeroValue4
 t5:=Tryz.underlying5
 a5:=Tryz.isAgg5
 z5:=Tryz.sizeOf5
 v5:=Tryz.zeroValue5
 t9:=Tryz.underlying9
 a9:=Tryz.isAgg9
 z9:=Tryz.sizeOf9
 v9:=Tryz.zeroValue9
 t20:=Tryz.underlying20
 a20:=Tryz.isAgg20
 z20:=Tryz.sizeOf20
 v20:=Tryz.zeroValue20
 t37:=Tryz.underlying30
 a37:=Tryz.isAgg30
 z37:=Tryz.sizeOf30
 v37:=Tryz.zeroValue30
 t46:=Tryz.underlying202
 a46:=Tryz.isAgg202
 z46:=Tryz.sizeOf202
 v46:=Tryz.zeroValue202
 t51:=Tryz.underlying203
 a51:=Tryz.isAgg203
 z51:=Tryz.sizeOf203
 v51:=Tryz.zeroValue203
 t53:=Tryz.underlying208
 a53:=Tryz.isAgg208
 z53:=Tryz.sizeOf208
 v53:=Tryz.zeroValue208
 t171:=Tryz.underlying266
 a171:=Tryz.isAgg266
 z171:=Tryz.sizeOf266
 v171:=Tryz.zeroValue266
 t173:=Tryz.underlying269
 a173:=Tryz.isAgg269
 z173:=Tryz.sizeOf269
 v173:=Tryz.zeroValue269
 t212:=Tryz.underlying300
 a212:=Tryz.isAgg300
 z212:=Tryz.sizeOf300
 v212:=Tryz.zeroValue300
 t213:=Tryz.underlying301
 a213:=Tryz.isAgg301
 z213:=Tryz.sizeOf301
 t232:=Tryz.underlying353
 a232:=Tryz.isAgg353
 z232:=Tryz.sizeOf353
 v232:=Tryz.zeroValue353
 t233:=Tryz.underlying354
 a233:=Tryz.isAgg354
 z233:=Tryz.sizeOf354
 v233:=Tryz.zeroValue354
 g17:=by kernel_rfl
 g18:=by kernel_rfl
 g19:=by kernel_rfl
 i0:=by kernel_rfl
 i2:=by kernel_rfl
 i3:=by kernel_rfl
 i4:=by kernel_rfl
 i5:=by kernel_rfl
 i9:=by kernel_rfl
 i20:=by kernel_rfl
 i37:=by kernel_rfl
 i46:=by kernel_rfl
 i51:=by kernel_rfl
 i53:=by kernel_rfl
 i171:=by kernel_rfl
 i173:=by kernel_rfl
 i212:=by kernel_rfl
 i232:=by kernel_rfl
 i233:=by kernel_rfl
 m17:=by kernel_rfl
 m18:=by kernel_rfl
 m19:=by kernel_rfl }
open Go.RowKit Go.Sort Go.Lib in
theorem Tryz.strconv_FormatInt_10(n:Int)(h0:-9223372036854775808≤n)(h1:n≤9223372036854775807)(w:World)(htab:Lib.TabIs Tryz.prog w "internal/strconv.uint64pow10" .u64 Lib.pow10Tab):
 Calls Tryz.prog 116 #[.int .i64 n,.int .i64 10] w fun e w'=>e= .returned (.string ⟨(Lib.itoa n).toArray⟩)∧∃k os,w'=grow (w.drewN k) os:=Any.strconv_FormatInt_10 Tryz.laysM173 n h0 h1 w htab
def Tryz.laysPu14_ren:Go.Shelf.Ren:=⟨fun|14=>164|16=>199|17=>200|19=>240|20=>241|21=>242|22=>243|23=>244|24=>245|25=>271|27=>273|26=>272|28=>286|29=>156|30=>189|31=>190|32=>191|33=>192|35=>226|34=>227|36=>228|37=>229|38=>230|39=>266|40=>267|n=>n,fun|9=>9|3=>3|22=>208|24=>230|25=>231|4=>4|34=>303|5=>5|36=>202|37=>30|0=>0|39=>305|21=>21|44=>337|47=>355|50=>358|48=>356|2=>2|52=>266|55=>269|59=>300|60=>203|20=>20|61=>301|65=>353|66=>354|67=>373|n=>n,fun|0=>4|1=>5|2=>1|3=>6|4=>7|n=>n⟩
theorem Tryz.laysPu14:Go.Proofs.LaysPu.n14 Tryz.prog Tryz.laysPu14_ren:={
 mixed:=by kernel_rfl
 f14:=Tryz.func164.trans (congrArg some (by kernel_rfl))
 f16:=Tryz.func199.trans (congrArg some (by kernel_rfl))
 f17:=Tryz.func200.trans (congrArg some (by kernel_rfl))
 f19:=Tryz.func240.trans (congrArg some (by kernel_rfl))
 f20:=Tryz.func241.trans (congrArg some (by kernel_rfl))
 f21:=Tryz.func242.trans (congrArg some (by kernel_rfl))
 f22:=Tryz.func243.trans (congrArg some (by kernel_rfl))
 f23:=Tryz.func244.trans (congrArg some (by kernel_rfl))
 f24:=Tryz.func245.trans (congrArg some (by kernel_rfl))
 f25:=Tryz.func271.trans (congrArg some (by kernel_rfl))
 f26:=Tryz.func272.trans (congrArg some (by kernel_rfl))
 f27:=Tryz.func273.trans (congrArg some (by kernel_rfl))
 f28:=Tryz.func286.trans (congrArg some (by kernel_rfl))
 f29:=Tryz.func156.trans (congrArg some (by kernel_rfl))
 f30:=Tryz.func189.trans (congrArg some (by kernel_rfl))
 f31:=Tryz.func190.trans (congrArg some (by kernel_rfl))
 f32:=Tryz.func191.trans (congrArg some (by kernel_rfl))
 f33:=Tryz.func192.trans (congrArg some (by kernel_rfl))
 f34:=Tryz.func227.trans (congrArg some (by kernel_rfl))
 f35:=Tryz.func226.trans (congrArg some (by kernel_rfl))
 f36:=Tryz.func228.trans (congrArg some (by kernel_rfl))
 f37:=Tryz.func229.trans (congrArg some (by kernel_rfl))
 f38:=Tryz.func230.trans (congrArg some (by kernel_rfl))
 f39:=Tryz.func266.trans (congrArg some (by kernel_rfl))
 f40:=Tryz.func267.trans (congrArg some (by kernel_rfl))
 t0:=Tryz.underlying0
 a0:=Tryz.isAgg0
 z0:=Tryz.sizeOf0
 v0:=Tryz.zeroValue0
 i0:=by kernel_rfl
 t2:=Tryz.underlying2
 a2:=Tryz.isAgg2
 z2:=Tryz.sizeOf2
 v2:=Tryz.zeroValue2
 i2:=by kernel_rfl
 t3:=Tryz.underlying3
 a3:=Tryz.isAgg3
 z3:=Tryz.sizeOf3
 v3:=Tryz.zeroValue3
 i3:=by kernel_rfl
 t4:=Tryz.underlying4
 a4:=Tryz.isAgg4
 z4:=Tryz.sizeOf4
 v4:=Tryz.zeroValue4
 i4:=by kernel_rfl
 t5:=Tryz.underlying5
 a5:=Tryz.isAgg5
 z5:=Tryz.sizeOf5
 v5:=Tryz.zeroValue5
 i5:=by kernel_rfl
 t9:=Tryz.underlying9
 a9:=Tryz.isAgg9
 z9:=Tryz.sizeOf9
 v9:=Tryz.zeroValue9
 i9:=by kernel_rfl
 t20:=Tryz.underlying20
 a20:=Tryz.isAgg20
 z20:=Tryz.sizeOf20
 v20:=Tryz.zeroValue20
 i20:=by kernel_rfl
 t21:=Tryz.underlying21
 a21:=Tryz.isAgg21
 z21:=Tryz.sizeOf21
 v21:=Tryz.zeroValue21
 i21:=by kernel_rfl
 t22:=Tryz.underlying208
 a22:=Tryz.isAgg208
 z22:=Tryz.sizeOf208
 v22:=Tryz.zeroValue208
 i22:=by kernel_rfl
 t24:=Tryz.underlying230
 a24:=Tryz.isAgg230
 z24:=Tryz.sizeOf230
 v24:=Tryz.zeroValue230
 i24:=by kernel_rfl
 t25:=Tryz.underlying231
 a25:=Tryz.isAgg231
 z25:=Tryz.sizeOf231
 v25:=Tryz.zeroValue231
 i25:=by kernel_rfl
 t34:=Tryz.underlying303
 a34:=Tryz.isAgg303
 z34:=Tryz.sizeOf303
 v34:=Tryz.zeroValue303
 i34:=by kernel_rfl
 c34:=by kernel_rfl
 t36:=Tryz.underlying202
 a36:=Tryz.isAgg202
 z36:=Tryz.sizeOf202
 v36:=Tryz.zeroValue202
 i36:=by kernel_rfl
 t37:=Tryz.underlying30
 a37:=Tryz.isAgg30
 z37:=Tryz.sizeOf30
 v37:=Tryz.zeroValue30
 i37:=by kernel_rfl
 t39:=Tryz.underlying305
 a39:=Tryz.isAgg305
 z39:=Tryz.sizeOf305
 v39:=Tryz.zeroValue305
 i39:=by kernel_rfl
 t44:=Tryz.underlying337
 a44:=Tryz.isAgg337
 z44:=Tryz.sizeOf337
 v44:=Tryz.zeroValue337
 i44:=by kernel_rfl
 t47:=Tryz.underlying355
 a47:=Tryz.isAgg355
 z47:=Tryz.sizeOf355
 v47:=Tryz.zeroValue355
 i47:=by kernel_rfl
 t48:=Tryz.underlying356
 a48:=Tryz.isAgg356
 z48:=Tryz.sizeOf356
 v48:=Tryz.zeroValue356
 i48:=by kernel_rfl
 t50:=Tryz.underlying358
 a50:=Tryz.isAgg358
 z50:=Tryz.sizeOf358
 v50:=Tryz.zeroValue358
 i50:=by kernel_rfl
 t52:=Tryz.underlying266
 a52:=Tryz.isAgg266
 z52:=Tryz.sizeOf266
 v52:=Tryz.zeroValue266
 i52:=by kernel_rfl
 t55:=Tryz.underlying269
 a55:=Tryz.isAgg269
 z55:=Tryz.sizeOf269
 v55:=Tryz.zeroValue269
 i55:=by kernel_rfl
 t59:=Tryz.underlying300
 a59:=Tryz.isAgg300
 z59:=Tryz.sizeOf300
 v59:=Tryz.zeroValue300
 i59:=by kernel_rfl
 t60:=Tryz.underlying203
 a60:=Tryz.isAgg203
 z60:=Tryz.sizeOf203
 v60:=Tryz.zeroValue203
 i60:=by kernel_rfl
 t61:=Tryz.underlying301
 a61:=Tryz.isAgg301
 z61:=Tryz.sizeOf301
 t65:=Tryz.underlying353
 a65:=Tryz.isAgg353
 z65:=Tryz.sizeOf353
 v65:=Tryz.zeroValue353
 i65:=by kernel_rfl
 t66:=Tryz.underlying354
 a66:=Tryz.isAgg354
 z66:=Tryz.sizeOf354
 v66:=Tryz.zeroValue354
 i66:=by kernel_rfl
 t67:=Tryz.underlying373
 a67:=Tryz.isAgg373
 z67:=Tryz.sizeOf373
 v67:=Tryz.zeroValue373
 i67:=by kernel_rfl
 g0:=by kernel_rfl
 m0:=by kernel_rfl
 g1:=by kernel_rfl
 m1:=by kernel_rfl
 g2:=by kernel_rfl
 m2:=by kernel_rfl
 g3:=by kernel_rfl
 m3:=by kernel_rfl
 g4:=by kernel_rfl
 m4:=by kernel_rfl }
open Go.RowKit in
theorem Tryz.strconv_ParseUint_10_at64_ok(s:ByteArray)(hmax:s.size≤9223372036854775806)(u:Nat)(h:Lib.parseUintB 64 s.data.toList= .ok u)(w:World):
 Calls Tryz.prog 164 #[.string s,.int .i64 10,.int .i64 64] w fun e w'=>e= .returned (.tuple #[.int .u64 u,.nilIface])∧(w'=w∨w'=Lib.bytesWorld w 5 s):=Any.strconv_ParseUint_10_at64_ok Tryz.laysPu14 s hmax u h w
open Go.RowKit in
theorem Tryz.strconv_ParseUint_10_at64_range_var(s:ByteArray)(hlim:s.size≤281474976710656)(h:Lib.parseUintB 64 s.data.toList= .range)(tp:TypeId)(p:Value)(w:World)(hvar:w.var? Tryz.prog "strconv.ErrRange" =some #[.iface tp p]):
 Calls Tryz.prog 164 #[.string s,.int .i64 10,.int .i64 64] w fun e w'=>∃N,e= .returned (.tuple #[.int .u64 18446744073709551615,.iface 305 (.pointer (some ⟨N,0,none⟩))])∧w.heap.size≤N∧w'.heap[N]?=some (.cells #[.string ⟨#[80,97,114,115,101,85,105,110,116]⟩,.string s,.iface tp p] 337 (0,0))∧Below w.heap.size w w':=Any.strconv_ParseUint_10_at64_range_var Tryz.laysPu14 s hlim h tp p w hvar
def Tryz.lays185_ren:Go.Shelf.Ren:=⟨fun|185=>195|187=>70|115=>36|253=>233|224=>234|254=>235|255=>123|291=>269|n=>n,fun|37=>30|3=>3|4=>4|0=>0|5=>5|46=>202|9=>9|146=>328|51=>203|n=>n,fun|1=>0|n=>n⟩
theorem Tryz.lays185:Go.Proofs.Lays.n185 Tryz.prog Tryz.lays185_ren:={
 mixed:=by kernel_rfl
 f115:=Tryz.func36.trans (congrArg some (by kernel_rfl))
 f185:=Tryz.func195.trans (congrArg some (by kernel_rfl))
 f187:=Tryz.func70.trans (congrArg some (by kernel_rfl))
 f224:=Tryz.func234.trans (congrArg some (by kernel_rfl))
 f253:=Tryz.func233.trans (congrArg some (by kernel_rfl))
 f254:=Tryz.func235.trans (congrArg some (by kernel_rfl))
 f255:=Tryz.func123.trans (congrArg some (by kernel_rfl))
 f291:=Tryz.func269.trans (congrArg some (by kernel_rfl))
 t0:=Tryz.underlying0
 a0:=Tryz.isAgg0
 z0:=Tryz.sizeOf0
 v0:=Tryz.zeroValue0
 t3:=Tryz.underlying3
 a3:=Tryz.isAgg3
 z3:=Tryz.sizeOf3
 v3:=Tryz.zeroValue3
 t4:=Tryz.underlying4
 a4:=Tryz.isAgg4
 z4:=Tryz.sizeOf4
 v4:=Tryz.zeroValue4
 t5:=Tryz.underlying5
 a5:=Tryz.isAgg5
 z5:=Tryz.sizeOf5
 v5:=Tryz.zeroValue5
 t9:=Tryz.underlying9
 a9:=Tryz.isAgg9
 z9:=Tryz.sizeOf9
 v9:=Tryz.zeroValue9
 t37:=Tryz.underlying30
 a37:=Tryz.isAgg30
 z37:=Tryz.sizeOf30
 v37:=Tryz.zeroValue30
 t46:=Tryz.underlying202
 a46:=Tryz.isAgg202
 z46:=Tryz.sizeOf202
 v46:=Tryz.zeroValue202
 t51:=Tryz.underlying203
 a51:=Tryz.isAgg203
 z51:=Tryz.sizeOf203
 v51:=Tryz.zeroValue203
 t146:=Tryz.underlying328
 a146:=Tryz.isAgg328
 z146:=Tryz.sizeOf328
 v146:=Tryz.zeroValue328
 g1:=by kernel_rfl }
open Go.RowKit Go.Lib in
theorem Tryz.bytes_Index_one(b o n c b2 o2 d:Nat)(xs:List Int)(cv:Int)(w:World)(hx:xs.length=n)(hc:∀i,i<n→w.cell? ⟨b,o+i,none⟩=some (.int .u8 (xs.getD i 0)))(hc2:w.cell? ⟨b2,o2,none⟩=some (.int .u8 cv)):
 Calls Tryz.prog 195 #[.slice (some ⟨b,o,none⟩) n c,.slice (some ⟨b2,o2,none⟩) 1 d] w fun e w'=>e= .returned (.int .i64 (Lib.indexByte (Lib.bytesOf xs) cv.toNat.toUInt8))∧w'=w:=Any.bytes_Index_one Tryz.lays185 b o n c b2 o2 d xs cv w hx hc hc2
def Tryz.laysSlB13_ren:Go.Shelf.Ren:=⟨fun|13=>194|24=>231|25=>232|12=>195|31=>268|19=>70|20=>36|21=>233|22=>234|23=>235|29=>123|30=>269|n=>n,fun|22=>30|3=>3|4=>4|0=>0|5=>5|9=>9|33=>202|40=>328|39=>203|n=>n,fun|0=>0|n=>n⟩
theorem Tryz.laysSlB13:Go.Proofs.SlLaysB.n13 Tryz.prog Tryz.laysSlB13_ren:={
 mixed:=by kernel_rfl
 f13:=Tryz.func194.trans (congrArg some (by kernel_rfl))
 f25:=Tryz.func232.trans (congrArg some (by kernel_rfl))
 t0:=Tryz.underlying0
 a0:=Tryz.isAgg0
 z0:=Tryz.sizeOf0
 v0:=Tryz.zeroValue0
 t3:=Tryz.underlying3
 a3:=Tryz.isAgg3
 z3:=Tryz.sizeOf3
 v3:=Tryz.zeroValue3
 t4:=Tryz.underlying4
 a4:=Tryz.isAgg4
 z4:=Tryz.sizeOf4
 v4:=Tryz.zeroValue4
 t5:=Tryz.underlying5
 a5:=Tryz.isAgg5
 z5:=Tryz.sizeOf5
 v5:=Tryz.zeroValue5
 t22:=Tryz.underlying30
 a22:=Tryz.isAgg30
 z22:=Tryz.sizeOf30
 v22:=Tryz.zeroValue30 }
open Go.RowKit Go.Lib in
theorem Tryz.bytes_Count_one(b o n c b2 o2 d:Nat)(xs:List Int)(cv:Int)(w:World)(hx:xs.length=n)(hc:∀i,i<n→w.cell? ⟨b,o+i,none⟩=some (.int .u8 (xs.getD i 0)))(hc2:w.cell? ⟨b2,o2,none⟩=some (.int .u8 cv)):
 Calls Tryz.prog 194 #[.slice (some ⟨b,o,none⟩) n c,.slice (some ⟨b2,o2,none⟩) 1 d] w fun e w'=>e= .returned (.int .i64 (Lib.countByte (Lib.bytesOf xs) cv.toNat.toUInt8))∧w'=w:=Any.bytes_Count_one Tryz.laysSlB13 b o n c b2 o2 d xs cv w hx hc hc2
open Go.RowKit Go.Lib in
theorem Tryz.bytes_Count_one_at(a:Addr)(n c b2 o2 d:Nat)(xs:List Int)(cv:Int)(w:World)(hx:xs.length=n)(hc:∀i,i<n→w.cell? (a.add i)=some (.int .u8 (xs.getD i 0)))(hc2:w.cell? ⟨b2,o2,none⟩=some (.int .u8 cv)):
 Calls Tryz.prog 194 #[.slice (some a) n c,.slice (some ⟨b2,o2,none⟩) 1 d] w fun e w'=>e= .returned (.int .i64 (Lib.countByte (Lib.bytesOf xs) cv.toNat.toUInt8))∧w'=w:=Any.bytes_Count_one_at Tryz.laysSlB13 a n c b2 o2 d xs cv w hx hc hc2
end Go.Proofs
end
section
namespace Go.Proofs.YthoonfpkfdjhiaaGreatDoor
open Go Go.Abs Go.RowKit Go.Fld Go.Shelf
theorem sIndex_c(s:Bs)(c:UInt8):ACalls E 114 [str s,.v (.int .u8 c.toNat)] (fun r t=>r=i64 (Lib.indexByte s c)∧t=[]):=
 ACalls.of_pure (E:=E) (f:=114) (xs:=[.string ⟨s.toArray⟩,.int .u8 c.toNat]) (S:=fun v=>v= .int .i64 (Lib.indexByte s c))
  (fun w _=>(Tryz.strings_IndexByte _ _ w).mono (by rintro e w' ⟨rfl,rfl⟩;exact⟨⟨_,rfl,by simp⟩,rfl⟩))
  (by rintro v rfl;exact⟨_,fun _=> .v _,rfl,rfl⟩)
theorem cutPrefix_c(s p:Bs):ACalls E 163 [str s,str p] (fun r t=>r= .tup [str (Lib.trimPrefix s p),bl (Lib.hasPrefix s p)]∧t=[]):=
 ACalls.of_pure (E:=E) (f:=163) (xs:=[.string ⟨s.toArray⟩,.string ⟨p.toArray⟩]) (S:=fun v=>v= .tuple #[.string ⟨(Lib.trimPrefix s p).toArray⟩,.bool (Lib.hasPrefix s p)])
  (fun w _=>(Tryz.strings_CutPrefix _ _ w).mono (by rintro e w' ⟨rfl,rfl⟩;exact⟨⟨_,rfl,by simp⟩,rfl⟩))
  (by rintro v rfl;exact⟨_,fun _=> .tup [_,_] [_,_] rfl (fun i c u h1 h2=>by
    match i with
    |0=>simp at h1 h2;subst h1;subst h2;exact .v _
    |1=>simp at h1 h2;subst h1;subst h2;exact .v _
    |i+2=>simp at h1),rfl,rfl⟩)
theorem tup2{im:Im}(a b:Value):VR0 im (.tup [.v a,.v b]) (.tuple #[a,b]):= .tup [_,_] [_,_] rfl (fun i c u h1 h2=>by
 match i with
 |0=>simp at h1 h2;subst h1;subst h2;exact .v _
 |1=>simp at h1 h2;subst h1;subst h2;exact .v _
 |i+2=>simp at h1)
theorem tup3{im:Im}(a b d:Value):VR0 im (.tup [.v a,.v b,.v d]) (.tuple #[a,b,d]):= .tup [_,_,_] [_,_,_] rfl (fun i c u h1 h2=>by
 match i with
 |0=>simp at h1 h2;subst h1;subst h2;exact .v _
 |1=>simp at h1 h2;subst h1;subst h2;exact .v _
 |2=>simp at h1 h2;subst h1;subst h2;exact .v _
 |i+3=>simp at h1)
theorem below_grow(w:World)(k:Nat)(os:Array Obj):Go.RowKit.Below w.heap.size w (Sort.grow (w.drewN k) os):=
 ⟨rfl,rfl,rfl,by simp[Sort.grow,World.drewN],fun i hi=>by simp[Sort.grow,World.drewN,Array.getElem?_append_left hi]⟩
theorem below_drewN(w:World)(k:Nat):Go.RowKit.Below w.heap.size w (w.drewN k):=⟨rfl,rfl,rfl,Nat.le_refl _,fun _ _=>rfl⟩
theorem formatInt_c(n:Int)(h0:-9223372036854775808≤n)(h1:n≤9223372036854775807):ACalls E 116 [i64 n,i64 10] (fun r t=>r=str (Lib.itoa n)∧t=[]):=
 ACalls.of_below (E:=E) (f:=116) (xs:=[.int .i64 n,.int .i64 10]) (S:=fun v=>v= .string ⟨(Lib.itoa n).toArray⟩)
  (fun w hok=>(Tryz.strconv_FormatInt_10 n h0 h1 w hok.1).mono (by rintro e w' ⟨rfl,k,os,rfl⟩;exact⟨⟨_,rfl,rfl⟩,kb (below_grow w k os)⟩))
  (by rintro v rfl;exact⟨_,fun _=> .v _,rfl,rfl⟩)
theorem parseUint_c(s:Bs)(hs:s.length≤281474976710656)(hd:s.all isDig=true)(hne:s≠[]):
 ACalls E 164 [str s,i64 10,i64 64] (fun r t=>t=[]∧((decVal 0 s<18446744073709551616∧r= .tup [.v (.int .u64 (decVal 0 s:Nat)),.v .nilIface])∨
  (18446744073709551616≤decVal 0 s∧∃u p q,r= .tup [.v (.int .u64 u),.v (.iface p q)]))):=by
 have key:∀(l:Bs) (a:Nat),l.all isDig=true→a<18446744073709551616→(decVal a l<18446744073709551616∧Lib.parseUintM (2^64-1) a l= .ok (decVal a l))∨(18446744073709551616≤decVal a l∧Lib.parseUintM (2^64-1) a l= .range):=by
  intro l
  induction l with
  |nil=>intro a _ ha;left;rw[decVal_nil];exact⟨ha,rfl⟩
  |cons c l ih=>
   intro a hl ha
   simp only[List.all_cons,Bool.and_eq_true,isDig,decide_eq_true_eq] at hl
   rw[decVal_cons,Lib.parseUintM,if_pos hl.1]
   have hle:=decVal_le (a*10+(c.toNat-48)) l
   by_cases h1:1844674407370955162≤a
   ·rw[if_pos h1];right;exact⟨by omega,rfl⟩
   ·rw[if_neg h1]
    by_cases h2:2^64-1<a*10+(c.toNat-48)
    ·rw[if_pos h2];right;exact⟨by omega,rfl⟩
    ·rw[if_neg h2];exact ih _ hl.2 (by omega)
 have hp:Lib.parseUintB 64 s=Lib.parseUintM (2^64-1) 0 s:=by unfold Lib.parseUintB;rw[if_neg hne]
 have hsz:(⟨s.toArray⟩:ByteArray).size=s.length:=by simp[ByteArray.size]
 rcases key s 0 hd (by decide) with⟨h1,h2⟩|⟨h1,h2⟩
 ·exact ACalls.of_below (E:=E) (f:=164) (xs:=[.string ⟨s.toArray⟩,.int .i64 10,.int .i64 64]) (S:=fun v=>v= .tuple #[.int .u64 (decVal 0 s:Nat),.nilIface])
   (fun w hok=>(Tryz.strconv_ParseUint_10_at64_ok ⟨s.toArray⟩ (by rw[hsz];omega) (decVal 0 s) (by rw[←h2,←hp]) w).mono (by
     rintro e w' ⟨rfl,rfl|rfl⟩
     ·exact⟨⟨_,rfl,rfl⟩,kb (Go.RowKit.Below.refl _ _)⟩
     ·exact⟨⟨_,rfl,rfl⟩,kb (Lib.bytesWorld_below w _ _)⟩))
   (by rintro v rfl;exact⟨_,fun _=>tup2 _ _,rfl,.inl ⟨h1,rfl⟩⟩)
 ·exact ACalls.of_below (E:=E) (f:=164) (xs:=[.string ⟨s.toArray⟩,.int .i64 10,.int .i64 64]) (S:=fun v=>∃p q,v= .tuple #[.int .u64 18446744073709551615,.iface p q])
   (fun w hok=>by
     obtain⟨tp,p,hv⟩:=hok.2.1
     exact(Tryz.strconv_ParseUint_10_at64_range_var ⟨s.toArray⟩ (by rw[hsz];exact hs) (by rw[←h2,←hp]) tp p w hv).mono (by
      rintro e w' ⟨N,rfl,_,_,hb⟩
      exact⟨⟨_,rfl,_,_,rfl⟩,kb hb⟩))
   (by rintro v ⟨p,q,rfl⟩;exact⟨_,fun _=>tup2 _ _,rfl,.inr ⟨h1,_,_,_,rfl⟩⟩)
theorem ifc89:(∃ms,Tryz.prog.underlying 230=some (.interface ms))=True:=eq_true ⟨#[("Error",373)],by kernel_rfl⟩
attribute [go_sem] ifc89
theorem tupP{s:Bs}{a b:Int}(h:parseF s=(a,b)):AV.tup [.v (.int .i64 a),.v (.int .i64 b)]=AV.tup [i64 (parseF s).1,i64 (parseF s).2]:=by rw[h]
theorem wrapn{n:Nat}(h:¬(4611686018427387904:Int)<(n:Int)):IntKind.i64.wrap (n:Int)=n∧IntKind.i64.wrap (0-(n:Int))= -(n:Int):=by
 constructor<;>(rw[IntKind.wrap_i64];omega)
end Go.Proofs.YthoonfpkfdjhiaaGreatDoor
end
section
namespace Go.Proofs.YthoonfpkfdjhiaaGreatDoor
open Go Go.Abs Go.RowKit Go.Bk Go.Msg
abbrev exV(x:Ex):AV:= .agg [str x.id,str x.ref,str x.ord,str x.acc,str x.sym,i64 x.kind,bl x.buy,i64 x.qty,i64 x.price,i64 x.time]
abbrev mgV(m:Mg):AV:= .agg [i64 m.kind,i64 m.seq,i64 m.time,bl m.copy,i64 m.a,i64 m.b,bl m.gap,str m.text,str m.exec.id,str m.exec.ref,str m.exec.ord,str m.exec.acc,str m.exec.sym,i64 m.exec.kind,bl m.exec.buy,i64 m.exec.qty,i64 m.exec.price,i64 m.exec.time]
theorem mg_eq(m n:Mg):(decide (m.kind=n.kind)&&(decide (m.seq=n.seq)&&(decide (m.time=n.time)&&(decide (m.copy=n.copy)&&(decide (m.a=n.a)&&(decide (m.b=n.b)&&(decide (m.gap=n.gap)&&(decide (m.text=n.text) &&
 (decide (m.exec.id=n.exec.id)&&(decide (m.exec.ref=n.exec.ref)&&(decide (m.exec.ord=n.exec.ord)&&(decide (m.exec.acc=n.exec.acc)&&(decide (m.exec.sym=n.exec.sym)&&(decide (m.exec.kind=n.exec.kind)&&(decide (m.exec.buy=n.exec.buy) &&
 (decide (m.exec.qty=n.exec.qty)&&(decide (m.exec.price=n.exec.price)&&(decide (m.exec.time=n.exec.time)&&true))))))))))))))))))=decide (m=n):=by
 obtain⟨k,s,t,c,a,b,g,x,e⟩:=m
 obtain⟨k',s',t',c',a',b',g',x',e'⟩:=n
 obtain⟨e1,e2,e3,e4,e5,e6,e7,e8,e9,e10⟩:=e
 obtain⟨f1,f2,f3,f4,f5,f6,f7,f8,f9,f10⟩:=e'
 rw[Bool.eq_iff_iff]
 simp[and_assoc]
abbrev exOk(x:Ex):Prop:=x.id.length≤9223372036854775807∧x.ref.length≤9223372036854775807∧x.ord.length≤9223372036854775807∧x.acc.length≤9223372036854775807∧x.sym.length≤9223372036854775807
theorem exec_kind{x:Ex}(h:x.kind<1∨8<x.kind):execB x=false:=by
 unfold execB;rw[if_neg (by omega),if_neg (by omega)];simp
theorem exec_oth{x:Ex}(h1:¬(x.kind=4∨x.kind=7∨x.kind=8))(h2:1≤x.kind∧x.kind≤8):execB x=(nameB x.id&&nameB x.ord&&nameB x.acc&&nameB x.sym&&decide (x.ref=[])&&smallB x.qty&&smallB x.price&&whenB x.time):=by
 unfold execB;rw[if_neg h1,if_pos (by omega)]
theorem msmall_c(n:Int):ACalls E 112 [i64 n] (fun r t=>r=bl (smallB n)∧t=[]):=by
 refine ACalls.of_awp (n:=9) (rs:=[.tmp 2]) Tryz.func112 rfl Tryz.ntmps112 rfl ?_
 repeat'(first
 |refine AWP.seqk fun K hK=>?_
 |(refine AWP.region ?_;simp only[go_sem])
 |(refine hK _ ?_;clear hK K)
 |(refine AGuard.split (fun h=>?_) (fun h=>?_)<;>simp only[h,go_sem]<;>(try simp only[dD] at h))
 |(
  refine AWP.ret ?_
  refine AEnd.is ?_;simp only[go_sem,out_v,out_s,out_n,v_int,v_bool,v_str]<;>(simp_all[smallB]<;>omega)))
theorem mwhen_c(n:Int):ACalls E 113 [i64 n] (fun r t=>r=bl (whenB n)∧t=[]):=by
 refine ACalls.of_awp (n:=9) (rs:=[.tmp 2]) Tryz.func113 rfl Tryz.ntmps113 rfl ?_
 repeat'(first
 |refine AWP.seqk fun K hK=>?_
 |(refine AWP.region ?_;simp only[go_sem])
 |(refine hK _ ?_;clear hK K)
 |(refine AGuard.split (fun h=>?_) (fun h=>?_)<;>simp only[h,go_sem]<;>(try simp only[dD] at h))
 |(
  refine AWP.ret ?_
  refine AEnd.is ?_;simp only[go_sem,out_v,out_s,out_n,v_int,v_bool,v_str]<;>(simp_all[whenB]<;>omega)))
theorem mname_c(s:List UInt8):ACalls E 111 [str s] (fun r t=>r=bl (nameB s)∧t=[]):=by
 refine ACalls.of_awp (n:=45) (rs:=[.tmp 2]) Tryz.func111 rfl Tryz.ntmps111 rfl ?_
 repeat'(first
 |refine AWP.seqk fun K hK=>?_
 |(refine AWP.region ?_;simp only[go_sem])
 |(refine hK _ ?_;clear hK K)
 |refine AWP.block ?_
 |refine AWP.cond rfl (fun c=>?_) (fun c=>?_)<;>first|exact Bool.noConfusion c|(try simp only[dD] at c)
 |refine AWP.skip ?_
 |(refine AWP.exit ?_;simp only[go_sem])
 |(refine AGuard.splitN (fun h=>?_) (fun h=>?_)<;>simp only[h,go_sem]<;>(try simp only[dD] at h))
 |(refine AGuard.split (fun h=>?_) (fun h=>?_)<;>simp only[h,go_sem]<;>(try simp only[dD] at h))
 |((refine AGet.nth1 ?_ (fun b hb=>?_));(focus(omega));(try simp only[hb,go_sem]))
 |(
  refine AWP.here 4 16 1 rfl ?_
  refine AWP.loopN (ι:=Nat) [2,3,4,16,17,18,19,20,21,22,23,24,25,26,27,28,29,30,31,32,33,34,35,36,37,38,39,40,41,42,43,44] (fun(i:Nat)=>[(15,i64 i)]) (fun(i:Nat)=>i≤s.length∧s.length≤16∧(s.take i).all isName=true) (fun(i:Nat)=>s.length-i) (0) ?_ ?_ ?_
  ·(try simp only[go_sem]);(repeat'(first|fail));done
  ·exact⟨by omega,by omega,by simp⟩
  rintro i ⟨h1,h2,h3⟩
  simp only[go_sem])
 |(
  refine⟨i+1,?_,?_,?_⟩
  ·(try simp only[go_sem]);(try rw[wrap64_id (by omega) (by omega)]);(repeat'(exact .inr rfl));done
  ·exact⟨by omega,by omega,Go.Bk.all_next hb h3 (by simp only[isName];simp;omega)⟩
  ·(try simp only[]);omega)
 |(
  refine AWP.ret ?_
  refine AEnd.is ?_;simp only[go_sem,out_v,out_s,out_n,v_int,v_bool,v_str]<;>(first
  |(rw[name_no1 (by omega)];done)
  |(rw[name_no2 hb (by simp only[isName];simp;omega)];done)
  |(rw[name_yes (by omega) (by omega) h3];done)))
 |refine AWP.fin (by assumption) ?_)
theorem mexec_c(x:Ex):ACalls E 56 [exV x] (fun r t=>r=bl (execB x)∧t=[]):=by
 refine ACalls.of_awp (n:=57) (rs:=[.tmp 2]) Tryz.func56 rfl Tryz.ntmps56 rfl ?_
 repeat'(first
 |refine AWP.seqk fun K hK=>?_
 |(refine AWP.region ?_;simp only[go_sem])
 |(refine hK _ ?_;clear hK K)
 |refine AWP.block ?_
 |refine AWP.cond rfl (fun c=>?_) (fun c=>?_)<;>first|exact Bool.noConfusion c|(try simp only[dD] at c)
 |refine AWP.skip ?_
 |(refine ACall.one (mname_c _) (by kernel_rfl) rfl ?_;simp only[go_sem])
 |(refine ACall.one (msmall_c _) (by kernel_rfl) rfl ?_;simp only[go_sem])
 |(refine ACall.one (mwhen_c _) (by kernel_rfl) rfl ?_;simp only[go_sem])
 |(refine AGuard.split (fun h=>?_) (fun h=>?_)<;>simp only[h,go_sem]<;>(try simp only[dD] at h))
 |(
  refine AWP.ret ?_
  refine AEnd.is ?_;simp only[go_sem,out_v,out_s,out_n,v_int,v_bool,v_str]<;>(simp_all[execB])))
theorem r5small_c(n:Int):ACalls E 119 [i64 n] (fun r t=>r=bl (smallB n)∧t=[]):=by
 refine ACalls.of_awp (n:=9) (rs:=[.tmp 2]) Tryz.func119 rfl Tryz.ntmps119 rfl ?_
 repeat'(first
 |refine AWP.seqk fun K hK=>?_
 |(refine AWP.region ?_;simp only[go_sem])
 |(refine hK _ ?_;clear hK K)
 |(refine AGuard.split (fun h=>?_) (fun h=>?_)<;>simp only[h,go_sem]<;>(try simp only[dD] at h))
 |(
  refine AWP.ret ?_
  refine AEnd.is ?_;simp only[go_sem,out_v,out_s,out_n,v_int,v_bool,v_str]<;>(simp_all[smallB]<;>omega)))
theorem r5time_c(n:Int):ACalls E 120 [i64 n] (fun r t=>r=bl (whenB n)∧t=[]):=by
 refine ACalls.of_awp (n:=9) (rs:=[.tmp 2]) Tryz.func120 rfl Tryz.ntmps120 rfl ?_
 repeat'(first
 |refine AWP.seqk fun K hK=>?_
 |(refine AWP.region ?_;simp only[go_sem])
 |(refine hK _ ?_;clear hK K)
 |(refine AGuard.split (fun h=>?_) (fun h=>?_)<;>simp only[h,go_sem]<;>(try simp only[dD] at h))
 |(
  refine AWP.ret ?_
  refine AEnd.is ?_;simp only[go_sem,out_v,out_s,out_n,v_int,v_bool,v_str]<;>(simp_all[whenB]<;>omega)))
theorem r5name_c(s:List UInt8)(hs:s.length≤9223372036854775807):ACalls E 63 [str s] (fun r t=>r=bl (nameB s)∧t=[]):=by
 refine ACalls.of_awp (n:=47) (rs:=[.tmp 2]) Tryz.func63 rfl Tryz.ntmps63 rfl ?_
 repeat'(first
 |refine AWP.seqk fun K hK=>?_
 |(refine AWP.region ?_;simp only[go_sem])
 |(refine hK _ ?_;clear hK K)
 |refine AWP.block ?_
 |refine AWP.cond rfl (fun c=>?_) (fun c=>?_)<;>first|exact Bool.noConfusion c|(try simp only[dD] at c)
 |refine AWP.skip ?_
 |(refine AWP.exit ?_;simp only[go_sem])
 |(refine AGuard.splitN (fun h=>?_) (fun h=>?_)<;>simp only[h,go_sem]<;>(try simp only[dD] at h))
 |(refine AGuard.split (fun h=>?_) (fun h=>?_)<;>simp only[h,go_sem]<;>(try simp only[dD] at h))
 |((refine AGet.nth1 ?_ (fun b hb=>?_));(focus(omega));(try simp only[hb,go_sem]))
 |(
  refine AWP.here 2 5 4 rfl ?_
  refine AWP.loopN (ι:=Nat) [2,4,5,6,7,8,9,10,11,12,13,14,15,16,17,18,19,20,21,22,23,24,25,26,27,28,29,30,31,32,33,34,35,36,37,38] (fun(i:Nat)=>[(3,i64 i)]) (fun(i:Nat)=>i≤s.length∧(s.take i).all isName=true) (fun(i:Nat)=>s.length-i) (0) ?_ ?_ ?_
  ·(try simp only[go_sem]);(repeat'(first|fail));done
  ·exact⟨by omega,by simp⟩
  rintro i ⟨h1,h2⟩
  simp only[go_sem])
 |(
  refine⟨i+1,?_,?_,?_⟩
  ·(try simp only[go_sem]);(try rw[wrap64_id (by omega) (by omega)]);(repeat'(exact .inr rfl));done
  ·exact⟨by omega,Go.Bk.all_next hb h2 (by simp only[isName];simp;omega)⟩
  ·(try simp only[]);omega)
 |(
  refine AWP.ret ?_
  refine AEnd.is ?_;simp only[go_sem,out_v,out_s,out_n,v_int,v_bool,v_str]<;>(first
  |(rw[name_no2 hb (by simp only[isName];simp;omega)];done)
  |(rw[List.take_of_length_le (by omega)] at h2;rw[Bool.eq_iff_iff];simp[nameB,h2];omega)))
 |refine AWP.fin (by assumption) ?_)
theorem r5exec_c(x:Ex)(hx:exOk x):ACalls E 65 [exV x] (fun r t=>r=bl (execB x)∧t=[]):=by
 obtain⟨hs1,hs2,hs3,hs4,hs5⟩:=hx
 refine ACalls.of_awp (n:=68) (rs:=[.tmp 2]) Tryz.func65 rfl Tryz.ntmps65 rfl ?_
 repeat'(first
 |refine AWP.seqk fun K hK=>?_
 |(refine AWP.region ?_;simp only[go_sem])
 |(refine hK _ ?_;clear hK K)
 |refine AWP.cond rfl (fun c=>?_) (fun c=>?_)<;>first|exact Bool.noConfusion c|(try simp only[dD] at c)
 |refine AWP.skip ?_
 |(refine ACall.one (r5name_c _ (by assumption)) (by kernel_rfl) rfl ?_;simp only[go_sem])
 |(refine ACall.one (r5small_c _) (by kernel_rfl) rfl ?_;simp only[go_sem])
 |(refine ACall.one (r5time_c _) (by kernel_rfl) rfl ?_;simp only[go_sem])
 |(refine AGuard.splitN (fun h=>?_) (fun h=>?_)<;>simp only[h,go_sem]<;>(try simp only[dD] at h))
 |(refine AGuard.split (fun h=>?_) (fun h=>?_)<;>simp only[h,go_sem]<;>(try simp only[dD] at h))
 |(
  refine AWP.ret ?_
  refine AEnd.is ?_;simp only[go_sem,out_v,out_s,out_n,v_int,v_bool,v_str]<;>(first|(simp_all[execB];done)|(rw[exec_kind (by omega)];done)|(rw[exec_oth (by omega) (by omega)];simp[*];done))))
theorem msays_c(s:List UInt8):ACalls E 193 [str s] (fun r t=>r=bl (saysB s)∧t=[]):=by
 refine ACalls.of_awp (n:=11) (rs:=[.tmp 2]) Tryz.func193 rfl Tryz.ntmps193 rfl ?_
 repeat'(first
 |refine AWP.seqk fun K hK=>?_
 |(refine AWP.region ?_;simp only[go_sem])
 |(refine hK _ ?_;clear hK K)
 |(refine ACall.one (sIndex_c s 1) (by kernel_rfl) rfl ?_;simp only[go_sem])
 |(refine AGuard.split (fun h=>?_) (fun h=>?_)<;>simp only[h,go_sem]<;>(try simp only[dD] at h))
 |(
  refine AWP.ret ?_
  refine AEnd.is ?_;simp only[go_sem,out_v,out_s,out_n,v_int,v_bool,v_str]<;>(first|(simp only[saysB,Fld.index_neg];rw[decide_eq_true (p:=s.length≤64) (by omega),Bool.true_and];done)|(simp only[saysB,Fld.index_neg];rw[decide_eq_false (p:=s.length≤64) (by omega),Bool.false_and];done))))
end Go.Proofs.YthoonfpkfdjhiaaGreatDoor
end
section
namespace Go.Proofs.YthoonfpkfdjhiaaGreatDoor
open Go Go.Abs Go.RowKit Go.Fld
theorem nshow_c(n:Int):ACalls E 58 [i64 n] (fun r t=>r=str (showF n)∧t=[]):=by
 refine ACalls.of_awp (n:=8) (rs:=[.tmp 2]) Tryz.func58 rfl Tryz.ntmps58 rfl ?_
 refine AWP.seqk fun K1 hK1=>?_
 refine AWP.region ?_
 simp only[go_sem]
 refine hK1 _ ?_;clear hK1 K1
 refine AWP.seqk fun K2 hK2=>?_
 refine AWP.seqk fun K3 hK3=>?_
 refine AWP.region ?_
 simp only[go_sem]
 repeat'((refine ACall.one (nright_c _) (by kernel_rfl) rfl ?_;simp only[go_sem]))
 refine hK3 _ ?_;clear hK3 K3
 refine AWP.cond rfl (fun c5=>?_) (fun c5=>?_)
 ·(
   try simp only[dD] at c5
   refine AWP.seqk fun K4 hK4=>?_
   refine AWP.region ?_
   simp only[go_sem]
   refine hK4 _ ?_;clear hK4 K4
   refine AWP.ret ?_
   try simp only[go_sem]
   clear hK2 K2
   exact⟨[],.v _,rfl,rfl,by(unfold showF;rw[c5];rfl),rfl⟩)
 ·(
   try simp only[dD] at c5
   refine AWP.skip ?_
   refine hK2 _ ?_;clear hK2 K2
   refine AWP.seqk fun K5 hK5=>?_
   refine AWP.region ?_
   simp only[go_sem]
   repeat'((refine ACall.one (formatInt_c _ (by have:=numOK_iff.1 c5;omega) (by have:=numOK_iff.1 c5;omega)) (by kernel_rfl) rfl ?_;simp only[go_sem]))
   refine hK5 _ ?_;clear hK5 K5
   refine AWP.ret ?_
   try simp only[go_sem]
   exact⟨[],.v _,rfl,rfl,by(unfold showF;rw[c5];rfl),rfl⟩)
theorem nparse_c(s:Bs):ACalls E 125 [str s] (fun r t=>r= .tup [i64 (parseF s).1,i64 (parseF s).2]∧t=[]):=by
 have hsl:=signed_len s
 refine ACalls.of_awp (n:=65) (rs:=[.tmp 2,.tmp 3]) Tryz.func125 rfl Tryz.ntmps125 rfl ?_
 refine AWP.seqk fun K1 hK1=>?_
 refine AWP.region ?_
 simp only[go_sem,(signed_eq s).1,(signed_eq s).2]
 refine hK1 _ ?_;clear hK1 K1
 refine AWP.seqk fun K2 hK2=>?_
 refine AWP.seqk fun K3 hK3=>?_
 refine AWP.region ?_
 simp only[go_sem,(signed_eq s).1,(signed_eq s).2]
 refine hK3 _ ?_;clear hK3 K3
 refine AWP.cond rfl (fun c11=>?_) (fun c11=>?_)
 ·(
   try simp only[dD] at c11
   refine AWP.seqk fun K4 hK4=>?_
   refine AWP.region ?_
   simp only[go_sem,(signed_eq s).1,(signed_eq s).2]
   refine hK4 _ ?_;clear hK4 K4
   refine AWP.ret ?_
   try simp only[go_sem]
   clear hK2 K2
   exact⟨[],.tup [.v _,.v _],rfl,⟨rfl,rfl,trivial⟩,by
    (exact tupP (parse_long (by omega))),rfl⟩)
 ·(
   try simp only[dD] at c11
   refine AWP.skip ?_
   refine hK2 _ ?_;clear hK2 K2
   refine AWP.seqk fun K5 hK5=>?_
   refine AWP.region ?_
   simp only[go_sem,(signed_eq s).1,(signed_eq s).2]
   repeat'((refine ACall.one (cutPrefix_c _ _) (by kernel_rfl) rfl ?_;simp only[go_sem,(signed_eq s).1,(signed_eq s).2]))
   refine hK5 _ ?_;clear hK5 K5
   refine AWP.seqk fun K6 hK6=>?_
   refine AWP.seqk fun K7 hK7=>?_
   refine AWP.region ?_
   simp only[go_sem,(signed_eq s).1,(signed_eq s).2]
   repeat'(first|(refine AGuard.splitN (fun h=>?_) (fun h=>?_)<;>simp only[h,go_sem,(signed_eq s).1,(signed_eq s).2]<;>try simp only[dD] at h)|(refine AGuard.split (fun h=>?_) (fun h=>?_)<;>simp only[h,go_sem,(signed_eq s).1,(signed_eq s).2]<;>try simp only[dD] at h)|((refine AGet.nth1 ?_ (fun b hb=>?_));(focus((exact List.length_pos_iff.2 (by assumption))));(try simp only[hb,go_sem,(signed_eq s).1,(signed_eq s).2])))
   all_goals(
    refine hK7 _ ?_;clear hK7 K7
    refine AWP.cond rfl (fun c31=>?_) (fun c31=>?_)
    ·first|exact Bool.noConfusion c31|(
      try simp only[dD] at c31
      refine AWP.seqk fun K8 hK8=>?_
      refine AWP.region ?_
      simp only[go_sem,(signed_eq s).1,(signed_eq s).2]
      refine hK8 _ ?_;clear hK8 K8
      refine AWP.ret ?_
      try simp only[go_sem]
      clear hK6 K6
      exact⟨[],.tup [.v _,.v _],rfl,⟨rfl,rfl,trivial⟩,by
       first
       |exact tupP (parse_form (by omega) (.inl (by assumption)))
       |exact tupP (parse_form (by omega) (form_yes1 hb (by assumption) (by assumption)))
       |exact tupP (parse_form (by omega) (form_yes2 hb (by assumption) (by assumption))),rfl⟩)
    ·first|exact Bool.noConfusion c31|(
      try simp only[dD] at c31
      refine AWP.skip ?_
      refine hK6 _ ?_;clear hK6 K6
      refine AWP.seqk fun K9 hK9=>?_
      refine AWP.seqk fun K10 hK10=>?_
      refine AWP.region ?_
      simp only[go_sem,(signed_eq s).1,(signed_eq s).2]
      refine hK10 _ ?_;clear hK10 K10
      refine AWP.block ?_
      refine AWP.loopH (ι:=Nat) [2,3,6,35,36,37,38,39,40,41,42,43,44,45,46,47] (fun(i:Nat)=>[(34,i64 i)]) (fun(i:Nat)=>i≤(signed s).1.length∧((signed s).1.take i).all isDig=true) (fun(i:Nat)=>(signed s).1.length-i) (0) ?_ ?_ ?_
      ·(try simp only[go_sem]);try(simp;done)
      ·simp
      rintro i ⟨h1,h2⟩
      simp only[go_sem]
      refine AWP.seqk fun K11 hK11=>?_
      refine AWP.region ?_
      simp only[go_sem,(signed_eq s).1,(signed_eq s).2]
      refine hK11 _ ?_;clear hK11 K11
      refine AWP.seqk fun K12 hK12=>?_
      refine AWP.cond rfl (fun c35=>?_) (fun c35=>?_)
      ·(
        try simp only[dD] at c35
        refine AWP.skip ?_
        refine hK12 _ ?_;clear hK12 K12
        refine AWP.seqk fun K13 hK13=>?_
        refine AWP.block ?_
        refine AWP.seqk fun K14 hK14=>?_
        refine AWP.region ?_
        simp only[go_sem,(signed_eq s).1,(signed_eq s).2]
        refine hK14 _ ?_;clear hK14 K14
        refine AWP.seqk fun K15 hK15=>?_
        refine AWP.region ?_
        simp only[go_sem,(signed_eq s).1,(signed_eq s).2]
        repeat'(first|(refine AGuard.splitN (fun h=>?_) (fun h=>?_)<;>simp only[h,go_sem,(signed_eq s).1,(signed_eq s).2]<;>try simp only[dD] at h)|(refine AGet.have' (by assumption) ?_;(try simp only[go_sem,(signed_eq s).1,(signed_eq s).2]))|((refine AGet.nth1 ?_ (fun b hb=>?_));(focus((omega)));(try simp only[hb,go_sem,(signed_eq s).1,(signed_eq s).2])))
        all_goals(
         refine hK15 _ ?_;clear hK15 K15
         refine AWP.cond rfl (fun c46=>?_) (fun c46=>?_)
         ·(
           try simp only[dD] at c46
           refine AWP.seqk fun K16 hK16=>?_
           refine AWP.region ?_
           simp only[go_sem,(signed_eq s).1,(signed_eq s).2]
           refine hK16 _ ?_;clear hK16 K16
           refine AWP.ret ?_
           try simp only[go_sem]
           clear hK13 K13 hK9 K9
           exact⟨[],.tup [.v _,.v _],rfl,⟨rfl,rfl,trivial⟩,by
            first
            |exact tupP (parse_dig (by omega) (all_not hb (.inl h)))
            |exact tupP (parse_dig (by omega) (all_not hb (.inr c46))),rfl⟩)
         ·first|exact Bool.noConfusion c46|(
           try simp only[dD] at c46
           refine AWP.skip ?_
           refine hK13 _ ?_;clear hK13 K13
           refine AWP.region ?_
           simp only[go_sem,(signed_eq s).1,(signed_eq s).2]
           clear hK9 K9
           refine⟨i+1,?_,?_,?_⟩
           ·simp;((rw[wrap64_id (by omega) (by omega)]))
           ·exact⟨by omega,all_next hb h2 (by(assumption)) c46⟩
           ·omega)))
      ·(
        try simp only[dD] at c35
        refine AWP.exit ?_
        simp only[go_sem]
        clear hK12 K12
        refine hK9 _ ?_;clear hK9 K9
        refine AWP.seqk fun K17 hK17=>?_
        refine AWP.region ?_
        simp only[go_sem,(signed_eq s).1,(signed_eq s).2]
        repeat'((refine ACall.of (parseUint_c (signed s).1 (by have:=signed_len s;omega) (all_done h1 c35 h2) (by assumption)) (by kernel_rfl) rfl ?_;rintro r t ⟨rfl,⟨hu,rfl⟩|⟨hu,u,p,q,rfl⟩⟩<;>simp only[go_sem,(signed_eq s).1,(signed_eq s).2]))
        all_goals(
         refine hK17 _ ?_;clear hK17 K17
         refine AWP.seqk fun K18 hK18=>?_
         refine AWP.seqk fun K19 hK19=>?_
         refine AWP.region ?_
         simp only[go_sem,(signed_eq s).1,(signed_eq s).2]
         all_goals(
          refine hK19 _ ?_;clear hK19 K19
          refine AWP.cond rfl (fun c58=>?_) (fun c58=>?_)
          ·(
            try simp only[dD] at c58
            refine AWP.seqk fun K20 hK20=>?_
            refine AWP.region ?_
            simp only[go_sem,(signed_eq s).1,(signed_eq s).2]
            refine hK20 _ ?_;clear hK20 K20
            refine AWP.ret ?_
            try simp only[go_sem]
            clear hK18 K18
            exact⟨[],.tup [.v _,.v _],rfl,⟨rfl,rfl,trivial⟩,by
             (exact tupP (parse_over (by omega) (by first|exact form_no1 (by assumption) (by assumption)|exact form_no2 (by assumption) (by assumption) (by assumption)) (all_done h1 c35 h2) (by omega))),rfl⟩)
          ·first|exact Bool.noConfusion c58|(
            try simp only[dD] at c58
            refine AWP.skip ?_
            refine hK18 _ ?_;clear hK18 K18
            refine AWP.seqk fun K21 hK21=>?_
            refine AWP.seqk fun K22 hK22=>?_
            refine AWP.region ?_
            simp only[go_sem,(signed_eq s).1,(signed_eq s).2]
            refine hK22 _ ?_;clear hK22 K22
            refine AWP.cond rfl (fun c59=>?_) (fun c59=>?_)
            ·first|exact Bool.noConfusion c59|(
              try simp only[dD] at c59
              refine AWP.seqk fun K23 hK23=>?_
              refine AWP.region ?_
              simp only[go_sem,(signed_eq s).1,(signed_eq s).2]
              refine hK23 _ ?_;clear hK23 K23
              refine AWP.ret ?_
              try simp only[go_sem]
              clear hK21 K21
              exact⟨[],.tup [.v _,.v _],rfl,⟨rfl,rfl,trivial⟩,by
               first
               |(have ho:=parse_ok (l:=s) (by omega) (by(exact form_no1 (by assumption) (by assumption))) (all_done h1 c35 h2) (by omega)
                 have hw:=wrapn c58
                 simp only[hw.1,hw.2]
                 (rw[c59] at ho;exact tupP ho)),rfl⟩)
            ·(
              try simp only[dD] at c59
              refine AWP.skip ?_
              refine hK21 _ ?_;clear hK21 K21
              refine AWP.seqk fun K24 hK24=>?_
              refine AWP.region ?_
              simp only[go_sem,(signed_eq s).1,(signed_eq s).2]
              refine hK24 _ ?_;clear hK24 K24
              refine AWP.ret ?_
              try simp only[go_sem]
              exact⟨[],.tup [.v _,.v _],rfl,⟨rfl,rfl,trivial⟩,by
               first
               |(have ho:=parse_ok (l:=s) (by omega) (by first|exact form_no1 (by assumption) (by assumption)|exact form_no2 (by assumption) (by assumption) (by assumption)) (all_done h1 c35 h2) (by omega)
                 have hw:=wrapn c58
                 simp only[hw.1,hw.2]
                 first
                 |(rw[c59] at ho;exact tupP ho)
                 |(rw[(by assumption:(signed s).2=_)] at ho;exact tupP ho)),rfl⟩))))))))
theorem fright_c(f:Fld.Fd):ACalls E 57 [fldV f] (fun r t=>r=bl (rightF f)∧t=[]):=by
 refine ACalls.of_awp (n:=29) (rs:=[.tmp 2]) Tryz.func57 rfl Tryz.ntmps57 rfl ?_
 refine AWP.seqk fun K1 hK1=>?_
 refine AWP.region ?_
 simp only[go_sem]
 refine hK1 _ ?_;clear hK1 K1
 refine AWP.seqk fun K2 hK2=>?_
 refine AWP.region ?_
 simp only[go_sem]
 repeat'(first|(refine ACall.one (sIndex_c _ 1) (by kernel_rfl) rfl ?_;simp only[go_sem])|(refine AGuard.split (fun h=>?_) (fun h=>?_)<;>simp only[h,go_sem]<;>try simp only[dD] at h))
 all_goals(
  refine hK2 _ ?_;clear hK2 K2
  refine AWP.ret ?_
  try simp only[go_sem]
  refine⟨[],.v _,rfl,rfl,congrArg bl (right_eq ?_),rfl⟩
  constructor
  ·intro e
   first
   |exact absurd e (by decide)
   |(simp only[decide_eq_true_eq,Bool.false_eq_true,index_neg] at e;exact⟨by omega,by omega,by omega,by omega,e⟩)
  ·rintro⟨g1,g2,g3,g4,g5⟩
   first
   |(simp only[decide_eq_true_eq,index_neg];exact g5)
   |(exfalso;omega))
theorem fput_c(l:List Fld.Fd):ACalls E 26 [fldsV l] (fun r t=>r= .tup [.sl (some 0) 1 ((putF l).1.map u8),i64 (putF l).2]∧t=[(putF l).1.length]):=by
 refine ACalls.of_awp (n:=36) (rs:=[.tmp 2,.tmp 3]) Tryz.func26 rfl Tryz.ntmps26 rfl ?_
 refine AWP.seqk fun K1 hK1=>?_
 refine AWP.region ?_
 simp only[go_sem]
 refine hK1 _ ?_;clear hK1 K1
 refine AWP.seqk fun K2 hK2=>?_
 refine AWP.seqk fun K3 hK3=>?_
 refine AWP.region ?_
 simp only[go_sem]
 repeat'(((with_reducible refine And.intro ?_ ?_);(focus(((simp;done))));(try simp only[hb,go_sem])))
 refine hK3 _ ?_;clear hK3 K3
 refine AWP.cond rfl (fun c9=>?_) (fun c9=>?_)
 ·(
   try simp only[dD] at c9
   refine AWP.seqk fun K4 hK4=>?_
   refine AWP.region ?_
   simp only[go_sem]
   refine hK4 _ ?_;clear hK4 K4
   refine AWP.ret ?_
   try simp only[go_sem]
   clear hK2 K2
   (exact⟨[(false,1)],.tup [.sl (some 0) 1 [],.v _],rfl,⟨rfl,rfl,trivial⟩,by rw[put_long (by omega)];rfl,by rw[put_long (by omega)];rfl⟩))
 ·(
   try simp only[dD] at c9
   refine AWP.skip ?_
   refine hK2 _ ?_;clear hK2 K2
   refine AWP.seqk fun K5 hK5=>?_
   refine AWP.region ?_
   simp only[go_sem]
   refine hK5 _ ?_;clear hK5 K5
   refine AWP.seqk fun K6 hK6=>?_
   refine AWP.seqk fun K7 hK7=>?_
   refine AWP.region ?_
   simp only[go_sem]
   repeat'(((with_reducible refine And.intro ?_ ?_);(focus(((simp;done))));(try simp only[hb,go_sem])))
   refine hK7 _ ?_;clear hK7 K7
   refine AWP.block ?_
   refine AWP.nilTok 4 1 rfl ?_
   simp only[go_sem]
   refine AWP.loopO (ι:=Nat) [2,3,6,13,14,15,16,17,18,19,20,21,22,23,24,25,26,27,28,29,30,31,32,33,34] (fun(i:Nat)=>[(4,.sl (some 0) 1 ((encL (l.take i)).map u8)),(12,i64 i)]) (fun(i:Nat)=>[]) (fun(i:Nat)=>[(encL (l.take i)).length]) (fun(i:Nat)=>i≤l.length∧(l.take i).all rightF=true) (fun(i:Nat)=>l.length-i) (0) ?_ ?_ ?_
   ·(try simp only[go_sem]);simp[encL]
   ·simp
   rintro i ⟨h1,h2⟩
   simp only[go_sem]
   refine AWP.seqk fun K8 hK8=>?_
   refine AWP.region ?_
   simp only[go_sem]
   refine hK8 _ ?_;clear hK8 K8
   refine AWP.seqk fun K9 hK9=>?_
   refine AWP.cond rfl (fun c13=>?_) (fun c13=>?_)
   ·(
     try simp only[dD] at c13
     refine AWP.skip ?_
     refine hK9 _ ?_;clear hK9 K9
     refine AWP.seqk fun K10 hK10=>?_
     refine AWP.block ?_
     refine AWP.seqk fun K11 hK11=>?_
     refine AWP.region ?_
     simp only[go_sem]
     repeat'(((refine AGet.nth ?_ (fun b hb=>?_));(focus((omega)));(try simp only[hb,go_sem])))
     refine hK11 _ ?_;clear hK11 K11
     refine AWP.seqk fun K12 hK12=>?_
     refine AWP.seqk fun K13 hK13=>?_
     refine AWP.region ?_
     simp only[go_sem]
     repeat'((refine ACall.one (fright_c (_,_)) (by kernel_rfl) rfl ?_;simp only[go_sem]))
     refine hK13 _ ?_;clear hK13 K13
     refine AWP.cond rfl (fun c18=>?_) (fun c18=>?_)
     ·(
       try simp only[dD] at c18
       refine AWP.seqk fun K14 hK14=>?_
       refine AWP.region ?_
       simp only[go_sem]
       refine hK14 _ ?_;clear hK14 K14
       refine AWP.ret ?_
       try simp only[go_sem]
       clear hK12 K12 hK10 K10 hK6 K6
       (exact⟨[(false,1)],.tup [.sl (some 0) 1 [],.v _],rfl,⟨rfl,rfl,trivial⟩,by rw[put_bad (by omega) hb c18];rfl,by rw[put_bad (by omega) hb c18];rfl⟩))
     ·(
       try simp only[dD] at c18
       refine AWP.skip ?_
       refine hK12 _ ?_;clear hK12 K12
       refine AWP.seqk fun K15 hK15=>?_
       have hl0:=enc_take h2
       have hl1:=show_len b.1
       have hl2:=rightF_iff.1 c18
       refine AWP.region ?_
       simp only[go_sem]
       repeat'(first|(refine ACall.one (nshow_c _) (by kernel_rfl) rfl ?_;simp only[go_sem])|((with_reducible refine And.intro ?_ ?_);(focus((omega)));(try simp only[hb,go_sem])))
       refine hK15 _ ?_;clear hK15 K15
       refine AWP.seqk fun K16 hK16=>?_
       refine AWP.region ?_
       simp only[go_sem]
       repeat'(((with_reducible refine And.intro ?_ ?_);(focus((omega)));(try simp only[hb,go_sem])))
       refine hK16 _ ?_;clear hK16 K16
       refine AWP.seqk fun K17 hK17=>?_
       refine AWP.region ?_
       simp only[go_sem]
       repeat'(((with_reducible refine And.intro ?_ ?_);(focus((omega)));(try simp only[hb,go_sem])))
       refine hK17 _ ?_;clear hK17 K17
       refine AWP.region ?_
       simp only[go_sem]
       repeat'(((with_reducible refine And.intro ?_ ?_);(focus((omega)));(try simp only[hb,go_sem])))
       refine hK10 _ ?_;clear hK10 K10
       refine AWP.region ?_
       simp only[go_sem]
       clear hK6 K6
       refine⟨i+1,?_,?_,?_⟩
       ·rw[enc_next hb,wrap64_id (by omega) (by omega)];simp;try omega
       ·exact⟨by omega,by rw[take_next hb,List.all_append,h2];simp[c18]⟩
       ·omega))
   ·(
     try simp only[dD] at c13
     refine AWP.exit ?_
     simp only[go_sem]
     clear hK9 K9
     refine hK6 _ ?_;clear hK6 K6
     refine AWP.seqk fun K18 hK18=>?_
     refine AWP.region ?_
     simp only[go_sem]
     refine hK18 _ ?_;clear hK18 K18
     refine AWP.ret ?_
     try simp only[go_sem]
     (exact⟨[(true,0)],.tup [.sl (some 0) 1 _,.v _],rfl,⟨⟨rfl,rfl,rfl⟩,rfl,trivial⟩,by rw[put_ok (by omega) c13 h2],by rw[put_ok (by omega) c13 h2];rfl⟩)))
end Go.Proofs.YthoonfpkfdjhiaaGreatDoor
end
