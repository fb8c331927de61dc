/- Texts of one chain, put together (StA, MrA, GtC, GtD, Lv, Lq). -/
import Derived.Sort.LotA
import Derived.Test.YtajeeghgiilhiaaGreatKwF
import Derived.Test.YtajeeghgiilhiaaGreatKwK
import Derived.Laws.MakeOwn
set_option linter.unusedVariables false
set_option linter.unusedSimpArgs false
set_option maxHeartbeats 16000000
set_option maxRecDepth 8000
section
set_option linter.unusedSectionVars false
namespace Go.Stb
set_option linter.unusedSectionVars false
open Go.Sort
variable{α:Type}[Inhabited α]
def dM(a b n i:Nat)(d:Array α):Array α:=if i<n then dM a b n (i+1) (swp d (a+i) (b+i)) else d
termination_by n-i
def ed(m i j:Nat)(d:Array α):Array α:=
 if h:i=0∨j=0 then d
 else if i=j then dM (m-i) m i 0 d
 else if j<i then ed m (i-j) j (dM (m-i) m j 0 d)
 else ed m i (j-i) (dM (m-i) (m+j-i) i 0 d)
termination_by i+j
decreasing_by all_goals omega
def da(q:Nat→Bool)(i j:Nat):Nat:=if i<j then(if q ((i+j)/2)=true then da q ((i+j)/2+1) j else da q i ((i+j)/2)) else i
termination_by j-i
decreasing_by all_goals omega
def fZ(k e:Nat)(d:Array α):Array α:=if k+1<e then fZ (k+1) e (swp d k (k+1)) else d
termination_by e-k
def fh(i:Nat):Nat→Array α→Array α
 |0,d=>d
 |k+1,d=>if i<k+1 then fh i k (swp d (k+1) k) else d
section
variable(lt:α→α→Bool)
def dm(a m b:Nat)(d:Array α):Nat:=da (fun c=>!lt d[(a+b)/2+m-1-c]! d[c]!) (if(a+b)/2<m then(a+b)/2+m-b else a) (if(a+b)/2<m then(a+b)/2 else m)
def fc(a m b:Nat)(d:Array α):Array α:=if dm lt a m b d<m∧m<(a+b)/2+m-dm lt a m b d then ed m (m-dm lt a m b d) ((a+b)/2+m-dm lt a m b d-m) d else d
def cC(a m b:Nat)(d:Array α):Array α:=
 if m-a=1 then fZ a (da (fun h=>lt d[h]! d[a]!) m b) d
 else if b-m=1 then fh (da (fun h=>!lt d[m]! d[h]!) a m) m d
 else
  if h2:(a+b)/2<(a+b)/2+m-dm lt a m b d∧(a+b)/2+m-dm lt a m b d<b then
   cC ((a+b)/2) ((a+b)/2+m-dm lt a m b d) b (if h1:a<dm lt a m b d∧dm lt a m b d<(a+b)/2 then cC a (dm lt a m b d) ((a+b)/2) (fc lt a m b d) else fc lt a m b d)
  else if h1:a<dm lt a m b d∧dm lt a m b d<(a+b)/2 then cC a (dm lt a m b d) ((a+b)/2) (fc lt a m b d) else fc lt a m b d
termination_by b-a
decreasing_by all_goals omega
def fP(n a b:Nat)(d:Array α):Array α:=if b≤n then fP n b (b+20) (insertionSort lt d a b) else insertionSort lt d a n
termination_by n+1-b
def eK(n s a b:Nat)(d:Array α):Array α:=
 if s=0 then d else if b≤n then eK n s b (b+2*s) (cC lt a (a+s) b d) else if a+s<n then cC lt a (a+s) n d else d
termination_by n+1-b
def iR(n s:Nat)(d:Array α):Array α:=if h:0<s∧s<n then iR n (s*2) (eK lt n s 0 (2*s) d) else d
termination_by n-s
def iE(d:Array α):Array α:=iR lt d.size 20 (fP lt d.size 0 20 d)
end
theorem sg(d:Array α){i j:Nat}(hi:i<d.size)(hj:j<d.size)(k:Nat):(swp d i j)[k]! =if k=i then d[j]! else if k=j then d[i]! else d[k]! :=by
 by_cases h1:k=i
 ·subst h1;rw[if_pos rfl]
  by_cases h2:k=j
  ·subst h2;exact swp_right d k k hj
  ·exact swp_left d k j hi h2
 ·rw[if_neg h1]
  by_cases h2:k=j
  ·subst h2;rw[if_pos rfl];exact swp_right d i k hj
  ·rw[if_neg h2];exact swp_other d i j k h1 h2
theorem qP{a b n x y:Nat}:∀(r i:Nat) (d:Array α),n-i=r→x≤a→a+n≤y→x≤b→b+n≤y→y≤d.size→PermIn x y d (dM a b n i d)
 |0,i,d,hr,_,_,_,_,_=>by rw[dM,if_neg (by omega)];exact permIn_refl d x y
 |r+1,i,d,hr,h1,h2,h3,h4,h5=>by
  rw[dM,if_pos (by omega)]
  have h:=swp_permIn d x y (a+i) (b+i) (by omega) (by omega) (by omega) (by omega) h5
  exact permIn_trans _ _ _ x y h (qP r (i+1) _ (by omega) h1 h2 h3 h4 (by rw[size_swp];exact h5))
theorem j5(a b n:Nat):∀(r i:Nat) (d:Array α),n-i=r→(dM a b n i d).size=d.size
 |0,i,d,hr=>by rw[dM,if_neg (by omega)]
 |r+1,i,d,hr=>by rw[dM,if_pos (by omega),j5 a b n r (i+1) _ (by omega),size_swp]
theorem qv{a b n:Nat}(hab:a+n≤b):∀(r i:Nat) (d:Array α),n-i=r→b+n≤d.size→∀k,
 (dM a b n i d)[k]! =if a+i≤k∧k<a+n then d[k-a+b]! else if b+i≤k∧k<b+n then d[k-b+a]! else d[k]!
 |0,i,d,hr,hb,k=>by rw[dM,if_neg (by omega),if_neg (by omega),if_neg (by omega)]
 |r+1,i,d,hr,hb,k=>by
  rw[dM,if_pos (by omega),qv hab r (i+1) _ (by omega) (by rw[size_swp];exact hb)]
  have g:=sg d (i:=a+i) (j:=b+i) (by omega) (by omega)
  rw[g,g,g]
  by_cases h1:a+(i+1)≤k∧k<a+n
  ·rw[if_pos h1,if_neg (by omega),if_neg (by omega),if_pos (by omega)]
  ·rw[if_neg h1]
   by_cases h2:b+(i+1)≤k∧k<b+n
   ·rw[if_pos h2,if_neg (by omega),if_neg (by omega),if_neg (by omega),if_pos (by omega)]
   ·rw[if_neg h2]
    by_cases h3:k=a+i
    ·subst h3;rw[if_pos rfl,if_pos (by omega)];congr 1;omega
    ·rw[if_neg h3]
     by_cases h4:k=b+i
     ·subst h4;rw[if_pos rfl,if_neg (by omega),if_pos (by omega)];congr 1;omega
     ·rw[if_neg h4,if_neg (by omega),if_neg (by omega)]
theorem tE{m x y:Nat}:∀(r i j:Nat) (d:Array α),i+j≤r→x+i≤m→m+j≤y→y≤d.size→PermIn x y d (ed m i j d)
 |r,i,j,d,hr,h1,h2,h3=>by
  rw[ed]
  split
  ·exact permIn_refl d x y
  ·rename_i h0
   split
   ·exact qP _ 0 d rfl (by omega) (by omega) (by omega) (by omega) h3
   ·split
    ·rename_i hn hj
     match r,hr with
     |r+1,hr=>exact permIn_trans _ _ _ x y (qP _ 0 d rfl (by omega) (by omega) (by omega) (by omega) h3) (tE r (i-j) j _ (by omega) (by omega) h2 (by rw[j5 _ _ _ _ 0 d rfl];exact h3))
     |0,hr=>omega
    ·rename_i hn hj
     match r,hr with
     |r+1,hr=>exact permIn_trans _ _ _ x y (qP _ 0 d rfl (by omega) (by omega) (by omega) (by omega) h3) (tE r i (j-i) _ (by omega) h1 (by omega) (by rw[j5 _ _ _ _ 0 d rfl];exact h3))
     |0,hr=>omega
theorem u2{m:Nat}:∀(r i j:Nat) (d:Array α),i+j≤r→i≤m→m+j≤d.size→0<i→0<j→∀k,
 (ed m i j d)[k]! =if m-i≤k∧k<m-i+j then d[k+i]! else if m-i+j≤k∧k<m+j then d[k-j]! else d[k]!
 |r,i,j,d,hr,h1,h2,hi,hj,k=>by
  rw[ed,dif_neg (by omega)]
  by_cases e:i=j
  ·subst e
   rw[if_pos rfl,qv (by omega) _ 0 d rfl (by omega)]
   by_cases q1:m-i≤k∧k<m-i+i
   ·rw[if_pos (by omega),if_pos q1];congr 1;omega
   ·rw[if_neg (by omega),if_neg q1]
    by_cases q2:m-i+i≤k∧k<m+i
    ·rw[if_pos (by omega),if_pos q2];congr 1;omega
    ·rw[if_neg (by omega),if_neg q2]
  ·rw[if_neg e]
   by_cases l:j<i
   ·rw[if_pos l]
    match r,hr with
    |0,hr=>omega
    |r+1,hr=>
     rw[u2 r (i-j) j _ (by omega) (by omega) (by rw[j5 _ _ _ _ 0 d rfl];exact h2) (by omega) hj]
     simp only[qv (a:=m-i) (b:=m) (n:=j) (by omega) _ 0 d rfl (by omega)]
     by_cases q1:m-i≤k∧k<m-i+j
     ·rw[if_neg (by omega),if_neg (by omega),if_pos (by omega),if_pos q1];congr 1;omega
     ·by_cases q2:m-i+j≤k∧k<m+j
      ·rw[if_neg q1,if_pos q2]
       by_cases q3:m-(i-j)≤k∧k<m-(i-j)+j
       ·rw[if_pos q3]
        by_cases q4:k+(i-j)<m
        ·omega
        ·rw[if_neg (by omega),if_pos (by omega)];congr 1;omega
       ·rw[if_neg q3,if_pos (by omega),if_neg (by omega),if_neg (by omega)]
      ·rw[if_neg q1,if_neg q2,if_neg (by omega),if_neg (by omega),if_neg (by omega),if_neg (by omega)]
   ·rw[if_neg l]
    match r,hr with
    |0,hr=>omega
    |r+1,hr=>
     rw[u2 r i (j-i) _ (by omega) (by omega) (by rw[j5 _ _ _ _ 0 d rfl];omega) hi (by omega)]
     simp only[qv (a:=m-i) (b:=m+j-i) (n:=i) (by omega) _ 0 d rfl (by omega)]
     by_cases q1:m-i≤k∧k<m-i+j
     ·rw[if_pos q1]
      by_cases q3:k<m-i+(j-i)
      ·rw[if_pos (by omega),if_neg (by omega),if_neg (by omega)]
      ·by_cases q5:k<m
       ·rw[if_neg (by omega),if_pos (by omega)]
        by_cases q4:m-i≤k-(j-i)∧k-(j-i)<m-i+i
        ·rw[if_pos (by omega)];congr 1;omega
        ·omega
       ·rw[if_neg (by omega),if_pos (by omega),if_pos (by omega)];congr 1;omega
     ·by_cases q2:m-i+j≤k∧k<m+j
      ·rw[if_neg q1,if_pos q2,if_neg (by omega),if_neg (by omega),if_neg (by omega),if_pos (by omega)];congr 1;omega
      ·rw[if_neg q1,if_neg q2,if_neg (by omega),if_neg (by omega),if_neg (by omega),if_neg (by omega)]
theorem oY{q:Nat→Bool}{lo hi:Nat}(mono:∀x y,lo≤x→x≤y→y<hi→q y=true→q x=true):∀(r i j:Nat),j-i≤r→lo≤i→i≤j→j≤hi→(∀x,lo≤x→x<i→q x=true)→(∀x,j≤x→x<hi→q x=false)→
 i≤da q i j∧da q i j≤j∧(∀x,lo≤x→x<da q i j→q x=true)∧(∀x,da q i j≤x→x<hi→q x=false)
 |r,i,j,hr,h1,h2,h3,h4,h5=>by
  rw[da]
  by_cases hij:i<j
  ·rw[if_pos hij]
   match r,hr with
   |0,hr=>omega
   |r+1,hr=>
    by_cases hq:q ((i+j)/2)=true
    ·rw[if_pos hq]
     have:=oY mono r ((i+j)/2+1) j (by omega) (by omega) (by omega) h3 (fun x a b=>mono x _ a (by omega) (by omega) hq) h5
     exact⟨by omega,this.2.1,this.2.2⟩
    ·rw[if_neg hq]
     have:=oY mono r i ((i+j)/2) (by omega) h1 (by omega) (by omega) h4 (fun x a b=>by
      cases hx:q x with
      |false=>rfl
      |true=>exact absurd (mono _ x (by omega) a b hx) hq)
     exact⟨this.1,by omega,this.2.2⟩
  ·rw[if_neg hij]
   exact⟨Nat.le_refl _,h2,h4,fun x a b=>h5 x (by omega) b⟩
theorem yi{x y e:Nat}:∀(r k:Nat) (d:Array α),e-k≤r→x≤k→e≤y→y≤d.size→PermIn x y d (fZ k e d)
 |r,k,d,hr,h1,h2,h3=>by
  rw[fZ]
  split
  ·match r,hr with
   |0,hr=>omega
   |r+1,hr=>exact permIn_trans _ _ _ x y (swp_permIn d x y k (k+1) h1 (by omega) (by omega) (by omega) h3) (yi r (k+1) _ (by omega) (by omega) h2 (by rw[size_swp];exact h3))
  ·exact permIn_refl d x y
theorem xU{e:Nat}:∀(r k:Nat) (d:Array α),e-k≤r→e≤d.size→∀x,(fZ k e d)[x]! =if k≤x∧x+1<e then d[x+1]! else if k≤x∧x+1=e then d[k]! else d[x]!
 |r,k,d,hr,h,x=>by
  rw[fZ]
  by_cases hk:k+1<e
  ·rw[if_pos hk]
   match r,hr with
   |0,hr=>omega
   |r+1,hr=>
    rw[xU r (k+1) _ (by omega) (by rw[size_swp];exact h)]
    simp only[sg d (i:=k) (j:=k+1) (by omega) (by omega)]
    by_cases q1:k+1≤x∧x+1<e
    ·rw[if_pos q1,if_neg (by omega),if_neg (by omega),if_pos (by omega)]
    ·rw[if_neg q1]
     by_cases q2:k+1≤x∧x+1=e
     ·rw[if_pos q2,if_neg (by omega),if_pos trivial,if_neg (by omega),if_pos (by omega)]
     ·rw[if_neg q2]
      by_cases q3:x=k
      ·subst q3;rw[if_pos rfl,if_pos (by omega)]
      ·rw[if_neg q3,if_neg (by omega),if_neg (by omega),if_neg (by omega)]
  ·rw[if_neg hk,if_neg (by omega)]
   by_cases q:k≤x∧x+1=e
   ·rw[if_pos q];congr 1;omega
   ·rw[if_neg q]
theorem zD{x y i:Nat}:∀(k:Nat) (d:Array α),x≤i→k<y→y≤d.size→PermIn x y d (fh i k d)
 |0,d,_,_,_=>permIn_refl d x y
 |k+1,d,h1,h2,h3=>by
  unfold fh
  split
  ·exact permIn_trans _ _ _ x y (swp_permIn d x y (k+1) k (by omega) h2 (by omega) (by omega) h3) (zD k _ h1 (by omega) (by rw[size_swp];exact h3))
  ·exact permIn_refl d x y
theorem vT{i:Nat}:∀(k:Nat) (d:Array α),k<d.size→∀x,(fh i k d)[x]! =if i<x∧x≤k then d[x-1]! else if x=i∧i≤k then d[k]! else d[x]!
 |0,d,h,x=>by
  unfold fh
  rw[if_neg (by omega)]
  by_cases q:x=i∧i≤0
  ·rw[if_pos q];congr 1;omega
  ·rw[if_neg q]
 |k+1,d,h,x=>by
  unfold fh
  by_cases hk:i<k+1
  ·rw[if_pos hk,vT k _ (by rw[size_swp];omega)]
   simp only[sg d (i:=k+1) (j:=k) (by omega) (by omega)]
   by_cases q1:i<x∧x≤k
   ·rw[if_pos q1,if_neg (by omega),if_neg (by omega),if_pos (by omega)]
   ·rw[if_neg q1]
    by_cases q2:x=i∧i≤k
    ·rw[if_pos q2,if_neg (by omega),if_pos trivial,if_neg (by omega),if_pos (by omega)]
    ·rw[if_neg q2]
     by_cases q3:x=k+1
     ·subst q3;rw[if_pos rfl,if_pos (by omega)];rfl
     ·rw[if_neg q3,if_neg (by omega),if_neg (by omega),if_neg (by omega)]
  ·rw[if_neg hk,if_neg (by omega)]
   by_cases q:x=i∧i≤k+1
   ·rw[if_pos q];congr 1;omega
   ·rw[if_neg q]
section
variable{lt:α→α→Bool}
theorem asym(h:SWO lt){x y:α}(hxy:lt x y=true):lt y x=false:=by
 cases hyx:lt y x with
 |false=>rfl
 |true=>have:=h.trans x y x hxy hyx;rw[h.irrefl] at this;cases this
theorem nT{a b:Nat}{d d':Array α}(hs:SortedIn lt a b d)(h:∀i,a≤i→i<b→d'[i]! =d[i]!):SortedIn lt a b d':=fun i j hi hij hj=>by
 rw[h i hi (by omega),h j (by omega) hj]
 exact hs i j hi hij hj
theorem Il(hS:SWO lt){a b:Nat}{d:Array α}(hb:b≤d.size)(hab:a+1<b)(h2:SortedIn lt (a+1) b d):
 PermIn a b d (fZ a (da (fun h=>lt d[h]! d[a]!) (a+1) b) d)∧SortedIn lt a b (fZ a (da (fun h=>lt d[h]! d[a]!) (a+1) b) d):=by
 obtain⟨b1,b2,b3,b4⟩:=oY (q:=fun h=>lt d[h]! d[a]!) (lo:=a+1) (hi:=b) (fun x y h1 hxy hy hq=>by
  cases hx:lt d[x]! d[a]! with
  |true=>rfl
  |false=>
   rcases Nat.lt_or_ge x y with h|h
   ·have:=hS.ntrans _ _ _ (h2 x y h1 h hy) hx
    simp only[this] at hq;cases hq
   ·have:x=y:=by omega
    subst this;simp only[hx] at hq;cases hq) _ (a+1) b (Nat.le_refl _) (Nat.le_refl _) (by omega) (Nat.le_refl _) (fun x h1 h2=>by omega) (fun x h1 h2=>by omega)
 generalize da (fun h=>lt d[h]! d[a]!) (a+1) b=i at *
 refine⟨yi _ a d (Nat.le_refl _) (Nat.le_refl _) b2 hb,fun p q hp hpq hq=>?_⟩
 simp only[xU (e:=i) _ a d (Nat.le_refl _) (by omega)]
 by_cases c1:q+1<i
 ·rw[if_pos (by omega),if_pos (by omega)];exact h2 _ _ (by omega) (by omega) (by omega)
 ·by_cases c2:q+1=i
  ·rw[if_neg (by omega),if_pos (by omega),if_pos (by omega)]
   exact asym hS (b3 (p+1) (by omega) (by omega))
  ·rw[if_neg (by omega),if_neg (by omega)]
   by_cases c3:p+1<i
   ·rw[if_pos (by omega)];exact h2 _ _ (by omega) (by omega) (by omega)
   ·rw[if_neg (by omega)]
    by_cases c4:p+1=i
    ·rw[if_pos (by omega)];exact b4 q (by omega) hq
    ·rw[if_neg (by omega)];exact h2 _ _ (by omega) (by omega) (by omega)
theorem Ue(hS:SWO lt){a m:Nat}{d:Array α}(hb:m+1≤d.size)(hab:a<m)(h2:SortedIn lt a m d):
 PermIn a (m+1) d (fh (da (fun h=>!lt d[m]! d[h]!) a m) m d)∧SortedIn lt a (m+1) (fh (da (fun h=>!lt d[m]! d[h]!) a m) m d):=by
 obtain⟨b1,b2,b3,b4⟩:=oY (q:=fun h=>!lt d[m]! d[h]!) (lo:=a) (hi:=m) (fun x y h1 hxy hy hq=>by
  simp only[Bool.not_eq_true'] at hq ⊢
  rcases Nat.lt_or_ge x y with h|h
  ·exact hS.ntrans _ _ _ hq (h2 x y h1 h hy)
  ·have:x=y:=by omega
   subst this;exact hq) _ a m (Nat.le_refl _) (Nat.le_refl _) (by omega) (Nat.le_refl _) (fun x h1 h2=>by omega) (fun x h1 h2=>by omega)
 generalize da (fun h=>!lt d[m]! d[h]!) a m=i at *
 simp only[Bool.not_eq_true',Bool.not_eq_false'] at b3 b4
 refine⟨zD m d b1 (by omega) hb,fun p q hp hpq hq=>?_⟩
 simp only[vT (i:=i) m d (by omega)]
 by_cases c1:q<i
 ·rw[if_neg (by omega),if_neg (by omega),if_neg (by omega),if_neg (by omega)];exact h2 _ _ hp hpq (by omega)
 ·by_cases c2:q=i
  ·rw[if_neg (by omega),if_pos (by omega),if_neg (by omega),if_neg (by omega)];exact b3 p hp (by omega)
  ·rw[if_pos (by omega)]
   by_cases c3:p<i
   ·rw[if_neg (by omega),if_neg (by omega)];exact h2 _ _ hp (by omega) (by omega)
   ·by_cases c4:p=i
    ·rw[if_neg (by omega),if_pos (by omega)];exact asym hS (b4 (q-1) (by omega) (by omega))
    ·rw[if_pos (by omega)];exact h2 _ _ (by omega) (by omega) (by omega)
theorem MZ(hS:SWO lt){a m b:Nat}{d:Array α}(ham:a<m)(hmb:m<b)(h1:SortedIn lt a m d)(h2:SortedIn lt m b d):
 a≤dm lt a m b d∧dm lt a m b d≤m∧dm lt a m b d≤(a+b)/2∧(a+b)/2+m-dm lt a m b d≤b∧
 (∀i j,a≤i→i<dm lt a m b d→(a+b)/2+m-dm lt a m b d≤j→j<b→lt d[j]! d[i]! =false)∧
 (∀i j,m≤i→i<(a+b)/2+m-dm lt a m b d→dm lt a m b d≤j→j<m→lt d[j]! d[i]! =false):=by
 have key:∀mid s0 r0,mid=(a+b)/2→a≤s0→s0≤r0→r0≤m→r0≤mid→mid+m≤b+s0→(s0=a∨mid+m=b+s0)→(r0=m∨r0=mid)→
  ∀s,s=da (fun c=>!lt d[mid+m-1-c]! d[c]!) s0 r0→a≤s∧s≤m∧s≤mid∧mid+m-s≤b∧
  (∀i j,a≤i→i<s→mid+m-s≤j→j<b→lt d[j]! d[i]! =false)∧(∀i j,m≤i→i<mid+m-s→s≤j→j<m→lt d[j]! d[i]! =false):=by
  intro mid s0 r0 hmid e1 e2 e3 e4 e5 e6 e7 s hs
  obtain⟨b1,b2,b3,b4⟩:=oY (q:=fun c=>!lt d[mid+m-1-c]! d[c]!) (lo:=s0) (hi:=r0) (fun x y hx hxy hy hq=>by
   simp only[Bool.not_eq_true'] at hq ⊢
   rcases Nat.lt_or_ge x y with h|h
   ·have q1:=h1 x y (by omega) h (by omega)
    have q2:=h2 (mid+m-1-y) (mid+m-1-x) (by omega) (by omega) (by omega)
    exact hS.ntrans _ _ _ (hS.ntrans _ _ _ q2 hq) q1
   ·have:x=y:=by omega
    subst this;exact hq) _ s0 r0 (Nat.le_refl _) (Nat.le_refl _) e2 (Nat.le_refl _) (fun x h1 h2=>by omega) (fun x h1 h2=>by omega)
  rw[←hs] at b1 b2 b3 b4
  simp only[Bool.not_eq_true',Bool.not_eq_false'] at b3 b4
  refine⟨by omega,by omega,by omega,by omega,fun i j hi his hj hjb=>?_,fun i j hi hie hj hjm=>?_⟩
  ·have q:=b3 (s-1) (by omega) (by omega)
   rw[show mid+m-1-(s-1)=mid+m-s by omega] at q
   have q1:lt d[s-1]! d[i]! =false:=by
    rcases Nat.lt_or_ge i (s-1) with h|h
    ·exact h1 i (s-1) hi h (by omega)
    ·have:i=s-1:=by omega
     subst this;exact hS.irrefl _
   have q2:lt d[j]! d[mid+m-s]! =false:=by
    rcases Nat.lt_or_ge (mid+m-s) j with h|h
    ·exact h2 _ j (by omega) h hjb
    ·have:j=mid+m-s:=by omega
     subst this;exact hS.irrefl _
   exact hS.ntrans _ _ _ q2 (hS.ntrans _ _ _ q q1)
  ·have q:=asym hS (b4 s (Nat.le_refl _) (by omega))
   rw[show mid+m-1-s=mid+m-s-1 by omega] at q
   have q1:lt d[mid+m-s-1]! d[i]! =false:=by
    rcases Nat.lt_or_ge i (mid+m-s-1) with h|h
    ·exact h2 i _ hi h (by omega)
    ·have:i=mid+m-s-1:=by omega
     subst this;exact hS.irrefl _
   have q2:lt d[j]! d[s]! =false:=by
    rcases Nat.lt_or_ge s j with h|h
    ·exact h1 s j (by omega) h hjm
    ·have:j=s:=by omega
     subst this;exact hS.irrefl _
   exact hS.ntrans _ _ _ q2 (hS.ntrans _ _ _ q q1)
 unfold dm
 by_cases c:(a+b)/2<m
 ·simp only[if_pos c]
  exact key _ _ _ rfl (by omega) (by omega) (by omega) (by omega) (by omega) (.inr (by omega)) (.inr rfl) _ rfl
 ·simp only[if_neg c]
  exact key _ _ _ rfl (by omega) (by omega) (by omega) (by omega) (by omega) (.inl rfl) (.inl rfl) _ rfl
theorem Fs{a m b:Nat}{d:Array α}(hb:b≤d.size){s mid:Nat}(hs:s=dm lt a m b d)(hmid:mid=(a+b)/2)(h1:a≤s)(h2:s≤m)(h3:s≤mid)(h4:mid+m-s≤b):
 PermIn a b d (fc lt a m b d)∧∀k,(fc lt a m b d)[k]! =if s≤k∧k<mid then d[k+(m-s)]! else if mid≤k∧k<mid+m-s then d[k-(mid-s)]! else d[k]! :=by
 unfold fc
 rw[←hs,←hmid]
 by_cases c:s<m∧m<mid+m-s
 ·rw[if_pos c]
  refine⟨tE _ _ _ d (Nat.le_refl _) (by omega) (by omega) hb,fun k=>?_⟩
  rw[u2 _ _ _ d (Nat.le_refl _) (by omega) (by omega) (by omega) (by omega)]
  by_cases q1:s≤k∧k<mid
  ·rw[if_pos (by omega),if_pos q1]
  ·rw[if_neg (by omega),if_neg q1]
   by_cases q2:mid≤k∧k<mid+m-s
   ·rw[if_pos (by omega),if_pos q2];congr 1;omega
   ·rw[if_neg (by omega),if_neg q2]
 ·rw[if_neg c]
  refine⟨permIn_refl d a b,fun k=>?_⟩
  by_cases q1:s≤k∧k<mid
  ·rw[if_pos q1];congr 1;omega
  ·rw[if_neg q1]
   by_cases q2:mid≤k∧k<mid+m-s
   ·rw[if_pos q2];congr 1;omega
   ·rw[if_neg q2]
theorem qD(hS:SWO lt):∀(r a m b:Nat) (d:Array α),b-a≤r→a<m→m<b→b≤d.size→SortedIn lt a m d→SortedIn lt m b d→PermIn a b d (cC lt a m b d)∧SortedIn lt a b (cC lt a m b d)
 |r,a,m,b,d,hr,ham,hmb,hb,h1,h2=>by
  rw[cC]
  by_cases c1:m-a=1
  ·rw[if_pos c1]
   obtain rfl:m=a+1:=by omega
   exact Il hS hb (by omega) h2
  ·rw[if_neg c1]
   by_cases c2:b-m=1
   ·rw[if_pos c2]
    obtain rfl:b=m+1:=by omega
    exact Ue hS hb ham h1
   ·rw[if_neg c2]
    obtain⟨s1,s2,s3,s4,x1,x2⟩:=MZ hS ham hmb h1 h2
    obtain⟨s,hs⟩:∃s,s=dm lt a m b d:=⟨_,rfl⟩
    obtain⟨mid,hmid⟩:∃mid,mid=(a+b)/2:=⟨_,rfl⟩
    rw[←hs] at s1 s2 s3 s4 x1 x2
    rw[←hmid] at s3 s4 x1 x2
    obtain⟨p1,g1⟩:=Fs hb hs hmid s1 s2 s3 s4
    rw[←hs,←hmid]
    generalize fc lt a m b d=d1 at p1 g1 ⊢
    have z1:d1.size=d.size:=p1.1
    have L1:SortedIn lt a s d1:=nT (fun i j x y z=>h1 i j x y (by omega)) fun i x y=>by rw[g1,if_neg (by omega),if_neg (by omega)]
    have L2:SortedIn lt s mid d1:=fun i j x y z=>by
     rw[g1,g1,if_pos (by omega),if_pos (by omega)];exact h2 _ _ (by omega) (by omega) (by omega)
    have L3:SortedIn lt mid (mid+m-s) d1:=fun i j x y z=>by
     rw[g1,g1,if_neg (by omega),if_pos (by omega),if_neg (by omega),if_pos (by omega)];exact h1 _ _ (by omega) (by omega) (by omega)
    have L4:SortedIn lt (mid+m-s) b d1:=fun i j x y z=>by
     rw[g1,g1,if_neg (by omega),if_neg (by omega),if_neg (by omega),if_neg (by omega)];exact h2 _ _ (by omega) y z
    have X:∀i j,a≤i→i<mid→mid≤j→j<b→lt d1[j]! d1[i]! =false:=fun i j q1 q2 q3 q4=>by
     rw[g1,g1]
     by_cases u:s≤i∧i<mid
     ·rw[if_neg (by omega),if_pos u]
      by_cases v:mid≤j∧j<mid+m-s
      ·rw[if_pos v];exact x2 _ _ (by omega) (by omega) (by omega) (by omega)
      ·rw[if_neg v];exact h2 _ _ (by omega) (by omega) q4
     ·rw[if_neg (by omega),if_neg u,if_neg (by omega:¬(mid≤i∧i<mid+m-s))]
      by_cases v:mid≤j∧j<mid+m-s
      ·rw[if_pos v];exact h1 _ _ q1 (by omega) (by omega)
      ·rw[if_neg v];exact x1 _ _ q1 (by omega) (by omega) q4
    have hm2:a<mid:=by omega
    have hm3:mid<b:=by omega
    have D2:PermIn a mid d1 (if h1:a<s∧s<mid then cC lt a s mid d1 else d1)∧SortedIn lt a mid (if h1:a<s∧s<mid then cC lt a s mid d1 else d1):=by
     by_cases c:a<s∧s<mid
     ·rw[dif_pos c]
      match r,hr with
      |0,hr=>omega
      |r+1,hr=>exact qD hS r a s mid d1 (by omega) c.1 c.2 (by omega) L1 L2
     ·rw[dif_neg c]
      refine⟨permIn_refl d1 a mid,?_⟩
      rcases Nat.lt_or_ge a s with h|h
      ·have:s=mid:=by omega
       subst this;exact L1
      ·have:s=a:=by omega
       subst this;exact L2
    generalize (if h1:a<s∧s<mid then cC lt a s mid d1 else d1)=d2 at D2 ⊢
    obtain⟨p2,o2⟩:=D2
    have z2:d2.size=d1.size:=p2.1
    have M3:SortedIn lt mid (mid+m-s) d2:=nT L3 fun i x y=>p2.2.1 i (.inr x)
    have M4:SortedIn lt (mid+m-s) b d2:=nT L4 fun i x y=>p2.2.1 i (.inr (by omega))
    have D3:PermIn mid b d2 (if h2:mid<mid+m-s∧mid+m-s<b then cC lt mid (mid+m-s) b d2 else d2)∧SortedIn lt mid b (if h2:mid<mid+m-s∧mid+m-s<b then cC lt mid (mid+m-s) b d2 else d2):=by
     by_cases c:mid<mid+m-s∧mid+m-s<b
     ·rw[dif_pos c]
      match r,hr with
      |0,hr=>omega
      |r+1,hr=>exact qD hS r mid (mid+m-s) b d2 (by omega) c.1 c.2 (by omega) M3 M4
     ·rw[dif_neg c]
      refine⟨permIn_refl d2 mid b,?_⟩
      rcases Nat.lt_or_ge mid (mid+m-s) with h|h
      ·have:mid+m-s=b:=by omega
       rw[this] at M3;exact M3
      ·have:mid+m-s=mid:=by omega
       rw[this] at M4;exact M4
    show PermIn a b d (if h2:mid<mid+m-s∧mid+m-s<b then cC lt mid (mid+m-s) b d2 else d2)∧SortedIn lt a b (if h2:mid<mid+m-s∧mid+m-s<b then cC lt mid (mid+m-s) b d2 else d2)
    generalize (if h2:mid<mid+m-s∧mid+m-s<b then cC lt mid (mid+m-s) b d2 else d2)=d3 at D3 ⊢
    obtain⟨p3,o3⟩:=D3
    refine⟨permIn_trans _ _ _ a b p1 (permIn_trans _ _ _ a b (permIn_mono d1 d2 a mid a b (Nat.le_refl _) (by omega) (by omega) p2) (permIn_mono d2 d3 mid b a b (by omega) (Nat.le_refl _) (by omega) p3)),fun i j q1 q2 q3=>?_⟩
    rcases Nat.lt_or_ge j mid with c|c
    ·rw[p3.2.1 i (.inl (by omega)),p3.2.1 j (.inl c)];exact o2 i j q1 q2 c
    ·rcases Nat.lt_or_ge i mid with c'|c'
     ·rw[p3.2.1 i (.inl c')]
      refine permIn_all d2 d3 mid b (fun y=>lt y d2[i]! =false) (by omega) p3 (fun k k1 k2=>?_) j c q3
      rw[p2.2.1 k (.inr k1)]
      exact permIn_all d1 d2 a mid (fun x=>lt d1[k]! x=false) (by omega) p2 (fun t t1 t2=>X t k t1 t2 k1 k2) i q1 c'
     ·exact o3 i j c' q2 q3
inductive Ch(lt:α→α→Bool)(s n:Nat)(d:Array α):Nat→Prop
 |done {a:Nat} (h:n≤a):Ch lt s n d a
 |step {a:Nat} (h:SortedIn lt a (min (a+s) n) d) (hn:Ch lt s n d (a+s)):Ch lt s n d a
theorem Ch.congr{s n a:Nat}{d d':Array α}(h:Ch lt s n d a)(e:∀i,a≤i→d'[i]! =d[i]!):Ch lt s n d' a:=by
 induction h with
 |done h=>exact .done h
 |step h _ ih=>exact .step (nT h fun i x y=>e i x) (ih fun i hi=>e i (by omega))
theorem Ch.head{s n a:Nat}{d:Array α}(h:Ch lt s n d a):SortedIn lt a (min (a+s) n) d:=by
 cases h with
 |done h=>exact fun i j x y z=>by omega
 |step h _=>exact h
theorem Ch.tail{s n a:Nat}{d:Array α}(h:Ch lt s n d a):Ch lt s n d (a+s):=by
 cases h with
 |done h=>exact .done (by omega)
 |step _ h=>exact h
theorem zo(hS:SWO lt){n:Nat}:∀(r a:Nat) (d:Array α),n-a≤r→a≤n→n≤d.size→PermIn a n d (fP lt n a (a+20) d)∧Ch lt 20 n (fP lt n a (a+20) d) a
 |r,a,d,hr,ha,hn=>by
  rw[fP]
  by_cases c:a+20≤n
  ·rw[if_pos c]
   obtain⟨p1,o1⟩:=insertionSort_holds (lt:=lt) hS d a (a+20) (by omega) (by omega)
   generalize insertionSort lt d a (a+20)=d1 at p1 o1 ⊢
   have z1:d1.size=d.size:=p1.1
   match r,hr with
   |0,hr=>omega
   |r+1,hr=>
    obtain⟨p2,o2⟩:=zo hS r (a+20) d1 (by omega) c (by omega)
    generalize fP lt n (a+20) (a+20+20) d1=d2 at p2 o2 ⊢
    refine⟨permIn_trans _ _ _ a n (permIn_mono d d1 a (a+20) a n (Nat.le_refl _) c hn p1) (permIn_mono d1 d2 (a+20) n a n (by omega) (Nat.le_refl _) (by omega) p2),.step (nT (by rw[Nat.min_eq_left c];exact o1) fun i x y=>p2.2.1 i (.inl (by omega))) o2⟩
  ·rw[if_neg c]
   obtain⟨p1,o1⟩:=insertionSort_holds (lt:=lt) hS d a n ha hn
   exact⟨p1,.step (by rw[Nat.min_eq_right (by omega)];exact o1) (.done (by omega))⟩
theorem xc(hS:SWO lt){n s:Nat}(hs:0<s):∀(r a:Nat) (d:Array α),n-a≤r→a≤n→n≤d.size→Ch lt s n d a→PermIn a n d (eK lt n s a (a+2*s) d)∧Ch lt (2*s) n (eK lt n s a (a+2*s) d) a
 |r,a,d,hr,ha,hn,hc=>by
  rw[eK,if_neg (by omega)]
  by_cases c:a+2*s≤n
  ·rw[if_pos c]
   have q1:=hc.head;rw[Nat.min_eq_left (by omega)] at q1
   have q2:=hc.tail.head;rw[Nat.min_eq_left (by omega),show a+s+s=a+2*s by omega] at q2
   have q3:=hc.tail.tail;rw[show a+s+s=a+2*s by omega] at q3
   obtain⟨p1,o1⟩:=qD hS _ a (a+s) (a+2*s) d (Nat.le_refl _) (by omega) (by omega) (by omega) q1 q2
   generalize cC lt a (a+s) (a+2*s) d=d1 at p1 o1 ⊢
   have z1:d1.size=d.size:=p1.1
   match r,hr with
   |0,hr=>omega
   |r+1,hr=>
    obtain⟨p2,o2⟩:=xc hS hs r (a+2*s) d1 (by omega) c (by omega) (q3.congr fun i hi=>p1.2.1 i (.inr hi))
    generalize eK lt n s (a+2*s) (a+2*s+2*s) d1=d2 at p2 o2 ⊢
    exact⟨permIn_trans _ _ _ a n (permIn_mono d d1 a (a+2*s) a n (Nat.le_refl _) c hn p1) (permIn_mono d1 d2 (a+2*s) n a n (by omega) (Nat.le_refl _) (by omega) p2),.step (nT (by rw[Nat.min_eq_left c];exact o1) fun i x y=>p2.2.1 i (.inl (by omega))) o2⟩
  ·rw[if_neg c]
   by_cases c2:a+s<n
   ·rw[if_pos c2]
    have q1:=hc.head;rw[Nat.min_eq_left (by omega)] at q1
    have q2:=hc.tail.head;rw[Nat.min_eq_right (by omega)] at q2
    obtain⟨p1,o1⟩:=qD hS _ a (a+s) n d (Nat.le_refl _) (by omega) (by omega) (by omega) q1 q2
    exact⟨p1,.step (by rw[Nat.min_eq_right (by omega)];exact o1) (.done (by omega))⟩
   ·rw[if_neg c2]
    refine⟨permIn_refl d a n,.step ?_ (.done (by omega))⟩
    have q1:=hc.head;rw[Nat.min_eq_right (by omega)] at q1
    rw[Nat.min_eq_right (by omega)];exact q1
theorem yx(hS:SWO lt){n:Nat}:∀(r s:Nat) (d:Array α),n-s≤r→0<s→n≤d.size→Ch lt s n d 0→PermIn 0 n d (iR lt n s d)∧SortedIn lt 0 n (iR lt n s d)
 |r,s,d,hr,hs,hn,hc=>by
  rw[iR]
  by_cases c:0<s∧s<n
  ·rw[dif_pos c]
   have h:=xc hS hs _ 0 d (Nat.le_refl _) (Nat.zero_le _) hn hc
   rw[Nat.zero_add] at h
   obtain⟨p1,o1⟩:=h
   generalize eK lt n s 0 (2*s) d=d1 at p1 o1 ⊢
   match r,hr with
   |0,hr=>omega
   |r+1,hr=>
    obtain⟨p2,o2⟩:=yx (n:=n) hS r (s*2) d1 (by omega) (by omega) (by rw[p1.1];exact hn) (by rw[Nat.mul_comm];exact o1)
    exact⟨permIn_trans _ _ _ 0 n p1 p2,o2⟩
  ·rw[dif_neg c]
   have q1:=hc.head;rw[Nat.min_eq_right (by omega)] at q1
   exact⟨permIn_refl d 0 n,q1⟩
theorem yA(hS:SWO lt)(d:Array α):PermIn 0 d.size d (iE lt d)∧SortedIn lt 0 d.size (iE lt d):=by
 unfold iE
 have h:=zo hS _ 0 d (Nat.le_refl _) (Nat.zero_le _) (Nat.le_refl _)
 rw[Nat.zero_add] at h
 obtain⟨p1,o1⟩:=h
 generalize fP lt d.size 0 20 d=d1 at p1 o1 ⊢
 obtain⟨p2,o2⟩:=yx hS _ 20 d1 (Nat.le_refl _) (by omega) (by rw[p1.1];exact Nat.le_refl _) o1
 exact⟨permIn_trans _ _ _ 0 d.size p1 p2,o2⟩
end
end Go.Stb
end
section
namespace Go.Bk
open Go Go.Abs
abbrev Nm:=Bs×Bs
def aI(p:Po):Nm:=(p.acc,p.sym)
def cR(a b:Nm):Bool:=decide (ee a b<0)
def aJ(a b:Po):Bool:=cR (aI a) (aI b)
instance:Inhabited Po:=⟨⟨[],[],0,0,false⟩⟩
theorem zi{a b:Bs}:gk a b<0↔a<b:=by
 unfold gk;split
 ·simp[*]
 ·split<;>simp_all
theorem o6{a b:Bs}:gk a b=0↔a=b:=by
 unfold gk;split
 ·rename_i h
  constructor
  ·intro e;exact absurd e (by decide)
  ·rintro rfl;exact absurd h (List.lt_irrefl a)
 ·split<;>simp_all
theorem oU{a b:Nm}:cR a b=true↔a.1<b.1∨a.1=b.1∧a.2<b.2:=by
 unfold cR ee
 rw[decide_eq_true_eq]
 split
 ·rename_i h
  rw[zi]
  constructor
  ·exact .inl
  ·rintro(h2|⟨h2,_⟩)
   ·exact h2
   ·exact absurd (o6.2 h2) h
 ·rename_i h
  have h:a.1=b.1:=o6.1 (by simpa using h)
  rw[zi,h]
  constructor
  ·intro h2;exact .inr ⟨rfl,h2⟩
  ·rintro(h2|⟨_,h2⟩)
   ·exact absurd h2 (List.lt_irrefl _)
   ·exact h2
theorem jE(a:Nm):cR a a=false:=by
 cases h:cR a a with
 |false=>rfl
 |true=>rcases oU.1 h with h|⟨_,h⟩<;>exact absurd h (List.lt_irrefl _)
theorem kU{a b c:Nm}(h1:cR a b=true)(h2:cR b c=true):cR a c=true:=by
 rw[oU] at *
 rcases h1 with h1|⟨e1,h1⟩<;>rcases h2 with h2|⟨e2,h2⟩
 ·exact .inl (List.lt_trans h1 h2)
 ·exact .inl (e2 ▸ h1)
 ·exact .inl (e1 ▸ h2)
 ·exact .inr ⟨e1.trans e2,List.lt_trans h1 h2⟩
theorem BJ(a b:Bs):a<b∨a=b∨b<a:=by
 rcases Classical.em (a<b) with h|h
 ·exact .inl h
 ·rcases Classical.em (b<a) with h2|h2
  ·exact .inr (.inr h2)
  ·exact .inr (.inl (List.le_antisymm (List.not_lt.1 h2) (List.not_lt.1 h)))
theorem lg(a b:Nm):cR a b=true∨a=b∨cR b a=true:=by
 rw[oU,oU]
 rcases BJ a.1 b.1 with h|h|h
 ·exact .inl (.inl h)
 ·rcases BJ a.2 b.2 with h2|h2|h2
  ·exact .inl (.inr ⟨h,h2⟩)
  ·exact .inr (.inl (Prod.ext h h2))
  ·exact .inr (.inr (.inr ⟨h.symm,h2⟩))
 ·exact .inr (.inr (.inl h))
theorem AY{a b:Nm}(h:cR a b=true):cR b a=false:=by
 cases h2:cR b a with
 |false=>rfl
 |true=>exact absurd (kU h h2) (by rw[jE];simp)
theorem Xi{a b:Nm}(h1:cR a b=false)(h2:cR b a=false):a=b:=by
 rcases lg a b with h|h|h
 ·rw[h] at h1;exact absurd h1 (by simp)
 ·exact h
 ·rw[h] at h2;exact absurd h2 (by simp)
theorem rj{a b c:Nm}(h1:cR a b=false)(h2:cR b c=false):cR a c=false:=by
 cases h:cR a c with
 |false=>rfl
 |true=>
  rcases lg b c with h3|rfl|h3
  ·rw[h3] at h2;exact absurd h2 (by simp)
  ·rw[h] at h1;exact absurd h1 (by simp)
  ·rw[kU h h3] at h1;exact absurd h1 (by simp)
theorem sZ:Go.Sort.SWO aJ:=⟨fun _=>jE _,fun _ _ _=>kU,fun _ _ _=>rj⟩
theorem vA{a b:Nm}:ee a b=0↔a=b:=by
 unfold ee
 split
 ·rename_i h
  constructor
  ·intro e;exact absurd e h
  ·rintro rfl;exact absurd (o6.2 rfl) h
 ·rename_i h
  have h:a.1=b.1:=o6.1 (by simpa using h)
  rw[o6]
  exact⟨fun e=>Prod.ext h e,fun e=>by rw[e]⟩
def cW(p:Po):Bool:=aS p.al&&aS p.value&&!(p.over&&(decide (p.al≠0)||decide (p.value≠0)))
def ck:List Po→Bool
 |[]=>true
 |p::l=>cW p&&(match l with|[]=>true|q::_=>aJ p q)&&ck l
def dG(n:Nm)(l:List Po):List Po:=l.filter fun p=>decide (aI p=n)
def dQ(n:Nm)(l:List Po):Po:=
 if l.any (·.over) then⟨n.1,n.2,0,0,true⟩
 else if(bu (l.map (·.al))).2&&(bu (l.map (·.value))).2 then⟨n.1,n.2,(bu (l.map (·.al))).1,(bu (l.map (·.value))).1,false⟩ else⟨n.1,n.2,0,0,true⟩
def dR(l:List Po)(n:Nm):Po:=dQ n (dG n l)
def dK(l:List Po)(n:Nm):Po:=match l.find? (fun p=>decide (aI p=n)) with
 |some p=>p
 |none=>⟨n.1,n.2,0,0,false⟩
def fW:Nat→List Po→List Po
 |0,_=>[]
 |_,[]=>[]
 |k+1,p::l=>dQ (aI p) (p::l.takeWhile fun q=>decide (aI q=aI p))::fW k (l.dropWhile fun q=>decide (aI q=aI p))
def kE(l:List Po):List Po:=(Go.Stb.iE aJ l.toArray).toList
def dv(ls:List (List Po)):List Po×Int:=if ls.all ck then(fW ls.flatten.length (kE ls.flatten),0) else([],1)
def hZ(l:List Po):Prop:=l.Pairwise fun p q=>aJ p q=true
structure iI(l all:List Po):Prop where
 ia:hZ l
 mem:∀p,p∈l↔(∃q∈all,aI q=aI p)∧p=dR all (aI p)
theorem lQ{n:Nm}{l:List Po}:aI (dQ n l)=n:=by unfold dQ;split<;>first|rfl|(split<;>rfl)
theorem l9{n:Nm}{l:List Po}:aI (dR l n)=n:=lQ
theorem vC:∀{l m:List Po},hZ l→hZ m→(∀p,p∈l↔p∈m)→l=m
 |[],[],_,_,_=>rfl
 |[],q::m,_,_,h=>absurd ((h q).2 (by simp)) (by simp)
 |p::l,[],_,_,h=>absurd ((h p).1 (by simp)) (by simp)
 |p::l,q::m,h1,h2,h=>by
  have a1:=List.pairwise_cons.1 h1
  have a2:=List.pairwise_cons.1 h2
  have irr:∀x:Po,aJ x x=true→False:=fun x hx=>by have:=jE (aI x);unfold aJ at hx;rw[hx] at this;exact absurd this (by simp)
  have e:p=q:=by
   rcases List.mem_cons.1 ((h p).1 (by simp)) with e|e
   ·exact e
   ·rcases List.mem_cons.1 ((h q).2 (by simp)) with e2|e2
    ·exact e2.symm
    ·exact absurd (kU (a1.1 q e2) (a2.1 p e)) (by rw[jE];simp)
  subst e
  congr 1
  refine vC a1.2 a2.2 fun x=>?_
  constructor
  ·intro hx
   rcases List.mem_cons.1 ((h x).1 (List.mem_cons_of_mem _ hx)) with e|e
   ·subst e;exact(irr x (a1.1 x hx)).elim
   ·exact e
  ·intro hx
   rcases List.mem_cons.1 ((h x).2 (List.mem_cons_of_mem _ hx)) with e|e
   ·subst e;exact(irr x (a2.1 x hx)).elim
   ·exact e
theorem iI.uniq{l m all:List Po}(h1:iI l all)(h2:iI m all):l=m:=vC h1.ia h2.ia fun p=>(h1.mem p).trans (h2.mem p).symm
theorem u6{a b:List Int}(h:a.Perm b):bp a=bp b:=by
 induction h with
 |nil=>rfl
 |cons x _ ih=>simp[bp,ih]
 |swap x y l=>simp only[bp];omega
 |trans _ _ h1 h2=>exact h1.trans h2
theorem BP{a b:List Int}(h:a.Perm b):bu a=bu b:=by
 unfold bu;rw[u6 h,h.all_eq]
theorem Pe{n:Nm}{a b:List Po}(h:a.Perm b):dQ n a=dQ n b:=by
 unfold dQ;rw[h.any_eq,BP (h.map _),BP (h.map _)]
theorem QI{n:Nm}{a b:List Po}(h:a.Perm b):dR a n=dR b n:=Pe (h.filter _)
theorem iI.perm{l a b:List Po}(h:a.Perm b)(hm:iI l a):iI l b:=⟨hm.ia,fun p=>by
 rw[hm.mem,QI h]
 constructor
 ·rintro⟨⟨q,hq,e⟩,h2⟩;exact⟨⟨q,h.mem_iff.1 hq,e⟩,h2⟩
 ·rintro⟨⟨q,hq,e⟩,h2⟩;exact⟨⟨q,h.mem_iff.2 hq,e⟩,h2⟩⟩
theorem wv:∀(k:Nat) (l:List Po),l.length≤k→l.Pairwise (fun p q=>aJ q p=false)→iI (fW k l) l
 |0,l,hk,_=>by
  have:l=[]:=List.eq_nil_of_length_eq_zero (by omega)
  subst this
  exact⟨List.Pairwise.nil,fun p=>by simp[fW]⟩
 |k+1,[],_,_=>⟨List.Pairwise.nil,fun p=>by simp[fW]⟩
 |k+1,p::l,hk,hs=>by
  obtain⟨hs1,hs2⟩:=List.pairwise_cons.1 hs
  have hsplit:=List.takeWhile_append_dropWhile (p:=fun q=>decide (aI q=aI p)) (l:=l)
  have hd:∀q∈l.dropWhile (fun q=>decide (aI q=aI p)),aJ p q=true:=by
   intro q hq
   cases hdw:l.dropWhile (fun q=>decide (aI q=aI p)) with
   |nil=>rw[hdw] at hq;exact absurd hq (by simp)
   |cons x xs=>
    have hx:¬aI x=aI p:=by
     have:=List.head?_dropWhile_not (fun q=>decide (aI q=aI p)) l
     rw[hdw] at this
     simpa using this
    have hxl:x∈l:=by rw[←hsplit,hdw];simp
    have hpx:aJ p x=true:=by
     rcases lg (aI p) (aI x) with h|h|h
     ·exact h
     ·exact absurd h.symm hx
     ·exact absurd (hs1 x hxl) (by unfold aJ;rw[h];simp)
    rw[hdw] at hq
    rcases List.mem_cons.1 hq with e|hq
    ·rw[e];exact hpx
    ·have hp2:(x::xs).Pairwise (fun p q=>aJ q p=false):=by rw[←hdw];exact hs2.sublist (List.dropWhile_sublist _)
     have hxq:=(List.pairwise_cons.1 hp2).1 q hq
     cases h:aJ p q with
     |true=>rfl
     |false=>exact absurd hpx (by unfold aJ at *;rw[rj h hxq];simp)
  have ht:∀q∈l.takeWhile (fun q=>decide (aI q=aI p)),aI q=aI p:=fun q hq=>by
   simpa using List.all_takeWhile (p:=fun q=>decide (aI q=aI p)) (l:=l) |> fun h=>List.all_eq_true.1 h q hq
  have hlen:(l.dropWhile fun q=>decide (aI q=aI p)).length≤k:=by
   have:=(List.dropWhile_sublist (fun q=>decide (aI q=aI p)) (l:=l)).length_le
   simp only[List.length_cons] at hk;omega
  have ih:=wv k (l.dropWhile fun q=>decide (aI q=aI p)) hlen (hs2.sublist (List.dropWhile_sublist _))
  have hself:dG (aI p) (p::l)=p::l.takeWhile (fun q=>decide (aI q=aI p)):=by
   unfold dG
   rw[List.filter_cons_of_pos (by simp)]
   congr 1
   conv=>lhs;rw[←hsplit,List.filter_append]
   rw[List.filter_eq_self.2 (fun q hq=>by simpa using ht q hq),List.filter_eq_nil_iff.2 (fun q hq=>by
    have:=hd q hq
    simp only[decide_eq_true_eq]
    intro e
    unfold aJ at this;rw[e,jE] at this;exact absurd this (by simp)),List.append_nil]
  have hrest:∀n,n≠aI p→dG n (p::l)=dG n (l.dropWhile fun q=>decide (aI q=aI p)):=by
   intro n hn
   unfold dG
   rw[List.filter_cons_of_neg (by simpa using Ne.symm hn)]
   conv=>lhs;rw[←hsplit,List.filter_append]
   rw[List.filter_eq_nil_iff.2 (fun q hq=>by
    simp only[decide_eq_true_eq];intro e;exact hn (e.symm.trans (ht q hq))),List.nil_append]
  refine⟨?_,?_⟩
  ·refine List.pairwise_cons.2 ⟨fun x hx=>?_,ih.ia⟩
   obtain⟨⟨q,hq,e⟩,_⟩:=(ih.mem x).1 hx
   have:=hd q hq
   unfold aJ at *
   rw[lQ,←e];exact this
  ·intro x
   show x∈_::_↔_
   rw[List.mem_cons,ih.mem]
   constructor
   ·rintro(e|⟨⟨q,hq,e⟩,h⟩)
    ·have en:aI x=aI p:=by rw[e];exact lQ
     refine⟨⟨p,by simp,en.symm⟩,?_⟩
     rw[en];unfold dR;rw[hself];exact e
    ·have hne:aI x≠aI p:=by
      intro e2
      have:=hd q hq
      unfold aJ at this;rw[e,e2,jE] at this;exact absurd this (by simp)
     refine⟨⟨q,List.mem_cons_of_mem _ ((List.dropWhile_sublist _).subset hq),e⟩,?_⟩
     rw[h];unfold dR;rw[lQ,hrest _ hne]
   ·rintro⟨⟨q,hq,e⟩,h⟩
    by_cases hn:aI x=aI p
    ·left
     rw[h,hn];unfold dR;rw[hself]
    ·right
     refine⟨⟨q,?_,e⟩,?_⟩
     ·rcases List.mem_cons.1 hq with e2|hq
      ·exact absurd (e.symm.trans (by rw[e2])) hn
      ·rw[←hsplit] at hq
       rcases List.mem_append.1 hq with hq|hq
       ·exact absurd (e.symm.trans (ht q hq)) hn
       ·exact hq
     ·have h2:=h
      unfold dR at h2 ⊢;rw[hrest _ hn] at h2;exact h2
theorem pb{x y:Lm}:bw x y<0↔cR (x.acc,x.sym) (y.acc,y.sym)=true:=by unfold bw cR;rw[decide_eq_true_eq]
theorem AS{x y:Lm}:bw x y=0↔(x.acc,x.sym)=(y.acc,y.sym):=vA
theorem rk{x y z:Lm}(h1:bw x y<0)(h2:bw y z<0):bw x z<0:=pb.2 (kU (pb.1 h1) (pb.1 h2))
theorem sy{x y:Lm}(h:¬bw y x<0)(h0:¬bw y x=0):bw x y<0:=by
 rw[pb] at h ⊢
 rcases lg (y.acc,y.sym) (x.acc,x.sym) with h1|h1|h1
 ·exact absurd h1 h
 ·exact absurd (AS.2 h1) h0
 ·exact h1
theorem Tm(x:Lm):¬bw x x<0:=by rw[pb,jE];simp
theorem vu{x y:Lm}(h:bw y x=0)(z:Lm):bw z x=bw z y∧bw x z=bw y z:=by
 have e:=AS.1 h
 simp only[Prod.mk.injEq] at e
 unfold bw;rw[e.1,e.2];exact⟨rfl,rfl⟩
theorem jC{l:List Lm}:bX l=true↔l.length≤32∧(∀x∈l,dW x=true)∧∀k x y,l[k]?=some x→l[k+1]?=some y→bw x y<0:=by
 unfold bX
 rw[Bool.and_eq_true,decide_eq_true_eq,List.all_eq_true]
 constructor
 ·rintro⟨h1,h2⟩
  refine⟨h1,fun x hx=>?_,fun k x y hx hy=>?_⟩
  ·obtain⟨k,hk⟩:=List.mem_iff_getElem?.1 hx
   have:=h2 k (List.mem_range.2 (bI hk))
   rw[lT hk,Bool.and_eq_true] at this
   exact this.1
  ·have:=h2 (k+1) (List.mem_range.2 (bI hy))
   rw[lT hy,Bool.and_eq_true] at this
   have e:(k+1==0)=false:=by simp
   rw[e,Nat.add_sub_cancel,hx] at this
   simpa using this.2
 ·rintro⟨h1,h2,h3⟩
  refine⟨h1,fun k hk=>?_⟩
  have hk:=List.mem_range.1 hk
  have hx:l[k]?=some l[k]:=List.getElem?_eq_getElem hk
  rw[lT hx,h2 _ (List.getElem_mem hk),Bool.true_and]
  cases k with
  |zero=>rfl
  |succ k=>
   have hy:l[k]?=some l[k]:=List.getElem?_eq_getElem (by omega)
   rw[Nat.add_sub_cancel,hy]
   have:=h3 k _ _ hy hx
   simp[this]
theorem sY{l:List Lm}(h:bX l=true):∀(j i:Nat) (x y:Lm),i<j→l[i]?=some x→l[j]?=some y→bw x y<0:=by
 intro j
 induction j with
 |zero=>intro i x y h1;omega
 |succ j ih=>
  intro i x y h1 hx hy
  have h3:=(jC.1 h).2.2
  rcases Nat.lt_or_ge i j with h2|h2
  ·have hz:l[j]?=some (l[j]'(by have:=bI hy;omega)):=List.getElem?_eq_getElem _
   exact rk (ih i x _ h2 hx hz) (h3 j _ _ hz hy)
  ·obtain rfl:i=j:=by omega
   exact h3 i x y hx hy
theorem I2{l:List Lm}{x:Lm}{i:Nat}(hi:i≤l.length)(h1:∀k y,k<i→l[k]?=some y→bw y x<0)(h2:∀y,l[i]?=some y→¬bw y x<0):aZ l x=i:=by
 unfold aZ
 induction l generalizing i with
 |nil=>simp only[List.length_nil] at hi;simp;omega
 |cons z l ih=>
  cases i with
  |zero=>
   have:=h2 z rfl
   rw[List.takeWhile_cons_of_neg (by simpa using this)];rfl
  |succ i=>
   have:=h1 0 z (by omega) rfl
   rw[List.takeWhile_cons_of_pos (by simpa using this),List.length_cons,ih (i:=i) (by simpa using hi) (fun k y hk hy=>h1 (k+1) y (by omega) hy) (fun y hy=>h2 y hy)]
theorem lL(l:List Lm)(x:Lm):aZ l x≤l.length∧(∀k y,k<aZ l x→l[k]?=some y→bw y x<0)∧∀y,l[aZ l x]?=some y→¬bw y x<0:=by
 unfold aZ
 induction l with
 |nil=>simp
 |cons z l ih=>
  by_cases hz:bw z x<0
  ·rw[List.takeWhile_cons_of_pos (by simpa using hz),List.length_cons]
   refine⟨by simpa using ih.1,fun k y hk hy=>?_,fun y hy=>ih.2.2 y (by simpa using hy)⟩
   cases k with
   |zero=>simp only[List.getElem?_cons_zero,Option.some.injEq] at hy;subst hy;exact hz
   |succ k=>exact ih.2.1 k y (by omega) (by simpa using hy)
  ·rw[List.takeWhile_cons_of_neg (by simpa using hz)]
   refine⟨by simp,fun k y hk=>by simp at hk,fun y hy=>?_⟩
   simp only[List.length_nil,List.getElem?_cons_zero,Option.some.injEq] at hy;subst hy;exact hz
def ep(l:List Lm)(x:Lm):Bool:=match l[aZ l x]? with
 |some y=>decide (bw y x=0)
 |none=>false
theorem lG{l:List Lm}{x y:Lm}(h:l[aZ l x]?=some y):ep l x=decide (bw y x=0):=by unfold ep;rw[h]
theorem sO{l:List Lm}{x:Lm}(h:l.length≤aZ l x):ep l x=false:=by unfold ep;rw[List.getElem?_eq_none h]
theorem pd{l:List Lm}{x:Lm}(h:ep l x=true):aZ l x<l.length:=by
 rcases Nat.lt_or_ge (aZ l x) l.length with h'|h'
 ·exact h'
 ·rw[sO h'] at h;exact absurd h (by simp)
theorem uS{l:List Lm}{x:Lm}(h:bX l=true)(hm:dW x=true)(hh:ep l x=true):cT l x=(l.set (aZ l x) x,0):=by
 unfold cT;rw[if_pos ⟨h,hm⟩]
 have hy:l[aZ l x]?=some (l[aZ l x]'(pd hh)):=List.getElem?_eq_getElem _
 rw[lG hy] at hh
 rw[hy];dsimp only;rw[if_pos (by simpa using hh)]
theorem sQ{l:List Lm}{x:Lm}(h:bX l=true)(hm:dW x=true)(hh:ep l x=false)(h32:l.length=32):cT l x=(l,5):=by
 unfold cT;rw[if_pos ⟨h,hm⟩]
 cases hy:l[aZ l x]? with
 |none=>dsimp only;rw[if_pos h32]
 |some y=>
  rw[lG hy] at hh
  dsimp only;rw[if_neg (by simpa using hh),if_pos h32]
theorem tj{l:List Lm}{x:Lm}(h:bX l=true)(hm:dW x=true)(hh:ep l x=false)(h32:¬l.length=32):cT l x=(l.take (aZ l x)++x::l.drop (aZ l x),0):=by
 unfold cT;rw[if_pos ⟨h,hm⟩]
 cases hy:l[aZ l x]? with
 |none=>dsimp only;rw[if_neg h32]
 |some y=>
  rw[lG hy] at hh
  dsimp only;rw[if_neg (by simpa using hh),if_neg h32]
theorem LW{l:List Lm}{x:Lm}(h:bX l=true)(hm:dW x=true)(hh:ep l x=true):bX (l.set (aZ l x) x)=true:=by
 have hlt:=pd hh
 have hy:l[aZ l x]?=some l[aZ l x]:=List.getElem?_eq_getElem hlt
 rw[lG hy] at hh
 have he:=vu (y:=l[aZ l x]) (x:=x) (by simpa using hh)
 obtain⟨h1,h2,h3⟩:=jC.1 h
 have get:∀(k:Nat) (z:Lm),(l.set (aZ l x) x)[k]?=some z→∃z':Lm,l[k]?=some z'∧∀w:Lm,bw w z=bw w z'∧bw z w=bw z' w:=by
  intro k z hz
  rw[List.getElem?_set] at hz
  split at hz
  ·rename_i hk;subst hk
   first|(rw[if_pos hlt] at hz;cases hz;exact⟨_,hy,he⟩)|(cases hz;exact⟨_,hy,he⟩)
  ·exact⟨z,hz,fun w=>⟨rfl,rfl⟩⟩
 refine jC.2 ⟨by simpa using h1,fun z hz=>?_,fun k a b ha hb=>?_⟩
 ·rcases List.mem_or_eq_of_mem_set hz with hz|rfl
  ·exact h2 z hz
  ·exact hm
 ·obtain⟨a',e1,e2⟩:=get _ _ ha
  obtain⟨b',e3,e4⟩:=get _ _ hb
  rw[(e2 b).2,(e4 a').1]
  exact h3 k a' b' e1 e3
theorem Ka{l:List Lm}{x:Lm}(h:bX l=true)(hm:dW x=true)(hh:ep l x=false)(h32:¬l.length=32):bX (l.take (aZ l x)++x::l.drop (aZ l x))=true:=by
 obtain⟨h1,h2,h3⟩:=jC.1 h
 obtain⟨p1,p2,p3⟩:=lL l x
 have htl:(l.take (aZ l x)).length=aZ l x:=by rw[List.length_take];omega
 refine jC.2 ⟨by simp only[List.length_append,List.length_cons,List.length_take,List.length_drop];omega,fun z hz=>?_,fun k a b ha hb=>?_⟩
 ·rcases List.mem_append.1 hz with hz|hz
  ·exact h2 z (List.mem_of_mem_take hz)
  ·rcases List.mem_cons.1 hz with rfl|hz
   ·exact hm
   ·exact h2 z (List.mem_of_mem_drop hz)
 ·rcases Nat.lt_trichotomy (k+1) (aZ l x) with hk|hk|hk
  ·rw[List.getElem?_append_left (by omega),List.getElem?_take,if_pos (by omega)] at ha
   rw[List.getElem?_append_left (by omega),List.getElem?_take,if_pos (by omega)] at hb
   exact h3 k a b ha hb
  ·rw[List.getElem?_append_left (by omega),List.getElem?_take,if_pos (by omega)] at ha
   rw[List.getElem?_append_right (by omega),htl,hk,Nat.sub_self] at hb
   simp only[List.getElem?_cons_zero,Option.some.injEq] at hb;subst hb
   exact p2 k a (by omega) ha
  ·rw[List.getElem?_append_right (by omega),htl,show k+1-aZ l x=(k-aZ l x)+1 by omega,List.getElem?_cons_succ,List.getElem?_drop] at hb
   rcases Nat.lt_or_ge (aZ l x) k with hk2|hk2
   ·rw[List.getElem?_append_right (by omega),htl,show k-aZ l x=(k-aZ l x-1)+1 by omega,List.getElem?_cons_succ,List.getElem?_drop] at ha
    refine h3 (k-1) a b ?_ ?_
    ·rw[←ha];congr 1;omega
    ·rw[←hb];congr 1;omega
   ·obtain rfl:k=aZ l x:=by omega
    rw[List.getElem?_append_right (by omega),htl,Nat.sub_self] at ha
    simp only[List.getElem?_cons_zero,Option.some.injEq] at ha;subst ha
    have hb:l[aZ l x]?=some b:=by rw[←hb];congr 1;omega
    rw[lG hb] at hh
    exact sy (p3 b hb) (by simpa using hh)
theorem Hm{l:List Lm}{x:Lm}(h:bX l=true):bX (cT l x).1=true:=by
 by_cases hm:dW x=true
 ·cases hh:ep l x with
  |true=>rw[uS h hm hh];exact LW h hm hh
  |false=>
   by_cases h32:l.length=32
   ·rw[sQ h hm hh h32];exact h
   ·rw[tj h hm hh h32];exact Ka h hm hh h32
 ·rw[qd fun e=>hm e.2];exact h
theorem BW{g:Gt}{x:Lm}(h:bf g=true):bf (eT g x).1=true:=by
 unfold eT;rw[if_pos h]
 split
 ·obtain⟨h1,h2,h3,h4,h5,h6⟩:=l8 h
  exact nR h1 h2 (Hm h3) h4 h5 (Nat.le_refl _) (fun k v _ hv=>h6 v (List.mem_of_getElem? hv))
 ·exact h
theorem lN{l:List Od}{id:Bs}:hasB l id=decide (id∈l.map (·.id)):=by
 unfold hasB
 rw[Bool.eq_iff_iff,List.any_eq_true,decide_eq_true_eq,List.mem_map]
 simp only[decide_eq_true_eq]
theorem ny{v:Vn}{now:Int}(h1:aQ v.book=true)(h2:aU v.ar=true)(h3:v.book.af.length+v.ar.length≤64)(h4:0≤v.last)(h5:v.last≤now)(h6:∀o∈v.ar,o.bg=true∧hasB v.book.af o.id=false):dg v now=true:=
 u9 h1 h2 h3 h4 h5 (Nat.le_refl _) (fun k o _ ho=>h6 o (List.mem_of_getElem? ho))
theorem oX{g:Gt}{k:Nat}{v':Vn}(h:bf g=true)(hv:dg v' g.now=true):bf (cf g k v')=true:=by
 obtain⟨h1,h2,h3,h4,h5,h6⟩:=l8 h
 refine nR (g:=cf g k v') (i:=g.ak.length) (by simpa[cf] using h1) (by simpa[cf] using h2) h3 h4 h5 (by simp[cf]) (fun j w _ hw=>?_)
 rcases List.mem_or_eq_of_mem_set (List.mem_of_getElem? hw) with hw|rfl
 ·exact h6 w hw
 ·exact hv
theorem OI{g:Gt}{on:Bool}(h:bf g=true):bf (kP g on).1=true:=by rw[uJ h];exact h
theorem FF{g:Gt}{now:Int}(h:bf g=true):bf (eI g now).1=true:=by
 unfold eI
 split
 ·rename_i hc
  obtain⟨h1,h2,h3,h4,h5,h6⟩:=l8 h
  have h4':dw now=true:=by
   simp only[dw,Bool.and_eq_true,decide_eq_true_eq] at h4 ⊢
   exact⟨by omega,hc.2.2⟩
  refine nR h1 h2 h3 h4' h5 (Nat.le_refl _) (fun k v _ hv=>?_)
  obtain⟨f1,f2,f3,f4,f5,f6⟩:=iB (h6 v (List.mem_of_getElem? hv))
  exact ny f1 f2 f3 f4 (Int.le_trans f5 hc.2.1) f6
 ·exact h
theorem TN{g:Gt}{n:Int}{b:Bool}(h:bf g=true):bf (iw g n b).1=true:=by
 cases hi:ba g n with
 |false=>rw[tH hi];exact h
 |true=>
  obtain⟨k,v,rfl,hv⟩:=gw hi
  rw[sG hi hv]
  obtain⟨f1,f2,f3,f4,f5,f6⟩:=iB (ju hi hv)
  exact oX h (ny f1 f2 f3 f4 f5 f6)
theorem Kz{g:Gt}{n:Int}(h:bf g=true):bf (gH g n).1=true:=by
 cases hi:ba g n with
 |false=>rw[uu hi];exact h
 |true=>
  obtain⟨k,v,rfl,hv⟩:=gw hi
  by_cases hb:v.book.bad=0
  ·rw[sL hi hv hb];exact h
  ·rw[uv hi hv hb]
   obtain⟨f1,f2,f3,f4,f5,f6⟩:=iB (ju hi hv)
   obtain⟨⟨a1,a2,a3,a4,a5,a6,a7⟩,b2,b3,b4⟩:=eO.1 f1
   refine oX h (ny (eO.2 ⟨⟨a1,a2,a3,a4,a5,by show(0:Int)≤0;decide,by show(0:Int)≤6;decide⟩,b2,b3,b4⟩) f2 f3 f4 f5 f6)
theorem zV{g:Gt}{v:Vn}{o:Od}(h:df g v o=0):g.kill=false∧fg v g.now g.pat=0∧mz g.aP o (jo g o.acc o.sym)=0:=by
 unfold df at h
 have hs:=sV v g.now g.pat
 cases hk:g.kill with
 |true=>rw[hk] at h;simp at h
 |false=>
  rw[hk] at h
  simp only[Bool.false_eq_true,if_false] at h
  split at h
  ·omega
  ·rename_i h2;exact⟨rfl,by simpa using h2,h⟩
theorem AK{v:Vn}{now pat:Int}(h:fg v now pat=0):v.book.af.length+v.ar.length<64∧v.book.ids.length<256:=by
 unfold fg gf at h
 split at h
 ·omega
 split at h
 ·omega
 ·rename_i h2
  simp only[Bool.or_eq_true,decide_eq_true_eq,not_or] at h2
  omega
theorem zp{g:Gt}{v:Vn}{o:Od}(hv:dg v g.now=true)(hm:bn o=true)(ho:o.bg=true)(hk:ez v o.id=false)(hr:v.book.af.length+v.ar.length<64):dg (eP v o) g.now=true:=by
 obtain⟨f1,f2,f3,f4,f5,f6⟩:=iB hv
 unfold ez at hk
 rw[Bool.or_eq_false_iff] at hk
 have hp:bS v.ar o.id=none:=by
  have h2:=hk.2
  rw[lN,decide_eq_false_iff_not] at h2
  have:(bS v.ar o.id).isNone=true:=by rw[nx];simpa using h2
  simpa using this
 refine ny f1 (uF f2 hm hp (by omega)) (by show v.book.af.length+(v.ar++[o]).length≤64;simp;omega) f4 f5 (fun p hp=>?_)
 rcases List.mem_append.1 hp with hp|hp
 ·exact f6 p hp
 ·rw[List.mem_singleton.1 hp];exact⟨ho,hk.1⟩
theorem C4{g:Gt}{n:Int}{o:Od}(h:bf g=true):bf (eC g n o).1=true:=by
 cases hi:ba g n with
 |false=>rw[tA hi];exact h
 |true=>
  obtain⟨k,v,rfl,hv⟩:=gw hi
  cases hm:bn (dB o) with
  |false=>rw[vg hm];exact h
  |true=>
   rw[pv hi hm hv]
   split
   ·exact h
   ·rename_i hk
    split
    ·exact h
    ·rename_i hw
     have hw:=zV (by simpa using hw)
     exact oX h (zp (ju hi hv) hm rfl (by show ez v o.id=false;simpa using hk) (AK hw.2.1).1)
theorem Xo{g:Gt}{n:Int}{old id:Bs}{q p:Int}(h:bf g=true):bf (eh g n old id q p).1=true:=by
 cases hi:ba g n with
 |false=>rw[uj hi];exact h
 |true=>
  obtain⟨k,v,rfl,hv⟩:=gw hi
  rw[jZ hi hv]
  split
  ·exact h
  ·rename_i hf
   split
   ·exact h
   ·rename_i hm
    split
    ·exact h
    ·rename_i hk
     split
     ·exact h
     ·rename_i hw
      have hw:=zV (by simpa using hw)
      simp only[not_or,Bool.not_eq_false] at hf
      exact oX h (zp (ju hi hv) (by simpa using hm) hf.2 (by show ez v id=false;simpa using hk) (AK hw.2.1).1)
theorem Hd{l:List Od}{o:Od}(h:(cD l o).2=0):(cD l o).1.map (·.id)=l.map (·.id)++[o.id]:=by
 unfold cD at h ⊢
 split at h<;>rename_i h1
 ·simp at h
 split at h<;>rename_i h2
 ·simp at h
 split at h<;>rename_i h3
 ·simp at h
 rw[if_neg h1,if_neg h2,if_neg h3];simp
theorem E5{l:List Od}{id:Bs}(h:(dj l id).2=0):(dj l id).1.map (·.id)=l.map (·.id):=by
 unfold dj at h ⊢
 split at h
 ·simp at h
 ·rename_i h1
  rw[if_neg h1]
  split at h
  ·simp at h
  ·rename_i n hn
   obtain⟨o,h2,h3,h4,h5⟩:=nh hn
   simp only[hn,h5]
   exact mD h2 rfl
theorem LL{l:List Od}{id:Bs}{q p:Int}(h:(cc l id q p).2=0):(cc l id q p).1.map (·.id)=l.map (·.id):=by
 unfold cc at h ⊢
 split at h
 ·simp at h
 ·rename_i h1
  rw[if_neg h1]
  split at h
  ·simp at h
  ·rename_i n hn
   obtain⟨o,h2,h3,h4,h5⟩:=nh hn
   simp only[hn,h5] at h ⊢
   split at h<;>rename_i h6
   ·simp at h
   split at h<;>rename_i h7
   ·simp at h
   rw[if_neg h6,if_neg h7]
   exact mD h2 rfl
theorem Kr{l:List Od}{a b:Bs}{q p:Int}(h:(ca l a b q p).2=0):(ca l a b q p).1.map (·.id)=l.map (·.id)++[b]:=by
 unfold ca at h ⊢
 split at h
 ·simp at h
 ·rename_i h1
  rw[if_neg h1]
  split at h
  ·simp at h
  ·rename_i n hn
   obtain⟨o,h2,h3,h4,h5⟩:=nh hn
   simp only[hn,h5] at h ⊢
   split at h<;>rename_i h6
   ·simp at h
   split at h<;>rename_i h7
   ·simp at h
   split at h<;>rename_i h8
   ·simp at h
   rw[if_neg h6,if_neg h7,if_neg h8]
   show(l.set n _++_).map _=_
   rw[List.map_append,mD (f:=fun o:Od=>o.id) h2 (by rfl)]
   rfl
theorem R0{b c:Bk}{x:Ex}(h:jB b x c):c.af.map (·.id)=b.af.map (·.id)∨(jt x=true∧c.af.map (·.id)=b.af.map (·.id)++[x.ord]):=by
 cases h with
 |opens hk h=>exact .inr ⟨by simp[jt,hk],Hd h⟩
 |tr=>exact .inl rfl
 |vB=>exact .inl rfl
 |ai hk h=>exact .inl (LL h)
 |changes hk h=>exact .inr ⟨by simp[jt,hk],Kr h⟩
 |r7 hk h=>exact .inl (E5 h)
theorem wb{b:Bk}{x:Ex}(hr:aQ b=true)(h:(aY b x).2=3):dh x=true∧b.bad=0∧b.ids.length<256∧x.id∉b.ids∧(aY b x).1.af=b.af:=by
 cases hx:dh x with
 |false=>unfold aY at h;rw[hx] at h;simp at h
 |true=>
  have e:aY b x=bM b x:=by unfold aY;simp[hr,hx]
  rw[e] at h ⊢
  by_cases h1:b.bad≠0∨256≤b.ids.length
  ·unfold bM at h;rw[if_pos h1] at h;simp at h
  ·simp only[not_or,ne_eq,Decidable.not_not] at h1
   by_cases hm:x.id∈b.ids
   ·unfold bM at h;rw[if_neg (by omega),if_pos (nL.2 hm)] at h;simp at h
   ·rcases BK h1.1 (by omega) hm with⟨e',h4,_⟩|⟨c,h4,h5,h6⟩
    ·exact⟨rfl,h1.1,by omega,hm,by rw[h4]⟩
    ·rw[h4] at h;simp at h
theorem U8{b:Bk}{x:Ex}(hr:aQ b=true)(h:(aY b x).2=1):b.ids.length<256:=by
 obtain⟨hx,hb,hm,_⟩:=sN hr h
 have e:aY b x=bM b x:=by unfold aY;simp[hr,hx]
 rw[e] at h
 rcases Nat.lt_or_ge b.ids.length 256 with h'|h'
 ·exact h'
 ·unfold bM at h;rw[if_pos (.inr h')] at h;simp at h
theorem Ih{v:Vn}{x:Ex}{now:Int}(hv:dg v now=true)(hm:x.id∉v.book.ids)(hl:v.book.ids.length<256):dg (iM v x) now=true:=by
 obtain⟨f1,f2,f3,f4,f5,f6⟩:=iB hv
 obtain⟨⟨a1,a2,a3,a4,a5,a6,a7⟩,b2,b3,b4⟩:=eO.1 f1
 refine ny (eO.2 ⟨⟨a1,a2,by show(v.book.ids++[x.id]).length≤256;simp;omega,a4,a5,by show(0:Int)≤2;decide,by show(2:Int)≤6;decide⟩,?_,?_,b4⟩) f2 f3 f4 f5 f6
 ·show(v.book.ids++[x.id]).Nodup
  rw[List.nodup_append]
  refine⟨b2,by simp,fun a ha c hc e=>?_⟩
  simp only[List.mem_singleton] at hc
  subst hc;subst e;exact hm ha
 ·exact fun f hf=>ub (h:=b3 f hf) (Int.le_refl _) (fun s hs=>List.mem_append_left _ hs)
theorem Cd{l:List Od}{p:Nat}(h:aU l=true):aU (l.eraseIdx p)=true:=by
 rw[jw] at h ⊢
 have hs:(l.eraseIdx p).Sublist l:=List.eraseIdx_sublist ..
 exact⟨Nat.le_trans hs.length_le h.1,fun o ho=>h.2.1 o (hs.subset ho),(hs.map _).nodup h.2.2⟩
theorem SJ{g:Gt}{n:Int}{x:Ex}(h:bf g=true):bf (cj g n x).1=true:=by
 cases hi:ba g n with
 |false=>rw[uX hi];exact h
 |true=>
  obtain⟨k,v,rfl,hv⟩:=gw hi
  have hrv:=ju hi hv
  obtain⟨f1,f2,f3,f4,f5,f6⟩:=iB hrv
  have hnow:=l8 h
  have hn:0≤g.now:=by have:=hnow.2.2.2.1;simp only[dw,Bool.and_eq_true,decide_eq_true_eq] at this;exact this.1
  rw[mv hi hv]
  split
  ·exact h
  rename_i h24
  split
  rotate_left
  ·exact h
  rename_i h13
  refine oX h ?_
  have hb:=ui (x:=x) f1
  have ids:∀(s:List Od) (l2:Int),aU s=true→0≤l2→l2≤g.now→(aY v.book x).1.af.length+s.length≤64→(∀o∈s,o.bg=true∧hasB (aY v.book x).1.af o.id=false)→dg ⟨(aY v.book x).1,s,l2,v.br⟩ g.now=true:=
   fun s l2 e1 e2 e3 e4 e5=>ny hb e1 e4 e2 e3 e5
  have same:(aY v.book x).1.af.map (·.id)=v.book.af.map (·.id)→∀l2:Int,0≤l2→l2≤g.now→dg ⟨(aY v.book x).1,v.ar,l2,v.br⟩ g.now=true:=fun e l2 e2 e3=>by
   have hlen:(aY v.book x).1.af.length=v.book.af.length:=by have:=congrArg List.length e;simpa using this
   refine ids _ _ f2 e2 e3 (by omega) (fun o ho=>⟨(f6 o ho).1,?_⟩)
   rw[lN,e,←lN];exact(f6 o ho).2
  have hk3:(aY v.book x).2=3→(aY v.book x).1.af.map (·.id)=v.book.af.map (·.id):=fun h3=>by rw[(wb f1 h3).2.2.2.2]
  have hnew:x.id∉v.book.ids∧v.book.ids.length<256:=by
   rcases h13 with h1|h3
   ·exact⟨(sN f1 h1).2.2.1,U8 f1 h1⟩
   ·have:=wb f1 h3;exact⟨this.2.2.2.1,this.2.2.1⟩
  have h1ids:(aY v.book x).2=1→(aY v.book x).1.af.map (·.id)=v.book.af.map (·.id)∨(jt x=true∧(aY v.book x).1.af.map (·.id)=v.book.af.map (·.id)++[x.ord]):=fun h1=>by
   obtain⟨_,_,_,c,e,_,hd⟩:=sN f1 h1
   have:=R0 hd
   rw[e];exact this
  unfold kG
  split
  ·rename_i ho
   split
   ·exact Ih hrv hnew.1 hnew.2
   ·rename_i p hp
    split
    ·rename_i h1
     rcases h1ids h1 with e|⟨_,e⟩
     ·
      have hs:(v.ar.eraseIdx p).Sublist v.ar:=List.eraseIdx_sublist ..
      have hlen:(aY v.book x).1.af.length=v.book.af.length:=by have:=congrArg List.length e;simpa using this
      have:=hs.length_le
      refine ids _ _ (Cd f2) hn (Int.le_refl _) (by omega) (fun o ho=>⟨(f6 o (hs.subset ho)).1,?_⟩)
      rw[lN,e,←lN];exact(f6 o (hs.subset ho)).2
     ·have hs:(v.ar.eraseIdx p).Sublist v.ar:=List.eraseIdx_sublist ..
      have hlen:(aY v.book x).1.af.length=v.book.af.length+1:=by have:=congrArg List.length e;simpa using this
      obtain⟨hpl,hfit,_⟩:=List.findIdx?_eq_some_iff_getElem.1 hp
      have hpid:v.ar[p].id=x.ord:=by
       simp only[gL,Bool.and_eq_true,decide_eq_true_eq] at hfit
       exact hfit.1.1.1.1.1.1
      have hel:(v.ar.eraseIdx p).length=v.ar.length-1:=List.length_eraseIdx_of_lt hpl
      refine ids _ _ (Cd f2) hn (Int.le_refl _) (by omega) (fun o ho=>⟨(f6 o (hs.subset ho)).1,?_⟩)
      rw[lN,e,decide_eq_false_iff_not,List.mem_append,not_or]
      refine⟨by have:=(f6 o (hs.subset ho)).2;rw[lN] at this;simpa using this,fun hx=>?_⟩
      simp only[List.mem_singleton] at hx
      have hnd:=(jw.1 f2).2.2
      obtain⟨q,hq⟩:=List.mem_iff_getElem?.1 ho
      rw[List.getElem?_eraseIdx] at hq
      have hpg:(v.ar.map (·.id))[p]?=some x.ord:=by rw[List.getElem?_map,List.getElem?_eq_getElem hpl];simp[hpid]
      have key:∀j,v.ar[j]?=some o→j=p:=fun j hj=>by
       have hjg:(v.ar.map (·.id))[j]?=some x.ord:=by rw[List.getElem?_map,hj];simp[hx]
       have hjl:=bI hjg
       exact(List.getElem?_inj hjl hnd).1 (hjg.trans hpg.symm)
      split at hq
      ·have:=key _ hq;omega
      ·have:=key _ hq;omega
    ·rename_i h1
     exact same (hk3 (by omega)) _ f4 f5
  ·rename_i ho
   split
   ·rename_i h1
    rcases h1ids h1 with e|⟨e0,_⟩
    ·exact same e _ hn (Int.le_refl _)
    ·exact absurd e0 ho
   ·rename_i h1
    exact same (hk3 (by omega)) _ f4 f5
theorem Sy{p:Int}(h:dw p=true):dg zeroV 0=true:=by decide
theorem SL{n p:Int}(h1:1≤n)(h2:n≤4)(h:dw p=true):bf (kC n p).1=true:=by
 rw[vv h1 h2 h]
 refine nR (by show 1≤(List.replicate n.toNat zeroV).length;rw[List.length_replicate];omega) (by show(List.replicate n.toNat zeroV).length≤4;rw[List.length_replicate];omega) (by show bX []=true;decide) (by show dw 0=true;decide) h (Nat.le_refl _) (fun k v _ hv=>?_)
 have:=List.mem_of_getElem? hv
 simp only[List.mem_replicate] at this
 rw[this.2]
 exact Sy h
end Go.Bk
end
section
namespace Go.Abs
open Go Go.RowKit
theorem cq.drop{c:Ctx}{k:Nat}{es:List AV}{cs:List Value}(h:cq c k es cs)(d:Nat):cq c k (es.drop d) (cs.drop (d*k)):=by
 refine⟨fun i e he=>h.1 (d+i) e (by rwa[List.getElem?_drop] at he),fun i e j x he hx=>?_⟩
 rw[List.getElem?_drop] at he
 obtain⟨v,h1,h2⟩:=h.2 (d+i) e j x he hx
 refine⟨v,?_,h2⟩
 rw[List.getElem?_drop,←h1]
 congr 1
 rw[Nat.add_mul];omega
theorem cq.takeN{c:Ctx}{k:Nat}{es:List AV}{cs:List Value}(h:cq c k es cs)(d:Nat)(hd:d≤es.length):cq c k (es.take d) (cs.take (d*k)):=by
 have h2:cq c k (es.take d++es.drop d) cs:=by rw[List.take_append_drop];exact h
 have:=h2.take
 rwa[List.length_take,Nat.min_eq_left hd] at this
section
variable{P:Program}{w0:World}{im0:di}{c:Ctx}{st:St}{a:Act}{w:World}
theorem NJ(r:Rel w0 im0 c st a w){t tx ty e:TypeId}{k n':Nat}(hx:ek P tx=true)(hai:cV P t=some (e,k,n')){id i j o cy:Nat}{es:List AV}{v xv:Value}
 (hv:VR c (.mu id k 0 i es.length) v) (hxv:VR c (.mu id k o j cy) xv) (ho:st.own[id]?=some (some es)) (hpos:0<es.length) (hij:i+j≤es.length) (hoj:o+j≤es.length) (hna:∀e∈(es.drop o).take j,∀x∈e.leaves,x≠.any):
 ∃v' w',(Builtin.append_ #[t,tx] ty #[v,xv]).run P w= .ok v' w'∧Rel w0 im0 c { st with own:=st.own.set id (some (es.take i++((es.drop o).take j++es.drop (i+j)))) } a w'∧VR c (.mu id k 0 (i+j) es.length) v':=by
 obtain⟨hu,hs,hk0,ii,zv,hi,hz,hsize,hbytes,hzs⟩:=iX hai
 rcases hv.cP with⟨g,hb,hcap,hve⟩|⟨_,hz2,_⟩
 rotate_left
 ·omega
 have hown:=r.own id g k _ hb ho
 obtain⟨cs,ty',lo,hi',hblk,hfr,hsz,hlv,hcell⟩:=hown.aV
 rw[Nat.zero_mul] at hve
 have hoc:cq c k es cs.toList:=⟨hlv,fun i e j x he hx=>by obtain⟨u,h1,h2⟩:=hcell i e j x he hx;exact⟨u,by simpa using h1,h2⟩⟩
 have hq:cs.toList.length=cs.size:=Array.length_toList
 have hmul:(o+j)*k≤es.length*k:=Nat.mul_le_mul_right _ hoj
 have hmul2:(i+j)*k≤es.length*k:=Nat.mul_le_mul_right _ hij
 rw[Nat.add_mul] at hmul hmul2
 obtain⟨news,hnews⟩:∃news,news=(cs.toList.drop (o*k)).take (j*k):=⟨_,rfl⟩
 have hnl:news.length=j*k:=by rw[hnews,List.length_take,List.length_drop,hq];omega
 have hone:∀u∈news,u.oneCell'=true:=by
  intro u hu'
  obtain⟨q,hq'⟩:=List.mem_iff_getElem?.1 hu'
  rw[hnews,List.getElem?_take] at hq'
  split at hq'
  ·rename_i hqlt
   rw[List.getElem?_drop] at hq'
   have hdm:=Nat.div_add_mod q k
   have hmod:=Nat.mod_lt q hk0
   have hdiv:q/k<j:=Nat.div_lt_of_lt_mul (by rw[Nat.mul_comm];exact hqlt)
   have hel:es[o+q/k]?=some (es[o+q/k]'(by omega)):=List.getElem?_eq_getElem (by omega)
   have hlen:=hlv _ _ hel
   have hlf:(es[o+q/k]'(by omega)).leaves[q%k]?=some ((es[o+q/k]'(by omega)).leaves[q%k]'(by omega)):=List.getElem?_eq_getElem (by omega)
   obtain⟨v2,e1,e2,e3⟩:=hcell _ _ _ _ hel hlf
   have hidx:(o+q/k)*k+q%k=o*k+q:=by
    rw[Nat.add_mul,Nat.mul_comm (q/k) k];omega
   rw[hidx] at e1
   have:u=v2:=by
    have h1:cs.toList[o*k+q]?=some v2:=by simpa using e1
    rw[h1] at hq';exact(Option.some.inj hq').symm
   subst this
   refine e3.resolve_left (hna _ ?_ _ (List.mem_of_getElem? hlf))
   refine List.mem_iff_getElem?.2 ⟨q/k,?_⟩
   rw[List.getElem?_take,if_pos hdiv,List.getElem?_drop];exact hel
  ·simp at hq'
 have hlen:(Builtin.lenOf xv).run P w= .ok j w∧(Builtin.firstCells k j xv).run P w= .ok news.toArray w:=by
  rcases hxv.cP with⟨g2,hb2,hcap2,hxe⟩|⟨hj0,_,hxe⟩
  ·have hg:g2=g:=by rw[hb] at hb2;simp only[Option.some.injEq,Prod.mk.injEq] at hb2;exact hb2.1.symm
   subst hg
   rw[hxe]
   refine⟨by simp[Builtin.lenOf],?_⟩
   exact run_firstCells_some w k j ⟨g2,o*k,none⟩ j _ _ hnl (fun p u hp=>by
    rw[fq]
    rw[hnews,List.getElem?_take] at hp
    split at hp
    ·rw[List.getElem?_drop] at hp
     simp only[World.cell?,hblk,Option.isSome_none,Bool.false_eq_true,if_false];simpa using hp
    ·simp at hp)
  ·subst hj0
   rw[hxe]
   have:news=[]:=List.eq_nil_of_length_eq_zero (by rw[hnl];simp)
   rw[this]
   exact⟨by simp[Builtin.lenOf],run_firstCells_none w k 0 0 0⟩
 have hfro:∀o,o<cs.toList.length→¬(lo≤o∧o<hi'):=fun o h1 h2=>by
  have h1:o<cs.size:=by simpa using h1
  rcases hfr with h|h<;>omega
 have hcs:cs=cs.toList.toArray:=by simp
 have hfit2:i*k+0+news.length≤cs.toList.length:=by rw[hnl,hq];omega
 have hst:=ln (P:=P) g (i*k) ty' lo hi' news 0 cs.toList w (by rw[←hcs];exact hblk) hfro hfit2 hone
 rw[Nat.add_zero] at hst
 have hrun:=ng (P:=P) (w:=w) (ty:=ty) (base:=some ⟨g,0,none⟩) (n:=i) (cap:=es.length) hu hs hx hlen.1 hlen.2 hij
 simp only[fq,Nat.zero_add,hst,Result.andThen_ok] at hrun
 have hcs'len:(cb cs.toList (i*k) news).length=cs.size:=by rw[gn];simp
 have hOC:cq c k (es.take i++((es.drop o).take j++es.drop (i+j))) (cb cs.toList (i*k) news):=by
  have e1:cb cs.toList (i*k) news=cs.toList.take (i*k)++(news++cs.toList.drop ((i+j)*k)):=by
   apply List.ext_getElem?
   intro p
   have htl:(cs.toList.take (i*k)).length=i*k:=by rw[List.length_take,hq];omega
   rw[jD _ _ _ _ (by simpa using hfit2)]
   by_cases hp:p<i*k
   ·rw[if_neg (by omega),List.getElem?_append_left (by rw[htl];exact hp),List.getElem?_take,if_pos hp]
   ·rw[List.getElem?_append_right (by rw[htl];omega),htl]
    by_cases hp2:p<i*k+news.length
    ·rw[if_pos ⟨by omega,hp2⟩,List.getElem?_append_left (by omega)]
    ·rw[if_neg (by omega),List.getElem?_append_right (by omega),List.getElem?_drop,hnl,Nat.add_mul]
     congr 1;rw[hnl] at hp2;omega
  rw[e1]
  refine(hoc.takeN i (by omega)).append (by rw[List.length_take,List.length_take,hq,Nat.min_eq_left (show i≤es.length by omega)];omega) ?_
  rw[hnews]
  refine((hoc.drop o).takeN j (by rw[List.length_drop];omega)).append (by rw[←hnews,hnl,List.length_take,List.length_drop,Nat.min_eq_left (by omega)]) (hoc.drop (i+j))
 have hnewlen:(es.take i++((es.drop o).take j++es.drop (i+j))).length=es.length:=by simp only[List.length_append,List.length_take,List.length_drop];omega
 have hset:=r.lC (w':=w.setRow g (cb cs.toList (i*k) news).toArray) (es':=es.take i++((es.drop o).take j++es.drop (i+j))) hb ho (fun b hne=>setRow_other w g b _ hne) (below_setRow r.below hown.new _)
  ⟨(cb cs.toList (i*k) news).toArray,ty',lo,hi',setRow_heap w g cs _ ty' (lo,hi') hblk,by
    rcases hfr with h|h
    ·exact .inl h
    ·exact .inr (by simpa[gn] using h),by
    rw[hnewlen];simp only[List.size_toArray,hcs'len];exact hsz,hOC.1,fun i e j x he hx=>by
    obtain⟨u,h1,h2⟩:=hOC.2 i e j x he hx
    exact⟨u,by simpa using h1,h2⟩⟩
 refine⟨_,_,by rw[hve];exact hrun,hset,?_⟩
 have:=VR.mu (c:=c) (id:=id) (off:=0) (len:=i+j) (g:=g) (k:=k) (cap:=es.length) hb hij
 rw[Nat.zero_mul] at this
 exact this
end
section
variable{E:Env}{Q:Exit→St→Prop}{st:St}{ops:Array Oper}{l:List Oper}
theorem aj.wO{dst:Option Tmp}{t tx ty:TypeId}{x y:Operand}{pos:String}{after:Array Edge}{e:TypeId}{k n' id i j o cy:Nat}{es:List AV}
 (hx:ek E.P tx=true) (hai:cV E.P t=some (e,k,n')) (hs:st.ev x= .mu id k 0 i es.length) (hsy:st.ev y= .mu id k o j cy) (ho:st.own[id]?=some (some es)) (hpos:0<es.length) (hij:i+j≤es.length) (hoj:o+j≤es.length) (hna:∀e∈(es.drop o).take j,∀x∈e.leaves,x≠.any)
 (h:aj E ops l Q (St.put { st with own:=st.own.set id (some (es.take i++((es.drop o).take j++es.drop (i+j)))) } dst (.mu id k 0 (i+j) es.length))):aj E ops (⟨dst,.call ⟨.builtin .append,#[x,y],#[t,tx]⟩,ty,pos,after,none⟩::l) Q st:=by
 intro w0 im0 cx a w h0 hG r
 refine wpList_step (fun K' hK'=>?_)
 have hw:Region.wanted ⟨dst,.call ⟨.builtin .append,#[x,y],#[t,tx]⟩,ty,pos,after,none⟩ (yielded ops a.tmps)=true:=rfl
 rw[if_pos hw]
 have hv:=r.ev x
 have hvy:=r.ev y
 rw[hs] at hv;rw[hsy] at hvy
 obtain⟨v',w',h1,h2,h3⟩:=NJ (P:=E.P) (ty:=ty) r hx hai hv hvy ho hpos hij hoj hna
 refine eG (w':=w') (v:=v') ?_ (hK' _ _ (h w0 im0 _ _ _ h0 hG (h2.put dst h3)))
 simp only[execOp,resolve,Sem.run_bind,Sem.run_pure,Result.andThen_ok,invoke,builtin,List.map_toArray,List.map_cons,List.map_nil,h1]
theorem Su{P:Program}{w:World}{len cap l h m:Nat}(h1:l≤h)(h2:h≤m)(h3:m≤cap):(Instr.sliceBounds true len cap (some (.int .i64 (l:Int))) (some (.int .i64 (h:Int))) (some (.int .i64 (m:Int)))).run P w= .ok (l,h,m) w:=by
 have e1:∀code,(Instr.sliceBound (.int .i64 (m:Int)) cap code).run P w= .ok m w:=fun code=>(jT (by omega) (by omega)).trans (by simp)
 have e2:∀code,(Instr.sliceBound (.int .i64 (h:Int)) m code).run P w= .ok h w:=fun code=>(jT (by omega) (by omega)).trans (by simp)
 have e3:∀code,(Instr.sliceBound (.int .i64 (l:Int)) h code).run P w= .ok l w:=fun code=>(jT (by omega) (by omega)).trans (by simp)
 simp[Instr.sliceBounds,Sem.run_bind,e1,e2,e3]
theorem O2{P:Program}{w:World}{len cap l h:Nat}(h1:l≤h)(h2:h≤cap):(Instr.sliceBounds true len cap (some (.int .i64 (l:Int))) (some (.int .i64 (h:Int))) none).run P w= .ok (l,h,cap) w:=by
 have e2:∀code,(Instr.sliceBound (.int .i64 (h:Int)) cap code).run P w= .ok h w:=fun code=>(jT (by omega) (by omega)).trans (by simp)
 have e3:∀code,(Instr.sliceBound (.int .i64 (l:Int)) h code).run P w= .ok l w:=fun code=>(jT (by omega) (by omega)).trans (by simp)
 simp[Instr.sliceBounds,Sem.run_bind,e2,e3]
theorem Ci{P:Program}{w:World}{len cap l:Nat}(h1:l≤len):(Instr.sliceBounds true len cap (some (.int .i64 (l:Int))) none none).run P w= .ok (l,len,cap) w:=by
 have e3:∀code,(Instr.sliceBound (.int .i64 (l:Int)) len code).run P w= .ok l w:=fun code=>(jT (by omega) (by omega)).trans (by simp)
 simp[Instr.sliceBounds,Sem.run_bind,e3]
theorem aj.C5{dst:Option Tmp}{t ty:TypeId}{x lo hi mx:Operand}{pos:String}{after:Array Edge}{e:TypeId}{k id off len cap l' h' m':Nat}
 (hu:E.P.underlying t=some (.slice e)) (hsz:bC E.P e=some k) (hs:st.ev x= .mu id k off len cap) (hl:st.ev lo=i64 (l':Int)) (hh:st.ev hi=i64 (h':Int)) (hm:st.ev mx=i64 (m':Int)) (h1:l'≤h') (h2:h'≤m') (h3:m'≤cap)
 (h:aj E ops l Q (st.put dst .any)):aj E ops (⟨dst,.slice t x (some lo) (some hi) (some mx),ty,pos,after,none⟩::l) Q st:=by
 intro w0 im0 cx a w h0' hG r
 refine wpList_step (fun K' hK'=>?_)
 have hw:Region.wanted ⟨dst,.slice t x (some lo) (some hi) (some mx),ty,pos,after,none⟩ (yielded ops a.tmps)=true:=rfl
 rw[if_pos hw]
 have hv:=r.ev x
 rw[hs] at hv
 have e1:a.eval lo= .int .i64 (l':Int):=by have:=r.ev lo;rw[hl] at this;exact this.bt
 have e2:a.eval hi= .int .i64 (h':Int):=by have:=r.ev hi;rw[hh] at this;exact this.bt
 have e3:a.eval mx= .int .i64 (m':Int):=by have:=r.ev mx;rw[hm] at this;exact this.bt
 have hval:∃u,(Instr.sliceAt t (a.eval x) (some (a.eval lo)) (some (a.eval hi)) (some (a.eval mx))).run E.P w= .ok u w:=by
  rw[e1,e2,e3]
  have key:∀(b:Option Addr) (len cap:Nat),m'≤cap→(Instr.sliceAt t (.slice b len cap) (some (.int .i64 (l':Int))) (some (.int .i64 (h':Int))) (some (.int .i64 (m':Int)))).run E.P w= .ok (.slice (if m'=l' then b else b.map (·.add (l'*k))) (h'-l') (m'-l')) w:=by
   intro b len cap hm3
   simp only[Instr.sliceAt,Sem.run_bind,bT hu,Result.andThen_ok,Instr.slice,Su (P:=E.P) (w:=w) h1 h2 hm3,dz hsz,Sem.run_pure]
  rcases hv.cP with⟨g,hb,hcap,hve⟩|⟨hz,hz2,hve⟩
  ·rw[hve];exact⟨_,key _ _ _ h3⟩
  ·rw[hve];exact⟨_,key _ _ _ (by omega)⟩
 obtain⟨u,hrun⟩:=hval
 refine eG (w':=w) (v:=u) ?_ (hK' _ _ (h w0 im0 _ _ _ h0' hG (r.put dst (.base (.any _)))))
 simp only[execOp,Option.map_some,Sem.run_bind,hrun,Result.andThen_ok,Sem.run_pure]
theorem aj.QB{dst:Option Tmp}{t ty:TypeId}{x lo hi:Operand}{pos:String}{after:Array Edge}{e:TypeId}{k id off len cap l' h':Nat}
 (hu:E.P.underlying t=some (.slice e)) (hsz:bC E.P e=some k) (hs:st.ev x= .mu id k off len cap) (hl:st.ev lo=i64 (l':Int)) (hh:st.ev hi=i64 (h':Int)) (h1:l'≤h') (h2:h'≤cap) (h3:l'<cap)
 (h:aj E ops l Q (st.put dst (.mu id k (off+l') (h'-l') (cap-l')))):aj E ops (⟨dst,.slice t x (some lo) (some hi) none,ty,pos,after,none⟩::l) Q st:=by
 intro w0 im0 cx a w h0' hG r
 refine wpList_step (fun K' hK'=>?_)
 have hw:Region.wanted ⟨dst,.slice t x (some lo) (some hi) none,ty,pos,after,none⟩ (yielded ops a.tmps)=true:=rfl
 rw[if_pos hw]
 have hv:=r.ev x
 rw[hs] at hv
 have e1:a.eval lo= .int .i64 (l':Int):=by have:=r.ev lo;rw[hl] at this;exact this.bt
 have e2:a.eval hi= .int .i64 (h':Int):=by have:=r.ev hi;rw[hh] at this;exact this.bt
 rcases hv.cP with⟨g,hb,hcap,hve⟩|⟨hz,hz2,_⟩
 rotate_left
 ·omega
 have hrun:(Instr.sliceAt t (a.eval x) (some (a.eval lo)) (some (a.eval hi)) none).run E.P w= .ok (.slice (some ⟨g,(off+l')*k,none⟩) (h'-l') (cap-l')) w:=by
  rw[e1,e2,hve]
  simp only[Instr.sliceAt,Sem.run_bind,bT hu,Result.andThen_ok,Instr.slice,O2 (P:=E.P) (w:=w) h1 h2,dz hsz,Sem.run_pure]
  have hne:¬cap=l':=by omega
  simp[hne,Addr.add,Nat.add_mul]
 refine eG (w':=w) (v:= .slice (some ⟨g,(off+l')*k,none⟩) (h'-l') (cap-l')) ?_ (hK' _ _ (h w0 im0 _ _ _ h0' hG (r.put dst (.mu hb (by omega)))))
 simp only[execOp,Option.map_some,Option.map_none,Sem.run_bind,hrun,Result.andThen_ok,Sem.run_pure]
theorem aj.Ts{dst:Option Tmp}{t ty:TypeId}{x lo:Operand}{pos:String}{after:Array Edge}{e:TypeId}{k id off cap:Nat}
 (hu:E.P.underlying t=some (.slice e)) (hsz:bC E.P e=some k) (hs:st.ev x= .mu id k off cap cap) (hl:st.ev lo=i64 (cap:Int)) (hc:0<cap)
 (h:aj E ops l Q (st.put dst (.mu id k off 0 0))):aj E ops (⟨dst,.slice t x (some lo) none none,ty,pos,after,none⟩::l) Q st:=by
 intro w0 im0 cx a w h0' hG r
 refine wpList_step (fun K' hK'=>?_)
 have hw:Region.wanted ⟨dst,.slice t x (some lo) none none,ty,pos,after,none⟩ (yielded ops a.tmps)=true:=rfl
 rw[if_pos hw]
 have hv:=r.ev x
 rw[hs] at hv
 have e1:a.eval lo= .int .i64 (cap:Int):=by have:=r.ev lo;rw[hl] at this;exact this.bt
 rcases hv.cP with⟨g,hb,hcap,hve⟩|⟨hz,hz2,_⟩
 rotate_left
 ·omega
 have hrun:(Instr.sliceAt t (a.eval x) (some (a.eval lo)) none none).run E.P w= .ok (.slice (some ⟨g,off*k,none⟩) 0 0) w:=by
  rw[e1,hve]
  simp only[Instr.sliceAt,Sem.run_bind,bT hu,Result.andThen_ok,Instr.slice,Ci (P:=E.P) (w:=w) (Nat.le_refl _),dz hsz,Sem.run_pure]
  simp
 refine eG (w':=w) (v:= .slice (some ⟨g,off*k,none⟩) 0 0) ?_ (hK' _ _ (h w0 im0 _ _ _ h0' hG (r.put dst (.mu hb (Nat.le_refl _)))))
 simp only[execOp,Option.map_some,Option.map_none,Sem.run_bind,hrun,Result.andThen_ok,Sem.run_pure]
end
theorem Cells.Nu{c:Ctx}{k:Nat}{es:List AV}{cs:List Value}(h:Cells c.im k es cs):cq c k es cs:=
 ⟨h.1,fun i e j x he hx=>by obtain⟨u,h1,h2,h3⟩:=h.2 i e j x he hx;exact⟨u,h1,.base h2,.inr h3⟩⟩
section
variable{P:Program}{w0:World}{im0:di}{c:Ctx}{st:St}{a:Act}{w:World}
theorem Uz(r:Rel w0 im0 c st a w){t tx ty e:TypeId}{k n':Nat}(hai:cV P t=some (e,k,n')){id off len cap:Nat}{es xs:List AV}{v xv:Value}{x:AV}
 (hv:VR c (.mu id k off len cap) v) (hxv:VR c x xv) (hsrc:ib x k=some xs) (ho:st.own[id]?=some (some es)) (hfit:off+len≤es.length) (hxl:xs.length≤len) (hpos:0<len):
 ∃w',(Builtin.copy_ #[t,tx] ty #[v,xv]).run P w= .ok (goInt xs.length) w'∧Rel w0 im0 c { st with own:=st.own.set id (some (es.take off++(xs++es.drop (off+xs.length)))) } a w':=by
 obtain⟨hu,hs,hk0,ii,zv,hi,hz,hsize,hbytes,hzs⟩:=iX hai
 rcases hv.cP with⟨g,hb,hcap,hve⟩|⟨hl0,_,_⟩
 rotate_left
 ·omega
 have hown:=r.own id g k _ hb ho
 obtain⟨cs,ty',lo,hi',hblk,hfr,hsz,hlv,hcell⟩:=hown.aV
 obtain⟨news,hnl,hcells,hlen,hone,hfirst⟩:=nJ (P:=P) r hxv hk0 hsrc
 have hoc:cq c k es cs.toList:=⟨hlv,fun i e j x he hx=>by obtain⟨u,h1,h2⟩:=hcell i e j x he hx;exact⟨u,by simpa using h1,h2⟩⟩
 have hq:cs.toList.length=cs.size:=Array.length_toList
 have hmul:(off+xs.length)*k≤es.length*k:=Nat.mul_le_mul_right _ (by omega)
 rw[Nat.add_mul] at hmul
 have hfro:∀o,o<cs.toList.length→¬(lo≤o∧o<hi'):=fun o h1 h2=>by
  have h1:o<cs.size:=by simpa using h1
  rcases hfr with h|h<;>omega
 have hcs:cs=cs.toList.toArray:=by simp
 have hfit2:off*k+0+news.length≤cs.toList.length:=by rw[hnl,hq];omega
 have hst:=ln (P:=P) g (off*k) ty' lo hi' news 0 cs.toList w (by rw[←hcs];exact hblk) hfro hfit2 hone
 rw[Nat.add_zero] at hst
 have hrun:(Builtin.copy_ #[t,tx] ty #[v,xv]).run P w= .ok (goInt xs.length) (w.setRow g (cb cs.toList (off*k) news).toArray):=by
  have hmin:Nat.min xs.length len=xs.length:=Nat.min_eq_left hxl
  have hso:=dz hs w
  subst hve
  simp only[Builtin.copy_,List.getElem?_toArray,List.getElem?_cons_zero,List.getElem?_cons_succ,Sem.run_bind,bT hu,Result.andThen_ok,hlen w,hso,hmin,hfirst w (fun _ _=>rfl),hst,Sem.run_pure]
 have hcs'len:(cb cs.toList (off*k) news).length=cs.size:=by rw[gn];simp
 have hOC:cq c k (es.take off++(xs++es.drop (off+xs.length))) (cb cs.toList (off*k) news):=by
  have e1:cb cs.toList (off*k) news=cs.toList.take (off*k)++(news++cs.toList.drop ((off+xs.length)*k)):=by
   apply List.ext_getElem?
   intro p
   have htl:(cs.toList.take (off*k)).length=off*k:=by rw[List.length_take,hq];omega
   rw[jD _ _ _ _ (by simpa using hfit2)]
   by_cases hp:p<off*k
   ·rw[if_neg (by omega),List.getElem?_append_left (by rw[htl];exact hp),List.getElem?_take,if_pos hp]
   ·rw[List.getElem?_append_right (by rw[htl];omega),htl]
    by_cases hp2:p<off*k+news.length
    ·rw[if_pos ⟨by omega,hp2⟩,List.getElem?_append_left (by omega)]
    ·rw[if_neg (by omega),List.getElem?_append_right (by omega),List.getElem?_drop,hnl,Nat.add_mul]
     congr 1;rw[hnl] at hp2;omega
  rw[e1]
  refine(hoc.takeN off (by omega)).append (by rw[List.length_take,List.length_take,hq,Nat.min_eq_left (show off≤es.length by omega)];omega) ?_
  exact hcells.Nu.append hnl (hoc.drop (off+xs.length))
 have hnewlen:(es.take off++(xs++es.drop (off+xs.length))).length=es.length:=by simp only[List.length_append,List.length_take,List.length_drop];omega
 have hset:=r.lC (w':=w.setRow g (cb cs.toList (off*k) news).toArray) (es':=es.take off++(xs++es.drop (off+xs.length))) hb ho (fun b hne=>setRow_other w g b _ hne) (below_setRow r.below hown.new _)
  ⟨(cb cs.toList (off*k) news).toArray,ty',lo,hi',setRow_heap w g cs _ ty' (lo,hi') hblk,by
    rcases hfr with h|h
    ·exact .inl h
    ·exact .inr (by simpa[gn] using h),by
    rw[hnewlen];simp only[List.size_toArray,hcs'len];exact hsz,hOC.1,fun i e j x he hx=>by
    obtain⟨u,h1,h2⟩:=hOC.2 i e j x he hx
    exact⟨u,by simpa using h1,h2⟩⟩
 exact⟨_,hrun,hset⟩
end
theorem aj.xg{E:Env}{Q:Exit→St→Prop}{st:St}{ops:Array Oper}{l:List Oper}{dst:Option Tmp}{t tx ty:TypeId}{x y:Operand}{pos:String}{after:Array Edge}{e:TypeId}{k n id off len cap:Nat}{es xs:List AV}
 (hai:cV E.P t=some (e,k,n)) (hx:st.ev x= .mu id k off len cap) (hsrc:ib (st.ev y) k=some xs) (ho:st.own[id]?=some (some es)) (hfit:off+len≤es.length) (hxl:xs.length≤len) (hpos:0<len)
 (h:aj E ops l Q (St.put { st with own:=st.own.set id (some (es.take off++(xs++es.drop (off+xs.length)))) } dst (.v (goInt xs.length)))):aj E ops (⟨dst,.call ⟨.builtin .copy,#[x,y],#[t,tx]⟩,ty,pos,after,none⟩::l) Q st:=by
 intro w0 im0 cx a w h0 hG r
 refine wpList_step (fun K' hK'=>?_)
 have hw:Region.wanted ⟨dst,.call ⟨.builtin .copy,#[x,y],#[t,tx]⟩,ty,pos,after,none⟩ (yielded ops a.tmps)=true:=rfl
 rw[if_pos hw]
 have hv:=r.ev x
 rw[hx] at hv
 obtain⟨w',hrun,r2⟩:=Uz (P:=E.P) (tx:=tx) (ty:=ty) r hai hv (r.ev y) hsrc ho hfit hxl hpos
 refine eG (w':=w') (v:=goInt xs.length) ?_ (hK' _ _ (h w0 im0 _ _ _ h0 hG (r2.put dst (.base (.v _)))))
 simp[execOp,resolve,invoke,Sem.run_bind,builtin,hrun]
end Go.Abs
end
