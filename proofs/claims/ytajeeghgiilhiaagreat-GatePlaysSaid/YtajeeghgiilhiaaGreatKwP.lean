/- Texts of one chain, put together (T2, T3, T4, Q13, Q14, Q15). -/
import Derived.Test.YtajeeghgiilhiaaGreatKwO
import Derived.Test.YtajeeghgiilhiaaGreatKwN
import Derived.Test.YtajeeghgiilhiaaGreatKwM
import Derived.Test.YtajeeghgiilhiaaGreatKwI
import Derived.Test.YtajeeghgiilhiaaGreatKwJ
import Derived.Test.YtajeeghgiilhiaaGreatKwE
set_option linter.unusedVariables false
set_option linter.unusedSimpArgs false
set_option maxHeartbeats 16000000
set_option maxRecDepth 8000
section
namespace Go.Proofs.YtajeeghgiilhiaaGreat
open Go Go.Abs Go.RowKit Go.Bk
theorem zK{d:Array Po}{i j:Nat}(h:ee (aI d[i]!) (aI d[j]!)<0):aJ d[i]! d[j]! =true:=qC.2 h
theorem xA{d:Array Po}{i j:Nat}(h:¬ee (aI d[i]!) (aI d[j]!)<0):aJ d[i]! d[j]! =false:=by
 cases e:aJ d[i]! d[j]! with
 |false=>rfl
 |true=>exact absurd (qC.1 e) h
theorem Cj{d:Array Po}{i j:Nat}(h:¬ee (aI d[i]!) (aI d[j]!)<0):(!aJ d[i]! d[j]!)=true:=by rw[xA h];rfl
theorem wS{d:Array Po}{i j:Nat}(h:ee (aI d[i]!) (aI d[j]!)<0):(!aJ d[i]! d[j]!)=false:=by rw[zK h];rfl
theorem sW{q:Nat→Bool}{i j:Nat}(h:i<j)(hq:q ((i+j)/2)=true):Go.Stb.da q i j=Go.Stb.da q ((i+j)/2+1) j:=by
 rw[Go.Stb.da,if_pos h,if_pos hq]
theorem tS{q:Nat→Bool}{i j:Nat}(h:i<j)(hq:q ((i+j)/2)=false):Go.Stb.da q i j=Go.Stb.da q i ((i+j)/2):=by
 rw[Go.Stb.da,if_pos h,if_neg (by rw[hq];simp)]
theorem sa{q:Nat→Bool}{i j:Nat}(h:¬i<j):Go.Stb.da q i j=i:=by
 rw[Go.Stb.da,if_neg h]
section
variable{i k s x lo hi mi N:Nat}{d e1 e2:Array Po}
theorem Bm(h:k+1<i):Go.Stb.fZ k i d=Go.Stb.fZ (k+1) i (Go.Sort.swp d k (k+1)):=by rw[Go.Stb.fZ,if_pos h]
theorem uO(h:¬k+1<i):Go.Stb.fZ k i d=d:=by rw[Go.Stb.fZ,if_neg h]
theorem xQ(h:i<k):Go.Stb.fh i k d=Go.Stb.fh i (k-1) (Go.Sort.swp d k (k-1)):=by
 cases k with
 |zero=>omega
 |succ k=>rw[Go.Stb.fh,if_pos h];rfl
theorem zM(h:¬i<k):Go.Stb.fh i k d=d:=by
 cases k with
 |zero=>rfl
 |succ k=>rw[Go.Stb.fh,if_neg h]
theorem ye:∀(r k:Nat) (d:Array Po),i-k≤r→(Go.Stb.fZ k i d).size=d.size
 |0,k,d,h=>by rw[uO (by omega)]
 |r+1,k,d,h=>by
  rcases Nat.lt_or_ge (k+1) i with h2|h2
  ·rw[Bm h2,ye r (k+1) _ (by omega),Go.Sort.swp_size]
  ·rw[uO (by omega)]
theorem yY:∀(k:Nat) (d:Array Po),(Go.Stb.fh i k d).size=d.size
 |0,d=>rfl
 |k+1,d=>by
  rcases Nat.lt_or_ge i (k+1) with h2|h2
  ·rw[xQ h2];show(Go.Stb.fh i k _).size=_;rw[yY k,Go.Sort.swp_size]
  ·rw[zM (by omega)]
theorem rZ:∀(r i j:Nat) (d:Array Po),i+j≤r→(Go.Stb.ed mi i j d).size=d.size
 |r,i,j,d,h=>by
  rw[Go.Stb.ed]
  split
  ·rfl
  ·split
   ·exact Go.Stb.j5 _ _ _ _ _ _ rfl
   ·split
    ·cases r with
     |zero=>omega
     |succ r=>rw[rZ r _ _ _ (by omega),Go.Stb.j5 _ _ _ _ _ _ rfl]
    ·cases r with
     |zero=>omega
     |succ r=>rw[rZ r _ _ _ (by omega),Go.Stb.j5 _ _ _ _ _ _ rfl]
theorem pf:(Go.Stb.fc aJ lo mi hi d).size=d.size:=by
 unfold Go.Stb.fc;split
 ·exact rZ _ _ _ _ (Nat.le_refl _)
 ·rfl
theorem qW:∀(r lo mi hi:Nat) (d:Array Po),hi-lo≤r→(Go.Stb.cC aJ lo mi hi d).size=d.size
 |r,lo,mi,hi,d,hr=>by
  rw[Go.Stb.cC]
  split
  ·exact ye _ _ _ (Nat.le_refl _)
  ·split
   ·exact yY _ _
   ·split
    ·rename_i h2
     cases r with
     |zero=>omega
     |succ r=>
      rw[qW r _ _ _ _ (by omega)]
      split
      ·rw[qW r _ _ _ _ (by omega)];exact pf
      ·exact pf
    ·split
     ·cases r with
      |zero=>omega
      |succ r=>rw[qW r _ _ _ _ (by omega)];exact pf
     ·exact pf
theorem tX:(Go.Stb.cC aJ lo mi hi d).size=d.size:=qW _ _ _ _ _ (Nat.le_refl _)
theorem JG(hs:Go.Stb.dm aJ lo mi hi d=s)(h1:s<mi)(h2:mi<(lo+hi)/2+mi-s):Go.Stb.fc aJ lo mi hi d=Go.Stb.ed mi (mi-s) ((lo+hi)/2+mi-s-mi) d:=by
 unfold Go.Stb.fc;rw[hs,if_pos ⟨h1,h2⟩]
theorem TE(hs:Go.Stb.dm aJ lo mi hi d=s)(h:¬(s<mi∧mi<(lo+hi)/2+mi-s)):Go.Stb.fc aJ lo mi hi d=d:=by
 unfold Go.Stb.fc;rw[hs,if_neg h]
theorem TR(h:mi-lo=1):Go.Stb.cC aJ lo mi hi d=Go.Stb.fZ lo (Go.Stb.da (fun x=>aJ d[x]! d[lo]!) mi hi) d:=by
 rw[Go.Stb.cC,if_pos h]
theorem J2(h:¬mi-lo=1)(h2:hi-mi=1):Go.Stb.cC aJ lo mi hi d=Go.Stb.fh (Go.Stb.da (fun x=>!aJ d[mi]! d[x]!) lo mi) mi d:=by
 rw[Go.Stb.cC,if_neg h,if_pos h2]
theorem BD(h:¬mi-lo=1)(h2:¬hi-mi=1)(hs:Go.Stb.dm aJ lo mi hi d=s)(he1:Go.Stb.fc aJ lo mi hi d=e1)(he2:(if lo<s∧s<(lo+hi)/2 then Go.Stb.cC aJ lo s ((lo+hi)/2) e1 else e1)=e2):
 Go.Stb.cC aJ lo mi hi d=if(lo+hi)/2<(lo+hi)/2+mi-s∧(lo+hi)/2+mi-s<hi then Go.Stb.cC aJ ((lo+hi)/2) ((lo+hi)/2+mi-s) hi e2 else e2:=by
 rw[Go.Stb.cC,if_neg h,if_neg h2,hs,he1]
 simp only[dite_eq_ite]
 rw[he2]
theorem BY(h1:lo≤hi)(h2:hi≤d.size):(Go.Sort.insertionSort aJ d lo hi).size=d.size:=(Go.Sort.insertionSort_holds sZ d lo hi h1 h2).1.1
theorem KA(h:x+20≤N):Go.Stb.fP aJ N x (x+20) d=Go.Stb.fP aJ N (x+20) (x+20+20) (Go.Sort.insertionSort aJ d x (x+20)):=by rw[Go.Stb.fP,if_pos h]
theorem As(h:¬x+20≤N):Go.Stb.fP aJ N x (x+20) d=Go.Sort.insertionSort aJ d x N:=by rw[Go.Stb.fP,if_neg h]
theorem Vo(h0:0<s)(h:x+2*s≤N):Go.Stb.eK aJ N s x (x+2*s) d=Go.Stb.eK aJ N s (x+2*s) (x+2*s+2*s) (Go.Stb.cC aJ x (x+s) (x+2*s) d):=by rw[Go.Stb.eK,if_neg (by omega),if_pos h]
theorem BH(h0:0<s)(h:¬x+2*s≤N)(h2:x+s<N):Go.Stb.eK aJ N s x (x+2*s) d=Go.Stb.cC aJ x (x+s) N d:=by rw[Go.Stb.eK,if_neg (by omega),if_neg h,if_pos h2]
theorem yN(h0:0<s)(h:¬x+2*s≤N)(h2:¬x+s<N):Go.Stb.eK aJ N s x (x+2*s) d=d:=by rw[Go.Stb.eK,if_neg (by omega),if_neg h,if_neg h2]
theorem R1(h0:0<s)(h:s<N):Go.Stb.iR aJ N s d=Go.Stb.iR aJ N (s*2) (Go.Stb.eK aJ N s 0 (2*s) d):=by rw[Go.Stb.iR,dif_pos ⟨h0,h⟩]
theorem VD(h:¬s<N):Go.Stb.iR aJ N s d=d:=by rw[Go.Stb.iR,dif_neg (by omega)]
end
set_option maxRecDepth 100000 in
theorem wY(rr:Nat):∀{ops:Array Oper} {l0:List Oper} {Q:Exit→St→Prop} {tmps up:List AV} {gl:Nat→Option (List AV)} {own:List (Option (List AV))} {tk:List Nat} {dst:Option Tmp} {x0 x1 x2 x3 x4:Operand} {tys:Array TypeId} {ty:TypeId} {pos:String} {after:Array Edge} {id m N:Nat} {d:Array Po} {lo mi hi:Nat}
 (hx0:St.ev ⟨tmps,own,tk,gl,none,up⟩ x0= .mu id 5 0 N (N+m))
 (hx1:St.ev ⟨tmps,own,tk,gl,none,up⟩ x1=i64 (lo:Int))
 (hx2:St.ev ⟨tmps,own,tk,gl,none,up⟩ x2=i64 (mi:Int))
 (hx3:St.ev ⟨tmps,own,tk,gl,none,up⟩ x3=i64 (hi:Int))
 (hx4:St.ev ⟨tmps,own,tk,gl,none,up⟩ x4= .fn 104 [])
 (ho:own[id]?=some (some (aO d m)))
 (hbu:(tmps++up).all (AV.bF own.length tk.length)=true)
 (hbo:bm own own.length tk.length)
 (hl:N≤1000000)
 (hN:d.size=N)
 (h1:lo<mi)
 (h2:mi<hi)
 (h3:hi≤N)
 (hend:aj E ops l0 Q (St.put ⟨tmps,own.set id (some (aO (Go.Stb.cC aJ lo mi hi d) m)),tk,gl,none,up⟩ dst (.ax []))) (hr:hi-lo≤rr),aj E ops (⟨dst,.call ⟨.value (.func 226),#[x0,x1,x2,x3,x4],tys⟩,ty,pos,after,none⟩::l0) Q ⟨tmps,own,tk,gl,none,up⟩:=by
 induction rr with
 |zero=>intros;exfalso;omega
 |succ rr ih=>
 intro ops l0 Q tmps up gl own tk dst x0 x1 x2 x3 x4 tys ty pos after id m N d lo mi hi hx0 hx1 hx2 hx3 hx4 ho hbu hbo hl hN h1 h2 h3 hend hr
 have hid:=bE ho
 obtain⟨ow,how⟩:∃ow:List (Option (List AV)),own=ow.set id (some (aO d m)):=⟨own,(mf ho).symm⟩
 subst how
 rw[List.length_set] at hid
 have hob:∀d':Array Po,bm (ow.set id (some (aO d' m))) ow.length tk.length:=fun d'=>by
  have:=hbo.set (id:=id) (mb d' m);rwa[List.set_set,List.length_set] at this
 have hob2:∀d':Array Po,bm (ow.set id (some (aO d' m))) (ow.set id (some (aO d' m))).length tk.length:=fun d'=>by rw[List.length_set];exact hob d'
 rw[List.length_set] at hbu
 simp only[List.set_set] at hend
 refine aj.call (caps:=[]) (rs:=[]) Tryz.func226 rfl Tryz.ntmps226 rfl (by kernel_rfl) rfl rfl ?_
 show aa E _ _ ⟨([St.ev _ x0,St.ev _ x1,St.ev _ x2,St.ev _ x3,St.ev _ x4]++[])++List.replicate (220-5) (.v undef),_,tk,gl,none,tmps++up⟩
 rw[hx0,hx1,hx2,hx3,hx4]
 have hBn:∀(tm:List AV) (d':Array Po),d'=Go.Stb.cC aJ lo mi hi d→bG E.P [] ⟨tmps,ow.set id (some (aO d m)),tk,gl,none,up⟩ (fun s z=>aj E ops l0 Q (s.put dst z)) .normal ⟨tm,ow.set id (some (aO d' m)),tk,gl,none,tmps++up⟩:=fun tm d' e=>by subst e;exact⟨rfl,hend⟩
 have hBr:∀(tm:List AV) (d':Array Po),d'=Go.Stb.cC aJ lo mi hi d→bG E.P [] ⟨tmps,ow.set id (some (aO d m)),tk,gl,none,up⟩ (fun s z=>aj E ops l0 Q (s.put dst z)) .ret ⟨tm,ow.set id (some (aO d' m)),tk,gl,none,tmps++up⟩:=fun tm d' e=>by subst e;exact⟨rfl,hend⟩
 generalize bG E.P [] ⟨tmps,ow.set id (some (aO d m)),tk,gl,none,up⟩ (fun s z=>aj E ops l0 Q (s.put dst z))=Q1 at hBn hBr ⊢
 generalize tmps++up=up' at hbu hBn hBr ⊢
 clear hend ho hbo hx0 hx1 hx2 hx3 hx4
 have hset:∀x,(ow.set id x)[id]?=some x:=fun x=>List.getElem?_set_self hid
 repeat'(first
 |refine aa.ab fun K hK=>?_
 |(
  refine aa.here 0 25 4 rfl ?_
  have w0:IntKind.i64.wrap ((mi:Int)-lo)=((mi-lo:Nat):Int):=by rw[aq (by omega) (by omega)];omega
  refine aa.region ?_;simp only[go_sem,hset,List.set_set,List.length_set,w0])
 |(
  refine aa.here 4 34 7 rfl ?_
  have hh:=nr (i:=i) (j:=j) (by omega) (by omega)
  refine aa.region ?_;simp only[go_sem,hset,List.set_set,List.length_set,hh])
 |(
  refine aa.here 5 40 11 rfl ?_
  have f1:(aO d m)[(i+j)/2]?=some (bD d[(i+j)/2]!):=eQ (by omega)
  have f2:(aO d m)[lo]?=some (bD d[lo]!):=eQ (by omega)
  refine aa.bc [0,1,2,3,4,5,6,7,8,9,10] [] (by kernel_rfl) (by kernel_rfl) rfl ?_;simp only[go_sem,hset,List.set_set,List.length_set,f1,f2,Int.toNat_natCast])
 |(
  refine aa.here 8 54 2 rfl ?_
  obtain rfl:i=j:=by omega
  have gi:Go.Stb.da (fun x=>aJ d[x]! d[lo]!) mi hi=i:=by rw[←g4,sa (by omega)]
  refine aa.region ?_;simp only[go_sem,hset,List.set_set,List.length_set])
 |(
  refine aa.here 9 55 4 rfl ?_
  have w0:IntKind.i64.wrap ((i:Int)-1)=((i-1:Nat):Int):=by rw[aq (by omega) (by omega)];omega
  refine aa.region ?_;simp only[go_sem,hset,List.set_set,List.length_set,w0])
 |(
  refine aa.here 11 61 18 rfl ?_
  have w0:IntKind.i64.wrap ((k:Int)+1)=((k+1:Nat):Int):=by rw[aq (by omega) (by omega)];omega
  have g1:(aO e m)[k]?=some (bD e[k]!):=eQ (by omega)
  have g2:(aO e m)[k+1]?=some (bD e[k+1]!):=eQ (by omega)
  have g3:((aO e m).set (k) (bD e[k+1]!))[k+1]?=some (bD (e.setIfInBounds (k) e[k+1]!)[k+1]!):=by rw[oa (by omega)];exact eQ (by rw[Array.size_setIfInBounds];omega)
  have g4:((aO e m).set (k) (bD e[k+1]!)).set (k+1) (bD e[k]!)=aO (Go.Sort.swp e (k) (k+1)) m:=qu (by omega) (by omega)
  refine aa.bc [0,1,2,3,4,5,6,7,8,9,10,11,12,13,14,15,16,17] [] (by kernel_rfl) (by kernel_rfl) rfl ?_;simp only[go_sem,hset,List.set_set,List.length_set,w0,g1,g2,g3,g4,Int.toNat_natCast,hset,List.set_set])
 |(
  refine aa.here 10 59 3 rfl ?_
  have w0:IntKind.i64.wrap ((k:Int)+1)=((k+1:Nat):Int):=by rw[aq (by omega) (by omega)];omega
  refine aa.region ?_;simp only[go_sem,hset,List.set_set,List.length_set,w0])
 |(
  refine aa.here 12 77 4 rfl ?_
  have w0:IntKind.i64.wrap ((hi:Int)-mi)=((hi-mi:Nat):Int):=by rw[aq (by omega) (by omega)];omega
  refine aa.region ?_;simp only[go_sem,hset,List.set_set,List.length_set,w0])
 |(
  refine aa.here 16 86 7 rfl ?_
  have hh:=nr (i:=i) (j:=j) (by omega) (by omega)
  refine aa.region ?_;simp only[go_sem,hset,List.set_set,List.length_set,hh])
 |(
  refine aa.here 17 92 12 rfl ?_
  have f1:(aO d m)[(i+j)/2]?=some (bD d[(i+j)/2]!):=eQ (by omega)
  have f2:(aO d m)[mi]?=some (bD d[mi]!):=eQ (by omega)
  refine aa.bc [0,1,2,3,4,5,6,7,8,9,10,11] [] (by kernel_rfl) (by kernel_rfl) rfl ?_;simp only[go_sem,hset,List.set_set,List.length_set,f1,f2,Int.toNat_natCast])
 |(
  refine aa.here 20 107 2 rfl ?_
  obtain rfl:i=j:=by omega
  have gi:Go.Stb.da (fun x=>!aJ d[mi]! d[x]!) lo mi=i:=by rw[←g4,sa (by omega)]
  refine aa.region ?_;simp only[go_sem,hset,List.set_set,List.length_set])
 |(
  refine aa.here 23 113 18 rfl ?_
  have w0:IntKind.i64.wrap ((k:Int)-1)=((k-1:Nat):Int):=by rw[aq (by omega) (by omega)];omega
  have g1:(aO e m)[k]?=some (bD e[k]!):=eQ (by omega)
  have g2:(aO e m)[k-1]?=some (bD e[k-1]!):=eQ (by omega)
  have g3:((aO e m).set (k) (bD e[k-1]!))[k-1]?=some (bD (e.setIfInBounds (k) e[k-1]!)[k-1]!):=by rw[oa (by omega)];exact eQ (by rw[Array.size_setIfInBounds];omega)
  have g4:((aO e m).set (k) (bD e[k-1]!)).set (k-1) (bD e[k]!)=aO (Go.Sort.swp e (k) (k-1)) m:=qu (by omega) (by omega)
  refine aa.bc [0,1,2,3,4,5,6,7,8,9,10,11,12,13,14,15,16,17] [] (by kernel_rfl) (by kernel_rfl) rfl ?_;simp only[go_sem,hset,List.set_set,List.length_set,w0,g1,g2,g3,g4,Int.toNat_natCast,hset,List.set_set])
 |(
  refine aa.here 22 111 3 rfl ?_
  have w0:IntKind.i64.wrap ((k:Int)-1)=((k-1:Nat):Int):=by rw[aq (by omega) (by omega)];omega
  refine aa.region ?_;simp only[go_sem,hset,List.set_set,List.length_set,w0])
 |(
  refine aa.here 24 129 7 rfl ?_
  have hh:=nr (i:=lo) (j:=hi) (by omega) (by omega)
  refine aa.region ?_;simp only[go_sem,hset,List.set_set,List.length_set,hh])
 |(
  refine aa.here 25 135 4 rfl ?_
  have w0:IntKind.i64.wrap ((((lo+hi)/2:Nat):Int)+mi)=(((lo+hi)/2+mi:Nat):Int):=by rw[aq (by omega) (by omega)];omega
  refine aa.region ?_;simp only[go_sem,hset,List.set_set,List.length_set,w0])
 |(
  refine aa.here 28 141 4 rfl ?_
  have w0:IntKind.i64.wrap ((((lo+hi)/2+mi:Nat):Int)-hi)=(((lo+hi)/2+mi-hi:Nat):Int):=by rw[aq (by omega) (by omega)];omega
  refine aa.region ?_;simp only[go_sem,hset,List.set_set,List.length_set,w0])
 |(
  refine aa.here 32 147 3 rfl ?_
  have w0:IntKind.i64.wrap ((((lo+hi)/2+mi:Nat):Int)-1)=(((lo+hi)/2+mi-1:Nat):Int):=by rw[aq (by omega) (by omega)];omega
  refine aa.region ?_;simp only[go_sem,hset,List.set_set,List.length_set,w0])
 |(
  refine aa.here 34 152 7 rfl ?_
  have hh:=nr (i:=s) (j:=r) (by omega) (by omega)
  refine aa.region ?_;simp only[go_sem,hset,List.set_set,List.length_set,hh])
 |(
  refine aa.here 35 158 14 rfl ?_
  have w0:IntKind.i64.wrap ((((lo+hi)/2+mi-1:Nat):Int)-(((s+r)/2:Nat):Int))=(((lo+hi)/2+mi-1-(s+r)/2:Nat):Int):=by rw[aq (by omega) (by omega)];omega
  have f1:(aO d m)[(lo+hi)/2+mi-1-(s+r)/2]?=some (bD d[(lo+hi)/2+mi-1-(s+r)/2]!):=eQ (by omega)
  have f2:(aO d m)[(s+r)/2]?=some (bD d[(s+r)/2]!):=eQ (by omega)
  refine aa.bc [0,1,2,3,4,5,6,7,8,9,10,11,12,13] [] (by kernel_rfl) (by kernel_rfl) rfl ?_;simp only[go_sem,hset,List.set_set,List.length_set,w0,f1,f2,Int.toNat_natCast])
 |(
  refine aa.here 38 175 4 rfl ?_
  obtain rfl:s=r:=by omega
  have gs:Go.Stb.dm aJ lo mi hi d=s:=by rw[←g6,sa (by omega)]
  have w0:IntKind.i64.wrap ((((lo+hi)/2+mi:Nat):Int)-s)=(((lo+hi)/2+mi-s:Nat):Int):=by rw[aq (by omega) (by omega)];omega
  refine aa.region ?_;simp only[go_sem,hset,List.set_set,List.length_set,w0])
 |(
  refine aa.here 41 192 8 rfl ?_
  first
  |rw[show aO (Go.Stb.ed mi (mi-s) ((lo+hi)/2+mi-s-mi) d) m=aO (Go.Stb.fc aJ lo mi hi d) m by rw[JG gs (by omega) (by omega)]]
  |rw[show aO d m=aO (Go.Stb.fc aJ lo mi hi d) m by rw[TE gs (by omega)]]
  have z1:(Go.Stb.fc aJ lo mi hi d).size=N:=by rw[pf];exact hN
  generalize he1:Go.Stb.fc aJ lo mi hi d=e1 at z1 ⊢
  refine aa.region ?_;simp only[go_sem,hset,List.set_set,List.length_set])
 |(
  refine aa.here 43 206 8 rfl ?_
  first
  |rw[show aO (Go.Stb.cC aJ lo s ((lo+hi)/2) e1) m=aO (if lo<s∧s<(lo+hi)/2 then Go.Stb.cC aJ lo s ((lo+hi)/2) e1 else e1) m by rw[if_pos (by omega)]]
  |rw[show aO e1 m=aO (if lo<s∧s<(lo+hi)/2 then Go.Stb.cC aJ lo s ((lo+hi)/2) e1 else e1) m by rw[if_neg (by omega)]]
  have z2:(if lo<s∧s<(lo+hi)/2 then Go.Stb.cC aJ lo s ((lo+hi)/2) e1 else e1).size=N:=by split<;>first|(rw[tX];exact z1)|exact z1
  generalize he2:(if lo<s∧s<(lo+hi)/2 then Go.Stb.cC aJ lo s ((lo+hi)/2) e1 else e1)=e2 at z2 ⊢
  refine aa.region ?_;simp only[go_sem,hset,List.set_set,List.length_set])
 |(
  refine aa.here 40 186 6 rfl ?_
  refine aa.bq ?_
  refine aj.at 6 5 rfl ?_
  simp only[go_sem,hset,List.set_set,List.length_set]
  refine DJ (id:=id) (m:=m) (N:=N) (d:=d) (lo:=s) (mi:=mi) (hi:=(lo+hi)/2+mi-s) (by rfl) (by rfl) (by rfl) (by rfl) (by rfl) (hset _) (by simp only[List.length_set,List.all_append,hbu,List.all_cons,List.all_nil,List.cons_append,List.nil_append,AV.bF,AV.dY,AV.cU,decide_eq_true hid,Bool.and_true,Bool.true_and,List.all_replicate]) (hob2 _) hl (by(assumption)) (by omega) (by omega) (by omega) ?_
  simp only[go_sem,hset,List.set_set,List.length_set]
  refine aj.of ?_
  (try simp only[go_sem,hset,List.set_set,List.length_set]))
 |(
  refine aa.here 42 200 6 rfl ?_
  refine aa.bq ?_
  refine aj.at 6 5 rfl ?_
  simp only[go_sem,hset,List.set_set,List.length_set]
  refine ih (id:=id) (m:=m) (N:=N) (d:=e1) (lo:=lo) (mi:=s) (hi:=(lo+hi)/2) (by rfl) (by rfl) (by rfl) (by rfl) (by rfl) (hset _) (by simp only[List.length_set,List.all_append,hbu,List.all_cons,List.all_nil,List.cons_append,List.nil_append,AV.bF,AV.dY,AV.cU,decide_eq_true hid,Bool.and_true,Bool.true_and,List.all_replicate]) (hob2 _) hl (by(assumption)) (by omega) (by omega) (by omega) ?_ (by omega)
  simp only[go_sem,hset,List.set_set,List.length_set]
  refine aj.of ?_
  (try simp only[go_sem,hset,List.set_set,List.length_set]))
 |(
  refine aa.here 44 214 6 rfl ?_
  refine aa.bq ?_
  refine aj.at 6 5 rfl ?_
  simp only[go_sem,hset,List.set_set,List.length_set]
  refine ih (id:=id) (m:=m) (N:=N) (d:=e2) (lo:=(lo+hi)/2) (mi:=(lo+hi)/2+mi-s) (hi:=hi) (by rfl) (by rfl) (by rfl) (by rfl) (by rfl) (hset _) (by simp only[List.length_set,List.all_append,hbu,List.all_cons,List.all_nil,List.cons_append,List.nil_append,AV.bF,AV.dY,AV.cU,decide_eq_true hid,Bool.and_true,Bool.true_and,List.all_replicate]) (hob2 _) hl (by(assumption)) (by omega) (by omega) (by omega) ?_ (by omega)
  simp only[go_sem,hset,List.set_set,List.length_set]
  refine aj.of ?_
  (try simp only[go_sem,hset,List.set_set,List.length_set]))
 |(refine aa.region ?_;simp only[go_sem,hset,List.set_set,List.length_set])
 |(refine hK _ ?_;clear hK K)
 |refine aa.block ?_
 |refine aa.cond rfl (fun c=>?_) (fun c=>?_)<;>first|exact Bool.noConfusion c|(try simp only[dD] at c)
 |refine aa.skip ?_
 |(refine aa.exit ?_;simp only[go_sem,hset,List.set_set,List.length_set])
 |(refine ah.one (rL _ _) (by kernel_rfl) rfl ?_;simp only[go_sem,hset,List.set_set,List.length_set])
 |(refine aH.split (fun h=>?_) (fun h=>?_)<;>simp only[h,go_sem,hset,List.set_set,List.length_set]<;>(try simp only[dD] at h))
 |((with_reducible refine And.intro ?_ ?_);(focus(omega));(try simp only[hb,go_sem,hset,List.set_set,List.length_set]))
 |(
  refine aa.here 3 31 3 rfl ?_
  refine aa.cr (ι:=Nat×Nat) [12,31,32,33,34,35,36,37,38,39,40,41,42,43,44,45,46,47,48,49,50,51,52,53] (fun⟨i,j⟩=>[(10,i64 i),(11,i64 j)]) (fun⟨i,j⟩=>mi≤i∧i≤j∧j≤hi∧Go.Stb.da (fun x=>aJ d[x]! d[lo]!) i j=Go.Stb.da (fun x=>aJ d[x]! d[lo]!) mi hi) (fun⟨i,j⟩=>j-i) ((mi,hi)) ?_ ?_ ?_
  ·(try simp only[go_sem]);(try simp only[List.set_set,List.length_set]);(repeat'(first|assumption|exact bm.wk (hob _)|exact cY|exact .inr (decide_eq_true hid)|refine And.intro ?_ ?_));done
  ·exact⟨by omega,by omega,by omega,rfl⟩
  rintro⟨i,j⟩ ⟨g1,g2,g3,g4⟩
  simp only[go_sem,hset,List.set_set,List.length_set])
 |(
  refine aa.here 9 55 4 rfl ?_
  refine aa.b6 (ι:=Nat×Array Po) [55,56,57,58,59,60,61,62,63,64,65,66,67,68,69,70,71,72,73,74,75,76] (fun⟨k,e⟩=>[(13,i64 k)]) (fun⟨k,e⟩=>ow.set id (some (aO e m))) (fun⟨k,e⟩=>tk) (fun⟨k,e⟩=>lo≤k∧e.size=N∧Go.Stb.fZ k i e=Go.Stb.fZ lo i d) (fun⟨k,e⟩=>i-k) ((lo,d)) ?_ ?_ ?_
  ·(try simp only[go_sem]);(try simp only[List.set_set,List.length_set]);(repeat'(first|assumption|exact bm.wk (hob _)|exact cY|exact .inr (decide_eq_true hid)|refine And.intro ?_ ?_));done
  ·exact⟨by omega,hN,rfl⟩
  rintro⟨k,e⟩ ⟨k1,k2,k3⟩
  simp only[go_sem,hset,List.set_set,List.length_set])
 |(
  refine aa.here 15 83 3 rfl ?_
  refine aa.cr (ι:=Nat×Nat) [16,83,84,85,86,87,88,89,90,91,92,93,94,95,96,97,98,99,100,101,102,103,104,105,106] (fun⟨i,j⟩=>[(14,i64 i),(15,i64 j)]) (fun⟨i,j⟩=>lo≤i∧i≤j∧j≤mi∧Go.Stb.da (fun x=>!aJ d[mi]! d[x]!) i j=Go.Stb.da (fun x=>!aJ d[mi]! d[x]!) lo mi) (fun⟨i,j⟩=>j-i) ((lo,mi)) ?_ ?_ ?_
  ·(try simp only[go_sem]);(try simp only[List.set_set,List.length_set]);(repeat'(first|assumption|exact bm.wk (hob _)|exact cY|exact .inr (decide_eq_true hid)|refine And.intro ?_ ?_));done
  ·exact⟨by omega,by omega,by omega,rfl⟩
  rintro⟨i,j⟩ ⟨g1,g2,g3,g4⟩
  simp only[go_sem,hset,List.set_set,List.length_set])
 |(
  refine aa.here 21 108 3 rfl ?_
  refine aa.b6 (ι:=Nat×Array Po) [108,109,110,111,112,113,114,115,116,117,118,119,120,121,122,123,124,125,126,127,128] (fun⟨k,e⟩=>[(17,i64 k)]) (fun⟨k,e⟩=>ow.set id (some (aO e m))) (fun⟨k,e⟩=>tk) (fun⟨k,e⟩=>k≤mi∧e.size=N∧Go.Stb.fh i k e=Go.Stb.fh i mi d) (fun⟨k,e⟩=>k) ((mi,d)) ?_ ?_ ?_
  ·(try simp only[go_sem]);(try simp only[List.set_set,List.length_set]);(repeat'(first|assumption|exact bm.wk (hob _)|exact cY|exact .inr (decide_eq_true hid)|refine And.intro ?_ ?_));done
  ·exact⟨by omega,hN,rfl⟩
  rintro⟨k,e⟩ ⟨k1,k2,k3⟩
  simp only[go_sem,hset,List.set_set,List.length_set])
 |(
  refine aa.here 33 149 3 rfl ?_
  refine aa.cr (ι:=Nat×Nat) [23,149,150,151,152,153,154,155,156,157,158,159,160,161,162,163,164,165,166,167,168,169,170,171,172,173,174] (fun⟨s,r⟩=>[(20,i64 s),(21,i64 r)]) (fun⟨s,r⟩=>lo≤s∧(lo+hi)/2+mi≤hi+s∧s≤r∧r≤(lo+hi)/2∧r≤mi∧Go.Stb.da (fun x=>!aJ d[(lo+hi)/2+mi-1-x]! d[x]!) s r=Go.Stb.dm aJ lo mi hi d) (fun⟨s,r⟩=>r-s) ((if(lo+hi)/2<mi then(lo+hi)/2+mi-hi else lo,if(lo+hi)/2<mi then(lo+hi)/2 else mi)) ?_ ?_ ?_
  ·(try simp only[go_sem]);(first|rw[if_pos (by omega),if_pos (by omega)]|rw[if_neg (by omega),if_neg (by omega)]);(try simp only[List.set_set,List.length_set]);(repeat'(first|assumption|exact bm.wk (hob _)|exact cY|exact .inr (decide_eq_true hid)|refine And.intro ?_ ?_|(simp;done)));done
  ·first|(rw[if_pos (by omega),if_pos (by omega)];exact⟨by omega,by omega,by omega,by omega,by omega,by unfold Go.Stb.dm;rw[if_pos (by omega),if_pos (by omega)]⟩)|(rw[if_neg (by omega),if_neg (by omega)];exact⟨by omega,by omega,by omega,by omega,by omega,by unfold Go.Stb.dm;rw[if_neg (by omega),if_neg (by omega)]⟩)
  rintro⟨s,r⟩ ⟨g1,g2,g3,g4,g5,g6⟩
  simp only[go_sem,hset,List.set_set,List.length_set])
 |(
  first
  |(refine⟨((i+j)/2+1,j),?_,⟨by show mi≤(i+j)/2+1;omega,by show(i+j)/2+1≤j;omega,g3,by rw[←g4];exact(sW (by omega) (zK (by assumption))).symm⟩,by show j-((i+j)/2+1)<j-i;omega⟩
    (try simp only[go_sem]);(try rw[aq (by omega) (by omega)]);(try simp only[List.set_set,List.length_set]);(repeat'(first|assumption|exact bm.wk (hob _)|exact cY|exact .inr (decide_eq_true hid)|refine And.intro ?_ ?_|exact .inr rfl));done)
  |(refine⟨(i,(i+j)/2),?_,⟨g1,by show i≤(i+j)/2;omega,by show(i+j)/2≤hi;omega,by rw[←g4];exact(tS (by omega) (xA (by assumption))).symm⟩,by show(i+j)/2-i<j-i;omega⟩
    (try simp only[go_sem]);(try simp only[List.set_set,List.length_set]);(repeat'(first|assumption|exact bm.wk (hob _)|exact cY|exact .inr (decide_eq_true hid)|refine And.intro ?_ ?_));done))
 |(
  refine⟨(k+1,Go.Sort.swp e k (k+1)),?_,?_,?_⟩
  ·(try simp only[go_sem]);(try rw[aq (by omega) (by omega)]);(try simp only[List.set_set,List.length_set]);(repeat'(first|assumption|exact bm.wk (hob _)|exact cY|exact .inr (decide_eq_true hid)|refine And.intro ?_ ?_));done
  ·(try dsimp only);exact⟨by omega,by rw[Go.Sort.swp_size];exact k2,(Bm (by omega)).symm.trans k3⟩
  ·(try simp only[]);omega)
 |(
  first
  |(refine⟨((i+j)/2+1,j),?_,⟨by show lo≤(i+j)/2+1;omega,by show(i+j)/2+1≤j;omega,g3,by rw[←g4];exact(sW (by omega) (Cj (by assumption))).symm⟩,by show j-((i+j)/2+1)<j-i;omega⟩
    (try simp only[go_sem]);(try rw[aq (by omega) (by omega)]);(try simp only[List.set_set,List.length_set]);(repeat'(first|assumption|exact bm.wk (hob _)|exact cY|exact .inr (decide_eq_true hid)|refine And.intro ?_ ?_|exact .inr rfl));done)
  |(refine⟨(i,(i+j)/2),?_,⟨g1,by show i≤(i+j)/2;omega,by show(i+j)/2≤mi;omega,by rw[←g4];exact(tS (by omega) (wS (by assumption))).symm⟩,by show(i+j)/2-i<j-i;omega⟩
    (try simp only[go_sem]);(try simp only[List.set_set,List.length_set]);(repeat'(first|assumption|exact bm.wk (hob _)|exact cY|exact .inr (decide_eq_true hid)|refine And.intro ?_ ?_));done))
 |(
  refine⟨(k-1,Go.Sort.swp e k (k-1)),?_,?_,?_⟩
  ·(try simp only[go_sem]);(try rw[aq (by omega) (by omega)]);(try simp only[List.set_set,List.length_set]);(repeat'(first|assumption|exact bm.wk (hob _)|exact cY|exact .inr (decide_eq_true hid)|refine And.intro ?_ ?_));done
  ·(try dsimp only);exact⟨by omega,by rw[Go.Sort.swp_size];exact k2,(xQ (by omega)).symm.trans k3⟩
  ·(try simp only[]);omega)
 |(
  first
  |(refine⟨((s+r)/2+1,r),?_,⟨by show lo≤(s+r)/2+1;omega,by show(lo+hi)/2+mi≤hi+((s+r)/2+1);omega,by show(s+r)/2+1≤r;omega,g4,g5,by rw[←g6];exact(sW (by omega) (Cj (by assumption))).symm⟩,by show r-((s+r)/2+1)<r-s;omega⟩
    (try simp only[go_sem]);(try rw[aq (by omega) (by omega)]);(try simp only[List.set_set,List.length_set]);(repeat'(first|assumption|exact bm.wk (hob _)|exact cY|exact .inr (decide_eq_true hid)|refine And.intro ?_ ?_|exact .inr rfl));done)
  |(refine⟨(s,(s+r)/2),?_,⟨g1,g2,by show s≤(s+r)/2;omega,by show(s+r)/2≤(lo+hi)/2;omega,by show(s+r)/2≤mi;omega,by rw[←g6];exact(tS (by omega) (wS (by assumption))).symm⟩,by show(s+r)/2-s<r-s;omega⟩
    (try simp only[go_sem]);(try simp only[List.set_set,List.length_set]);(repeat'(first|assumption|exact bm.wk (hob _)|exact cY|exact .inr (decide_eq_true hid)|refine And.intro ?_ ?_));done))
 |(
  refine aa.ret ?_
  (try simp only[fU,fJ])
  (try simp only[List.set_set])
  first
  |exact hBr _ _ (by rw[TR (by omega),gi,←k3,uO (by omega)])
  |exact hBr _ _ (by rw[J2 (by omega) (by omega),gi,←k3,zM (by omega)]))
 |(exfalso;omega)
 |(refine hBn _ _ ?_;rw[BD (by omega) (by omega) gs he1 he2];rw[if_pos (by omega)];done)
 |(refine hBn _ _ ?_;rw[BD (by omega) (by omega) gs he1 he2];rw[if_neg (by omega)];done)
 |refine aa.fin (by assumption) ?_)
set_option maxRecDepth 100000 in
theorem MF{ops:Array Oper}{l0:List Oper}{Q:Exit→St→Prop}{tmps up:List AV}{gl:Nat→Option (List AV)}{own:List (Option (List AV))}{tk:List Nat}{dst:Option Tmp}{x0 x1 x2:Operand}{tys:Array TypeId}{ty:TypeId}{pos:String}{after:Array Edge}{id m N:Nat}{d:Array Po}
 (hx0:St.ev ⟨tmps,own,tk,gl,none,up⟩ x0= .mu id 5 0 N (N+m))
 (hx1:St.ev ⟨tmps,own,tk,gl,none,up⟩ x1=i64 (N:Int))
 (hx2:St.ev ⟨tmps,own,tk,gl,none,up⟩ x2= .fn 104 [])
 (ho:own[id]?=some (some (aO d m)))
 (hbu:(tmps++up).all (AV.bF own.length tk.length)=true)
 (hbo:bm own own.length tk.length)
 (hl:N≤1000000)
 (hN:d.size=N)
 (hend:aj E ops l0 Q (St.put ⟨tmps,own.set id (some (aO (Go.Stb.iE aJ d) m)),tk,gl,none,up⟩ dst (.ax []))):aj E ops (⟨dst,.call ⟨.value (.func 185),#[x0,x1,x2],tys⟩,ty,pos,after,none⟩::l0) Q ⟨tmps,own,tk,gl,none,up⟩:=by
 have hid:=bE ho
 obtain⟨ow,how⟩:∃ow:List (Option (List AV)),own=ow.set id (some (aO d m)):=⟨own,(mf ho).symm⟩
 subst how
 rw[List.length_set] at hid
 have hob:∀d':Array Po,bm (ow.set id (some (aO d' m))) ow.length tk.length:=fun d'=>by
  have:=hbo.set (id:=id) (mb d' m);rwa[List.set_set,List.length_set] at this
 have hob2:∀d':Array Po,bm (ow.set id (some (aO d' m))) (ow.set id (some (aO d' m))).length tk.length:=fun d'=>by rw[List.length_set];exact hob d'
 rw[List.length_set] at hbu
 simp only[List.set_set] at hend
 refine aj.call (caps:=[]) (rs:=[]) Tryz.func185 rfl Tryz.ntmps185 rfl (by kernel_rfl) rfl rfl ?_
 show aa E _ _ ⟨([St.ev _ x0,St.ev _ x1,St.ev _ x2]++[])++List.replicate (63-3) (.v undef),_,tk,gl,none,tmps++up⟩
 rw[hx0,hx1,hx2]
 have hBn:∀(tm:List AV) (d':Array Po),d'=Go.Stb.iE aJ d→bG E.P [] ⟨tmps,ow.set id (some (aO d m)),tk,gl,none,up⟩ (fun s z=>aj E ops l0 Q (s.put dst z)) .normal ⟨tm,ow.set id (some (aO d' m)),tk,gl,none,tmps++up⟩:=fun tm d' e=>by subst e;exact⟨rfl,hend⟩
 have hBr:∀(tm:List AV) (d':Array Po),d'=Go.Stb.iE aJ d→bG E.P [] ⟨tmps,ow.set id (some (aO d m)),tk,gl,none,up⟩ (fun s z=>aj E ops l0 Q (s.put dst z)) .ret ⟨tm,ow.set id (some (aO d' m)),tk,gl,none,tmps++up⟩:=fun tm d' e=>by subst e;exact⟨rfl,hend⟩
 generalize bG E.P [] ⟨tmps,ow.set id (some (aO d m)),tk,gl,none,up⟩ (fun s z=>aj E ops l0 Q (s.put dst z))=Q1 at hBn hBr ⊢
 generalize tmps++up=up' at hbu hBn hBr ⊢
 clear hend ho hbo hx0 hx1 hx2
 have hset:∀x,(ow.set id x)[id]?=some x:=fun x=>List.getElem?_set_self hid
 repeat'(first
 |refine aa.ab fun K hK=>?_
 |(
  refine aa.here 5 20 4 rfl ?_
  have w0:IntKind.i64.wrap (((x+20:Nat):Int)+20)=((x+20+20:Nat):Int):=by rw[aq (by omega) (by omega)];omega
  refine aa.region ?_;simp only[go_sem,hset,List.set_set,List.length_set,w0])
 |(
  refine aa.here 8 31 4 rfl ?_
  have w0:IntKind.i64.wrap ((2:Int)*s)=((2*s:Nat):Int):=by rw[aq (by omega) (by omega)];omega
  refine aa.region ?_;simp only[go_sem,hset,List.set_set,List.length_set,w0])
 |(
  refine aa.here 12 45 5 rfl ?_
  have w0:IntKind.i64.wrap ((2:Int)*s)=((2*s:Nat):Int):=by rw[aq (by omega) (by omega)];omega
  have w1:IntKind.i64.wrap (((x+2*s:Nat):Int)+((2*s:Nat):Int))=((x+2*s+2*s:Nat):Int):=by rw[aq (by omega) (by omega)];omega
  refine aa.region ?_;simp only[go_sem,hset,List.set_set,List.length_set,w0,w1])
 |(
  refine aa.here 13 49 4 rfl ?_
  have w0:IntKind.i64.wrap ((x:Int)+s)=((x+s:Nat):Int):=by rw[aq (by omega) (by omega)];omega
  refine aa.region ?_;simp only[go_sem,hset,List.set_set,List.length_set,w0])
 |(
  refine aa.here 16 61 3 rfl ?_
  first
  |rw[show aO (Go.Stb.cC aJ x (x+s) N e2) m=aO (Go.Stb.eK aJ N s 0 (2*s) e) m by rw[←k3,BH (by omega) (by omega) (by omega)]]
  |rw[show aO e2 m=aO (Go.Stb.eK aJ N s 0 (2*s) e) m by rw[←k3,yN (by omega) (by omega) (by omega)]]
  have z3:(Go.Stb.eK aJ N s 0 (2*s) e).size=N:=by
   rw[←k3]
   rcases Nat.lt_or_ge (x+s) N with q|q
   ·rw[BH (by omega) (by omega) (by omega),tX];exact k2
   ·rw[yN (by omega) (by omega) (by omega)];exact k2
  have w0:IntKind.i64.wrap ((s:Int)*2)=((s*2:Nat):Int):=by rw[aq (by omega) (by omega)];omega
  refine aa.region ?_;simp only[go_sem,hset,List.set_set,List.length_set,w0])
 |(
  refine aa.here 3 14 5 rfl ?_
  refine aa.bq ?_
  refine aj.at 5 4 rfl ?_
  simp only[go_sem,hset,List.set_set,List.length_set]
  (repeat(refine⟨⟨_,rfl⟩,?_⟩))
  refine wT (id:=id) (m:=m) (N:=N) (d:=e) (lo:=x) (hi:=x+20) (by rfl) (by rfl) (by rfl) (by rfl) (hset _) (by simp only[List.length_set,List.all_append,hbu,List.all_cons,List.all_nil,List.cons_append,List.nil_append,AV.bF,AV.dY,AV.cU,decide_eq_true hid,Bool.and_true,Bool.true_and,List.all_replicate]) (hob2 _) hl (by(assumption)) (by omega) (by omega) ?_
  simp only[go_sem,hset,List.set_set,List.length_set]
  refine aj.of ?_
  (try simp only[go_sem,hset,List.set_set,List.length_set]))
 |(
  refine aa.here 6 23 5 rfl ?_
  refine aa.bq ?_
  refine aj.at 5 4 rfl ?_
  simp only[go_sem,hset,List.set_set,List.length_set]
  (repeat(refine⟨⟨_,rfl⟩,?_⟩))
  refine wT (id:=id) (m:=m) (N:=N) (d:=e) (lo:=x) (hi:=N) (by rfl) (by rfl) (by rfl) (by rfl) (hset _) (by simp only[List.length_set,List.all_append,hbu,List.all_cons,List.all_nil,List.cons_append,List.nil_append,AV.bF,AV.dY,AV.cU,decide_eq_true hid,Bool.and_true,Bool.true_and,List.all_replicate]) (hob2 _) hl (by(assumption)) (by omega) (by omega) ?_
  simp only[go_sem,hset,List.set_set,List.length_set]
  refine aj.of ?_
  (try simp only[go_sem,hset,List.set_set,List.length_set])
  rw[show Go.Sort.insertionSort aJ e x N=Go.Stb.fP aJ N 0 20 d by rw[←g3,As (by omega)]]
  have z1:(Go.Stb.fP aJ N 0 20 d).size=N:=by rw[←g3,As (by omega),BY (by omega) (by omega)];exact g2
  generalize he1:Go.Stb.fP aJ N 0 20 d=e1 at z1 ⊢)
 |(
  refine aa.here 10 36 8 rfl ?_
  have w0:IntKind.i64.wrap ((x:Int)+s)=((x+s:Nat):Int):=by rw[aq (by omega) (by omega)];omega
  refine aa.bq ?_
  refine aj.at 8 7 rfl ?_
  simp only[go_sem,hset,List.set_set,List.length_set,w0]
  (repeat(refine⟨⟨_,rfl⟩,?_⟩))
  refine wY _ (id:=id) (m:=m) (N:=N) (d:=e2) (lo:=x) (mi:=x+s) (hi:=x+2*s) (by rfl) (by rfl) (by rfl) (by rfl) (by rfl) (hset _) (by simp only[List.length_set,List.all_append,hbu,List.all_cons,List.all_nil,List.cons_append,List.nil_append,AV.bF,AV.dY,AV.cU,decide_eq_true hid,Bool.and_true,Bool.true_and,List.all_replicate]) (hob2 _) hl (by(assumption)) (by omega) (by omega) (by omega) ?_ (Nat.le_refl _)
  simp only[go_sem,hset,List.set_set,List.length_set,w0]
  refine aj.of ?_
  (try simp only[go_sem,hset,List.set_set,List.length_set,w0]))
 |(
  refine aa.here 15 55 6 rfl ?_
  refine aa.bq ?_
  refine aj.at 6 5 rfl ?_
  simp only[go_sem,hset,List.set_set,List.length_set]
  (repeat(refine⟨⟨_,rfl⟩,?_⟩))
  refine wY _ (id:=id) (m:=m) (N:=N) (d:=e2) (lo:=x) (mi:=x+s) (hi:=N) (by rfl) (by rfl) (by rfl) (by rfl) (by rfl) (hset _) (by simp only[List.length_set,List.all_append,hbu,List.all_cons,List.all_nil,List.cons_append,List.nil_append,AV.bF,AV.dY,AV.cU,decide_eq_true hid,Bool.and_true,Bool.true_and,List.all_replicate]) (hob2 _) hl (by(assumption)) (by omega) (by omega) (by omega) ?_ (Nat.le_refl _)
  simp only[go_sem,hset,List.set_set,List.length_set]
  refine aj.of ?_
  (try simp only[go_sem,hset,List.set_set,List.length_set]))
 |(refine aa.region ?_;simp only[go_sem,hset,List.set_set,List.length_set])
 |(refine hK _ ?_;clear hK K)
 |refine aa.block ?_
 |refine aa.cond rfl (fun c=>?_) (fun c=>?_)<;>(try simp only[dD] at c)
 |refine aa.skip ?_
 |(refine aa.exit ?_;simp only[go_sem,hset,List.set_set,List.length_set])
 |(
  refine aa.here 2 11 3 rfl ?_
  refine aa.b6 (ι:=Nat×Array Po) [11,12,13,14,15,16,17,18,19,20,21,22] (fun⟨x,e⟩=>[(7,i64 x),(8,i64 ((x+20:Nat):Int))]) (fun⟨x,e⟩=>ow.set id (some (aO e m))) (fun⟨x,e⟩=>tk) (fun⟨x,e⟩=>x≤N∧e.size=N∧Go.Stb.fP aJ N x (x+20) e=Go.Stb.fP aJ N 0 20 d) (fun⟨x,e⟩=>N-x) ((0,d)) ?_ ?_ ?_
  ·(try simp only[go_sem]);(try simp only[List.set_set,List.length_set]);(repeat'(first|assumption|exact bm.wk (hob _)|exact cY|exact .inr (decide_eq_true hid)|refine And.intro ?_ ?_));done
  ·exact⟨by omega,hN,rfl⟩
  rintro⟨x,e⟩ ⟨g1,g2,g3⟩
  simp only[go_sem,hset,List.set_set,List.length_set])
 |(
  refine aa.here 7 28 3 rfl ?_
  refine aa.b6 (ι:=Nat×Array Po) [7,8,9,28,29,30,31,32,33,34,35,36,37,38,39,40,41,42,43,44,45,46,47,48,49,50,51,52,53,54,55,56,57,58,59,60,61,62] (fun⟨s,e⟩=>[(6,i64 s)]) (fun⟨s,e⟩=>ow.set id (some (aO e m))) (fun⟨s,e⟩=>tk) (fun⟨s,e⟩=>0<s∧s≤2*N+20∧e.size=N∧Go.Stb.iR aJ N s e=Go.Stb.iR aJ N 20 e1) (fun⟨s,e⟩=>N-s) ((20,e1)) ?_ ?_ ?_
  ·(try simp only[go_sem]);(try simp only[List.set_set,List.length_set]);(repeat'(first|assumption|exact bm.wk (hob _)|exact cY|exact .inr (decide_eq_true hid)|refine And.intro ?_ ?_));done
  ·exact⟨by omega,by omega,z1,rfl⟩
  rintro⟨s,e⟩ ⟨j1,j2,j3,j4⟩
  simp only[go_sem,hset,List.set_set,List.length_set])
 |(
  refine aa.here 9 33 3 rfl ?_
  refine aa.b6 (ι:=Nat×Array Po) [33,34,35,36,37,38,39,40,41,42,43,44,45,46,47,48] (fun⟨x,e2⟩=>[(7,i64 x),(8,i64 ((x+2*s:Nat):Int))]) (fun⟨x,e2⟩=>ow.set id (some (aO e2 m))) (fun⟨x,e2⟩=>tk) (fun⟨x,e2⟩=>x≤N∧e2.size=N∧Go.Stb.eK aJ N s x (x+2*s) e2=Go.Stb.eK aJ N s 0 (2*s) e) (fun⟨x,e2⟩=>N-x) ((0,e)) ?_ ?_ ?_
  ·(try simp only[go_sem]);(try rw[Nat.zero_add]);(try simp only[List.set_set,List.length_set]);(repeat'(first|assumption|exact bm.wk (hob _)|exact cY|exact .inr (decide_eq_true hid)|refine And.intro ?_ ?_));done
  ·exact⟨by omega,j3,by rw[Nat.zero_add]⟩
  rintro⟨x,e2⟩ ⟨k1,k2,k3⟩
  simp only[go_sem,hset,List.set_set,List.length_set])
 |(
  refine⟨(x+20,Go.Sort.insertionSort aJ e x (x+20)),?_,?_,?_⟩
  ·(try simp only[go_sem]);(try rw[aq (by omega) (by omega)]);(try simp only[List.set_set,List.length_set]);(repeat'(first|assumption|exact bm.wk (hob _)|exact cY|exact .inr (decide_eq_true hid)|refine And.intro ?_ ?_));done
  ·(try dsimp only);exact⟨by omega,by rw[BY (by omega) (by omega)];exact g2,(KA (by omega)).symm.trans g3⟩
  ·(try simp only[]);omega)
 |(
  refine⟨(s*2,Go.Stb.eK aJ N s 0 (2*s) e),?_,?_,?_⟩
  ·(try simp only[go_sem]);(try rw[aq (by omega) (by omega)]);(try simp only[List.set_set,List.length_set]);(repeat'(first|assumption|exact bm.wk (hob _)|exact cY|exact .inr (decide_eq_true hid)|refine And.intro ?_ ?_));done
  ·(try dsimp only);exact⟨by omega,by omega,z3,(R1 (by omega) (by omega)).symm.trans j4⟩
  ·(try simp only[]);omega)
 |(
  refine⟨(x+2*s,Go.Stb.cC aJ x (x+s) (x+2*s) e2),?_,?_,?_⟩
  ·(try simp only[go_sem]);(try rw[aq (by omega) (by omega)]);(try simp only[List.set_set,List.length_set]);(repeat'(first|assumption|exact bm.wk (hob _)|exact cY|exact .inr (decide_eq_true hid)|refine And.intro ?_ ?_));done
  ·(try dsimp only);exact⟨by omega,by rw[tX];exact k2,(Vo (by omega) (by omega)).symm.trans k3⟩
  ·(try simp only[]);omega)
 |(refine hBn _ _ ?_;unfold Go.Stb.iE;rw[hN,he1,←j4,VD (by omega)];done)
 |refine aa.fin (by assumption) ?_)
set_option maxRecDepth 100000 in
theorem U4{ops:Array Oper}{l0:List Oper}{Q:Exit→St→Prop}{tmps up:List AV}{gl:Nat→Option (List AV)}{own:List (Option (List AV))}{tk:List Nat}{dst:Option Tmp}{x0 x1:Operand}{tys:Array TypeId}{ty:TypeId}{pos:String}{after:Array Edge}{id m N:Nat}{d:Array Po}
 (hx0:St.ev ⟨tmps,own,tk,gl,none,up⟩ x0= .mu id 5 0 N (N+m))
 (hx1:St.ev ⟨tmps,own,tk,gl,none,up⟩ x1= .fn 104 [])
 (ho:own[id]?=some (some (aO d m)))
 (hbu:(tmps++up).all (AV.bF own.length tk.length)=true)
 (hbo:bm own own.length tk.length)
 (hl:N≤1000000)
 (hN:d.size=N)
 (hend:aj E ops l0 Q (St.put ⟨tmps,own.set id (some (aO (Go.Stb.iE aJ d) m)),tk,gl,none,up⟩ dst (.ax []))):aj E ops (⟨dst,.call ⟨.value (.func 137),#[x0,x1],tys⟩,ty,pos,after,none⟩::l0) Q ⟨tmps,own,tk,gl,none,up⟩:=by
 have hid:=bE ho
 obtain⟨ow,how⟩:∃ow:List (Option (List AV)),own=ow.set id (some (aO d m)):=⟨own,(mf ho).symm⟩
 subst how
 rw[List.length_set] at hid
 have hob:∀d':Array Po,bm (ow.set id (some (aO d' m))) ow.length tk.length:=fun d'=>by
  have:=hbo.set (id:=id) (mb d' m);rwa[List.set_set,List.length_set] at this
 have hob2:∀d':Array Po,bm (ow.set id (some (aO d' m))) (ow.set id (some (aO d' m))).length tk.length:=fun d'=>by rw[List.length_set];exact hob d'
 rw[List.length_set] at hbu
 simp only[List.set_set] at hend
 refine aj.call (caps:=[]) (rs:=[]) Tryz.func137 rfl Tryz.ntmps137 rfl (by kernel_rfl) rfl rfl ?_
 show aa E _ _ ⟨([St.ev _ x0,St.ev _ x1]++[])++List.replicate (9-2) (.v undef),_,tk,gl,none,tmps++up⟩
 rw[hx0,hx1]
 have hBn:∀(tm:List AV) (d':Array Po),d'=Go.Stb.iE aJ d→bG E.P [] ⟨tmps,ow.set id (some (aO d m)),tk,gl,none,up⟩ (fun s z=>aj E ops l0 Q (s.put dst z)) .normal ⟨tm,ow.set id (some (aO d' m)),tk,gl,none,tmps++up⟩:=fun tm d' e=>by subst e;exact⟨rfl,hend⟩
 have hBr:∀(tm:List AV) (d':Array Po),d'=Go.Stb.iE aJ d→bG E.P [] ⟨tmps,ow.set id (some (aO d m)),tk,gl,none,up⟩ (fun s z=>aj E ops l0 Q (s.put dst z)) .ret ⟨tm,ow.set id (some (aO d' m)),tk,gl,none,tmps++up⟩:=fun tm d' e=>by subst e;exact⟨rfl,hend⟩
 generalize bG E.P [] ⟨tmps,ow.set id (some (aO d m)),tk,gl,none,up⟩ (fun s z=>aj E ops l0 Q (s.put dst z))=Q1 at hBn hBr ⊢
 generalize tmps++up=up' at hbu hBn hBr ⊢
 clear hend ho hbo hx0 hx1
 have hset:∀x,(ow.set id x)[id]?=some x:=fun x=>List.getElem?_set_self hid
 repeat'(first
 |(
  refine aa.here 0 4 5 rfl ?_
  refine aa.bq ?_
  refine aj.at 5 4 rfl ?_
  simp only[go_sem,hset,List.set_set,List.length_set]
  (repeat(refine⟨⟨_,rfl⟩,?_⟩))
  refine MF (id:=id) (m:=m) (N:=N) (d:=d) (by rfl) (by rfl) (by rfl) (hset _) (by simp only[List.length_set,List.all_append,hbu,List.all_cons,List.all_nil,List.cons_append,List.nil_append,AV.bF,AV.dY,AV.cU,decide_eq_true hid,Bool.and_true,Bool.true_and,List.all_replicate]) (hob2 _) hl (by(assumption))  ?_
  simp only[go_sem,hset,List.set_set,List.length_set]
  refine aj.of ?_
  (try simp only[go_sem,hset,List.set_set,List.length_set]))
 |(exact hBn _ _ rfl))
theorem Rx(σ:Nat→Option Nat)(a:List Po)(m:Nat):(a.map bD++spare 5 m).map (AV.b7 σ)=a.map bD++spare 5 m:=qx fun _=>rfl
abbrev tJ(l:List (List Po)):AV:= .sl none 1 (l.map fun x=>AV.sl none 5 (x.map bD))
theorem yG{n:Nm}{l:List Po}{i:Nat}{qs vs:List Int}(hi:l.length≤i)(hq:qs=(l.take i).map (·.al))(hv:vs=(l.take i).map (·.value))(ho:(l.take i).any (·.over)=false)(h:(bu qs).2=false∨(bu vs).2=false):dQ n l=⟨n.1,n.2,0,0,true⟩:=by
 rw[BA hi hq hv ho,if_neg]
 rcases h with h|h<;>simp[h]
theorem HD{n:Nm}{l:List Po}{i:Nat}{qs vs:List Int}(hi:l.length≤i)(hq:qs=(l.take i).map (·.al))(hv:vs=(l.take i).map (·.value))(ho:(l.take i).any (·.over)=false)(h:(bu qs).2=true)(h2:(bu vs).2=true):dQ n l=⟨n.1,n.2,(bu qs).1,(bu vs).1,false⟩:=by
 rw[BA hi hq hv ho,if_pos (by rw[h,h2];rfl)]
abbrev eb(l:List Po):AV:= .sl none 5 (l.map bD)
theorem WN{no nt m:Nat}{l:List Po}:∀es,some (l.map bD++spare 5 m)=some es→∀e∈es,∀z∈e.leaves,z.bF no nt=true:=lO fun x z hz=>by
 simp only[AV.leaves,List.mem_cons,List.not_mem_nil,or_false] at hz
 rcases hz with rfl|rfl|rfl|rfl|rfl<;>rfl
theorem JZ(l:List Po):∀e∈l.map bD,∀x∈e.leaves,x.dL=some x:=by
 intro e he x hx
 obtain⟨o,_,rfl⟩:=List.mem_map.1 he
 simp only[AV.leaves,List.mem_cons,List.not_mem_nil,or_false] at hx
 rcases hx with rfl|rfl|rfl|rfl|rfl<;>rfl
theorem LX(l:List Po)(hl:l.length≤1000000):ae E 40 [eb l] (fun r t=>r=bl (ck l)∧t=[]):=by
 refine ae.av (n:=47) (rs:=[.tmp 2]) Tryz.func40 rfl Tryz.ntmps40 rfl ?_
 repeat'(first
 |refine aa.ab fun K hK=>?_
 |(
  refine aa.here 3 9 6 rfl ?_
  obtain⟨x,hx⟩:∃x,l[i]?=some x:=⟨_,List.getElem?_eq_getElem (by omega)⟩
  refine aa.region ?_;simp only[go_sem])
 |(refine aa.region ?_;simp only[go_sem])
 |(refine aa.here 4 12 12 rfl ?_;refine aa.bc [0,1,2,3,4,5,6,7,8,9,10,11] [] (by kernel_rfl) (by kernel_rfl) rfl ?_;simp only[go_sem])
 |(refine hK _ ?_;clear hK K)
 |refine aa.block ?_
 |refine aa.cond rfl (fun c=>?_) (fun c=>?_)<;>first|exact Bool.noConfusion c|(try simp only[dD] at c)
 |refine aa.skip ?_
 |(refine aa.exit ?_;simp only[go_sem])
 |(refine ah.one (rL b x) (by kernel_rfl) rfl ?_;simp only[go_sem])
 |(refine ah.one (pn x.al) (by kernel_rfl) rfl ?_;simp only[go_sem])
 |(refine ah.one (pn x.value) (by kernel_rfl) rfl ?_;simp only[go_sem])
 |(refine aH.split (fun h=>?_) (fun h=>?_)<;>simp only[h,go_sem]<;>(try simp only[dD] at h))
 |(refine aG.bA (by assumption) ?_;(try simp only[go_sem]))
 |((first|refine aG.nth ?_ (fun b hb=>?_)|with_reducible refine And.intro ?_ ?_);(focus(first|(rw[aq (by omega) (by omega)];omega)|(simp;done)));(try simp only[hb,go_sem]))
 |(
  refine aa.here 2 8 1 rfl ?_
  refine aa.cr (ι:=Nat) [2,3,4,8,9,10,11,12,13,14,15,16,17,18,19,20,21,22,23,24,25,26,27,28,29,30,31,32,33,34,35,36,37,38,39,40,41,42,43,44,45,46] (fun(i:Nat)=>[(7,i64 i)]) (fun(i:Nat)=>i≤l.length∧∀k,k<i→jk l k=true) (fun(i:Nat)=>l.length-i) (0) ?_ ?_ ?_
  ·(try simp only[go_sem]);(repeat'(first|fail));done
  ·exact⟨by omega,fun k hk=>by omega⟩
  rintro i ⟨h1,h3⟩
  simp only[go_sem])
 |(
  refine⟨i+1,?_,?_,?_⟩
  ·(try simp only[go_sem]);(try rw[aq (by omega) (by omega)]);(repeat'(exact .inr rfl));done
  ·exact⟨by omega,re h3 (by first|exact yJ hx (by omega) (by first|exact ra (by assumption) (by assumption) (by assumption)|exact rU (by assumption) (by assumption) (by assumption) (by assumption))|(rw[lh (by omega) (by omega)] at hb;exact zu hx hb (by first|exact ra (by assumption) (by assumption) (by assumption)|exact rU (by assumption) (by assumption) (by assumption) (by assumption)) (by omega)))⟩
  ·(try simp only[]);omega)
 |(
  refine aa.ret ?_
  refine az.is ?_;simp only[go_sem,aB,aE,aF,aA,aC,aD]<;>(first|(rw[pU hx (Af hx (by first|exact xy (by assumption)|exact wi (by assumption)|exact pQ (by assumption) (.inl (by assumption))|exact pQ (by assumption) (.inr (by assumption))))];done)|(rw[lh (by omega) (by omega)] at hb;rw[pU hx (Cg hx (by omega) hb (by omega))];done)|(rw[xL (by omega) h3];done)))
 |refine aa.fin (by assumption) ?_)
theorem GF(l:List Po)(p0:Po)(hl:l.length≤1000000)(hp0:l[0]?=some p0):ae E 138 [eb l] (fun r t=>r=bD (dQ (aI p0) l)∧t=[]):=by
 refine ae.av (n:=65) (rs:=[.cell 2 49]) Tryz.func138 rfl Tryz.ntmps138 rfl ?_
 repeat'(first
 |refine aa.ab fun K hK=>?_
 |(
  refine aa.here 5 25 4 rfl ?_
  obtain⟨x,hx⟩:∃x,l[i]?=some x:=⟨_,List.getElem?_eq_getElem (by omega)⟩
  refine aa.region ?_;simp only[go_sem])
 |(refine aa.region ?_;simp only[go_sem])
 |(refine aa.here 1 12 11 rfl ?_;refine aa.bc [0,1,2,3,4,5,6,7,8,9,10] [3] (by kernel_rfl) (by kernel_rfl) rfl ?_;simp only[go_sem])
 |(refine hK _ ?_;clear hK K)
 |refine aa.block ?_
 |refine aa.cond rfl (fun c=>?_) (fun c=>?_)<;>first|exact Bool.noConfusion c|(try simp only[dD] at c)
 |refine aa.skip ?_
 |(refine aa.exit ?_;simp only[go_sem])
 |(refine ah.one (qf qs (by omega)) (by kernel_rfl) rfl ?_;simp only[go_sem])
 |(refine ah.one (qf vs (by omega)) (by kernel_rfl) rfl ?_;simp only[go_sem])
 |(refine aH.split (fun h=>?_) (fun h=>?_)<;>simp only[h,go_sem]<;>(try simp only[dD] at h))
 |(refine aG.bA (by assumption) ?_;(try simp only[go_sem]))
 |((with_reducible refine And.intro ?_ ?_);(focus(first|omega|(simp;done)));(try simp only[hb,go_sem]))
 |(
  refine aa.here 4 24 1 rfl ?_
  refine aa.fb 4 1 rfl ?_
  refine aa.fb 5 1 rfl ?_
  simp only[go_sem]
  refine aa.b6 (ι:=Nat×List Int×List Int) [7,24,25,26,27,28,29,30,31,32,33,34,35,36,37,38,39,40,41] (fun⟨i,qs,vs⟩=>[(23,i64 i),(4,.sl (some 0) 1 (qs.map i64)),(5,.sl (some 1) 1 (vs.map i64))]) (fun⟨i,qs,vs⟩=>[some [.agg [str [],str [],i64 0,i64 0,bl false]],some [.agg [str p0.acc,str p0.sym,i64 0,i64 0,bl false]]]) (fun⟨i,qs,vs⟩=>[qs.length,vs.length]) (fun⟨i,qs,vs⟩=>i≤l.length∧qs=(l.take i).map (·.al)∧vs=(l.take i).map (·.value)∧(l.take i).any (·.over)=false) (fun⟨i,qs,vs⟩=>l.length-i) ((0,[],[])) ?_ ?_ ?_
  ·(try simp only[go_sem]);(repeat'(first|refine And.intro ?_ ?_|trivial|exact .inr (aM rfl)));done
  ·exact⟨by omega,rfl,rfl,rfl⟩
  rintro⟨i,qs,vs⟩ ⟨h1,h2,h3,h4⟩
  simp only[go_sem]
  have hql:qs.length=i:=by rw[h2,List.length_map,List.length_take];omega
  have hvl:vs.length=i:=by rw[h3,List.length_map,List.length_take];omega)
 |(
  first
  |(refine⟨(i+1,qs++[x.al],vs++[x.value]),?_,⟨by show i+1≤l.length;omega,by show qs++[x.al]=(l.take (i+1)).map (·.al);rw[h2,cp hx];simp,by show vs++[x.value]=(l.take (i+1)).map (·.value);rw[h3,cp hx];simp,MK hx h4 (by assumption)⟩,by show l.length-(i+1)<l.length-i;omega⟩
    (try simp only[go_sem]);(try rw[aq (by omega) (by omega)]);(repeat'(first|refine And.intro ?_ ?_|exact .inr rfl|trivial|exact .inr (aM rfl)|(simp;done)));done))
 |(
  refine aa.ret ?_
  refine az.is ?_;simp only[go_sem,aB,aE,aF,aA,aC,aD]<;>(first|(rw[Nj hx (by assumption)];simp[aI];done)|(rw[yG (by omega) h2 h3 h4 (.inl (by assumption))];simp[aI];done)|(rw[yG (by omega) h2 h3 h4 (.inr (by assumption))];simp[aI];done)|(rw[HD (by omega) h2 h3 h4 (by assumption) (by assumption)];simp[aI];done)))
 |refine aa.fin (by assumption) ?_)
theorem yU{o:Od}(h:bn o=true):0≤o.done∧o.done≤o.al∧0≤o.al∧o.al≤1099511627776∧0≤o.aw∧o.aw≤1099511627776:=by
 simp only[bn,bJ,Bool.and_eq_true,decide_eq_true_eq] at h;omega
theorem u1{o:Od}{b:Bs}{q p:Int}{x:Bool}(h:bn o=true)(h1:gK b=true)(h2:bJ q=true)(h3:bJ p=true)(h4:o.done≤q):bn ⟨b,o.acc,o.sym,o.au,q,p,o.done,x⟩=true:=by
 simp only[bn,Bool.and_eq_true,decide_eq_true_eq] at h ⊢
 obtain⟨⟨⟨⟨⟨⟨a1,a2⟩,a3⟩,a4⟩,a5⟩,a6⟩,a7⟩:=h
 exact⟨⟨⟨⟨⟨⟨h1,a2⟩,a3⟩,h2⟩,h3⟩,a6⟩,h4⟩
theorem p8{α:Type}{f:α→AV}{l:List α}{n k m:Nat}{o:α}(hn:n<l.length):((l.map f++spare k m).set n (f o)).take l.length=(l.set n o).map f:=by
 rw[List.set_append_left _ _ (by simpa using hn),List.take_left' (by simp),List.map_set]
theorem oC(l:List Od)(n:Nat)(o:Od)(hn:n<l.length)(hl:l.length≤1000000):ae E 257 [aR l,i64 n,aW o] (fun r t=>r= .sl (some 0) 8 ((l.set n o).map aW)∧t=[l.length]):=by
 refine ae.av (n:=16) (rs:=[.tmp 6]) Tryz.func257 rfl Tryz.ntmps257 rfl ?_
 repeat'(first
 |refine aa.ab fun K hK=>?_
 |(
  refine aa.here 2 11 5 rfl ?_
  obtain⟨b,hb⟩:∃b,l[n]?=some b:=⟨_,List.getElem?_eq_getElem hn⟩
  have hb2:(l.map aW++spare 8 mm)[n]?=some (aW b):=by rw[List.getElem?_append_left (by simpa using hn),List.getElem?_map,hb];rfl
  refine aa.region ?_;simp only[go_sem])
 |(
  refine aa.here 3 15 2 rfl ?_
  refine aa.Bq 7 2 8 l.length ((l.map aW++spare 8 mm).set n (aW o)) (congrArg (fun x=>some (AV.mu 2 8 0 l.length x)) (by simp[cA])) rfl (by simp) (by rw[p8 hn];exact ij _) ?_
  rw[p8 hn]
  refine aa.region ?_;simp only[go_sem])
 |(
  refine aa.here 1 8 4 rfl ?_
  refine aa.bq ?_
  refine aj.jf o9 ?_
  simp only[go_sem]
  refine aj.of ?_
  simp only[go_sem])
 |(refine aa.region ?_;simp only[go_sem])
 |(refine hK _ ?_;clear hK K)
 |(refine aG.fT (by assumption) ?_;(try simp only[go_sem]))
 |((with_reducible refine And.intro ?_ ?_);(focus(first|omega|(intro e;have e2:=congrArg List.length e;simp only[List.length_map,List.length_nil] at e2;omega)));(try simp only[hb,go_sem]))
 |(
  refine aa.ret ?_
  simp only[go_sem]
  exact⟨[(true,0)],.sl (some 0) 8 _,rfl,⟨rfl,rfl,rfl⟩,rfl,by simp[gr]⟩)
 |(refine fun(mm:Nat)=>?_;simp only[go_sem]))
theorem vz(l:List Dn)(n:Nat)(o:Dn)(hn:n<l.length)(hl:l.length≤1000000):ae E 256 [bZ l,i64 n,bQ o] (fun r t=>r= .sl (some 0) 9 ((l.set n o).map bQ)∧t=[l.length]):=by
 refine ae.av (n:=16) (rs:=[.tmp 6]) Tryz.func256 rfl Tryz.ntmps256 rfl ?_
 repeat'(first
 |refine aa.ab fun K hK=>?_
 |(
  refine aa.here 2 11 5 rfl ?_
  obtain⟨b,hb⟩:∃b,l[n]?=some b:=⟨_,List.getElem?_eq_getElem hn⟩
  have hb2:(l.map bQ++spare 9 mm)[n]?=some (bQ b):=by rw[List.getElem?_append_left (by simpa using hn),List.getElem?_map,hb];rfl
  refine aa.region ?_;simp only[go_sem])
 |(
  refine aa.here 3 15 2 rfl ?_
  refine aa.Bq 7 2 9 l.length ((l.map bQ++spare 9 mm).set n (bQ o)) (congrArg (fun x=>some (AV.mu 2 9 0 l.length x)) (by simp[cA])) rfl (by simp) (by rw[p8 hn];exact pH _) ?_
  rw[p8 hn]
  refine aa.region ?_;simp only[go_sem])
 |(
  refine aa.here 1 8 4 rfl ?_
  refine aa.bq ?_
  refine aj.jf yb ?_
  simp only[go_sem]
  refine aj.of ?_
  simp only[go_sem])
 |(refine aa.region ?_;simp only[go_sem])
 |(refine hK _ ?_;clear hK K)
 |(refine aG.fT (by assumption) ?_;(try simp only[go_sem]))
 |((with_reducible refine And.intro ?_ ?_);(focus(first|omega|(intro e;have e2:=congrArg List.length e;simp only[List.length_map,List.length_nil] at e2;omega)));(try simp only[hb,go_sem]))
 |(
  refine aa.ret ?_
  simp only[go_sem]
  exact⟨[(true,0)],.sl (some 0) 9 _,rfl,⟨rfl,rfl,rfl⟩,rfl,by simp[gr]⟩)
 |(refine fun(mm:Nat)=>?_;simp only[go_sem]))
theorem RJ(l:List Od)(o:Od)(hl:l.length≤1000000):ae E 244 [aR l,aW o] (fun r t=>r= .ax [aR (cD l o).1,i64 (cD l o).2]∧t=[]):=by
 refine ae.av (n:=33) (rs:=[.tmp 4,.tmp 5]) Tryz.func244 rfl Tryz.ntmps244 rfl ?_
 repeat'(first
 |refine aa.ab fun K hK=>?_
 |(refine aa.region ?_;simp only[go_sem])
 |(refine aa.here 9 27 8 rfl ?_;refine aa.gD (.take 1 (.take 3 (.fork (.alt 0 (.fork (.alt 2 (.take 4 (.take 5 (.take 6 (.take 7 .done)))) (.alt 4 (.take 2 (.take 5 (.take 6 (.take 7 .done)))) .ends))) (.alt 4 (.take 0 (.take 2 (.take 5 (.take 6 (.take 7 .done))))) .ends))))) [[],[],[0,1],[],[3],[0,1,2,3,4],[0,1,2,3,4,5],[0,1,2,3,4,5,6]] [] (by kernel_rfl) (by kernel_rfl) ?_;simp only[go_sem])
 |(refine hK _ ?_;clear hK K)
 |refine aa.cond rfl (fun c=>?_) (fun c=>?_)<;>first|exact Bool.noConfusion c|(try simp only[dD] at c)
 |refine aa.skip ?_
 |(refine ah.one (nW _ (by(omega))) (by kernel_rfl) rfl ?_;simp only[go_sem])
 |(refine ah.one (oi ⟨o.id,o.acc,o.sym,o.au,o.al,o.aw,0,true⟩) (by kernel_rfl) rfl ?_;simp only[go_sem])
 |(refine ah.one (fK _ _ (by(omega))) (by kernel_rfl) rfl ?_;simp only[go_sem])
 |(refine aH.split (fun h=>?_) (fun h=>?_)<;>simp only[h,go_sem]<;>(try simp only[dD] at h))
 |((with_reducible refine And.intro ?_ ?_);(focus(first|omega|(simp;done)));(try simp only[hb,go_sem]))
 |(
  refine aa.ret ?_
  refine az.is ?_;simp only[go_sem,aB,aE,aF,aA,aC,aD]<;>(first
  |(rw[gP (we (by assumption)) rP (by decide)];simp;done)
  |(rw[gP (y8 (by assumption)) rP (by decide)];simp;done)
  |(rw[gP (yR (by assumption) (by assumption) (by assumption)) rP (by decide)];simp;done)
  |(rw[gP (yP (by assumption) (by assumption) (by assumption) (by omega)) rP (by decide)];simp;done)
  |(rw[wZ (by assumption) (by assumption) (by assumption) (by omega)];simp;done)))
 |(refine And.intro ?_ ?_))
theorem r9(l:List Od)(id:Bs)(hl:l.length≤1000000):ae E 246 [aR l,str id] (fun r t=>(aU l=false∧r= .ax [aR l,i64 1]∧t=[])∨(aU l=true∧cF l id=none∧r= .ax [aR l,i64 6]∧t=[])∨(∃(n:Nat) (o:Od),aU l=true∧bN l id=n∧cF l id=some n∧l[n]?=some o∧o.bg=true∧r= .ax [.sl (some 0) 8 ((l.set n ⟨o.id,o.acc,o.sym,o.au,o.al,o.aw,o.done,false⟩).map aW),i64 0]∧t=[l.length])):=by
 refine ae.av (n:=35) (rs:=[.tmp 4,.tmp 5]) Tryz.func246 rfl Tryz.ntmps246 rfl ?_
 repeat'(first
 |refine aa.ab fun K hK=>?_
 |(refine aa.region ?_;simp only[go_sem])
 |(refine hK _ ?_;clear hK K)
 |refine aa.cond rfl (fun c=>?_) (fun c=>?_)<;>first|exact Bool.noConfusion c|(try simp only[dD] at c)
 |refine aa.skip ?_
 |(refine ah.one (nW _ (by(omega))) (by kernel_rfl) rfl ?_;simp only[go_sem])
 |(refine ah.one (fK _ _ (by(omega))) (by kernel_rfl) rfl ?_;simp only[go_sem])
 |(refine ah.of (oC l n ⟨o.id,o.acc,o.sym,o.au,o.al,o.aw,o.done,false⟩ (by assumption) (by assumption)) (by kernel_rfl) rfl ?_;rintro r t ⟨rfl,rfl⟩;simp only[go_sem])
 |(refine aH.bY (fun h=>?_) (fun h=>?_)<;>simp only[h,go_sem]<;>(try simp only[dD] at h))
 |(refine aG.bA (by assumption) ?_;(try simp only[go_sem]))
 |((first|refine aG.nth ?_ (fun b hb=>?_)|with_reducible refine And.intro ?_ ?_);(focus(omega));(try simp only[hb,go_sem]))
 |(
  refine aa.ret ?_
  simp only[go_sem]
  first
  |exact⟨[],.ax [aR l,i64 1],rfl,⟨⟨rfl,rfl⟩,rfl,trivial⟩,.inl ⟨by assumption,rfl,rfl⟩⟩
  |exact⟨[],.ax [aR l,i64 6],rfl,⟨⟨rfl,rfl⟩,rfl,trivial⟩,.inr (.inl ⟨by assumption,qn (by assumption),rfl,rfl⟩)⟩
  |exact⟨[],.ax [aR l,i64 6],rfl,⟨⟨rfl,rfl⟩,rfl,trivial⟩,.inr (.inl ⟨by assumption,by rw[ll hpf ho];simp[*],rfl,rfl⟩)⟩
  |exact⟨[(true,0)],.ax [.sl (some 0) 8 _,i64 0],rfl,⟨⟨rfl,rfl,rfl⟩,rfl,trivial⟩,.inr (.inr ⟨n,o,by assumption,hp,by rw[ll hpf ho];simp[*],ho,by assumption,rfl,by simp[gr]⟩)⟩)
 |(obtain⟨n,o,hp,hpf,ho,hn⟩:=lk (l:=l) (id:=id) (by assumption);simp only[hp,ho,go_sem,Int.toNat_natCast]))
theorem xO(l:List Od)(id:Bs)(q p:Int)(hl:l.length≤1000000):ae E 247 [aR l,str id,i64 q,i64 p] (fun r t=>r= .ax [aR (cc l id q p).1,i64 (cc l id q p).2]∧t=[]):=by
 refine ae.av (n:=86) (rs:=[.tmp 8,.tmp 9]) Tryz.func247 rfl Tryz.ntmps247 rfl ?_
 repeat'(first
 |refine aa.ab fun K hK=>?_
 |(
  refine aa.here 7 34 11 rfl ?_
  have hr:aU l=true:=by assumption
  have hm:=kX hr ho
  have hop:cF l id=some n:=by rw[ll hpf ho];simp[*]
  have hopn:o.bg=true:=by assumption
  have hb3:=yU hm
  have hlf:db o=o.al-o.done:=by unfold db;simp[hm,hopn]
  have hw:IntKind.i64.wrap (o.al-o.done)=o.al-o.done:=aq (by omega) (by omega)
  refine aa.region ?_;simp only[go_sem,hw])
 |(
  refine aa.here 11 71 6 rfl ?_
  have hw2:IntKind.i64.wrap (o.done+q)=o.done+q:=aq (by omega) (by omega)
  refine aa.region ?_;simp only[go_sem,hw2])
 |(refine aa.region ?_;simp only[go_sem])
 |(refine hK _ ?_;clear hK K)
 |refine aa.cond rfl (fun c=>?_) (fun c=>?_)<;>first|exact Bool.noConfusion c|(try simp only[dD] at c)
 |refine aa.skip ?_
 |(refine ah.one (nW _ (by(omega))) (by kernel_rfl) rfl ?_;simp only[go_sem])
 |(refine ah.one (fK _ _ (by(omega))) (by kernel_rfl) rfl ?_;simp only[go_sem])
 |(refine ah.one (ti _) (by kernel_rfl) rfl ?_;simp only[go_sem])
 |(refine ah.of (oC l n ⟨o.id,o.acc,o.sym,true,o.al,o.aw,o.done+q,false⟩ (by assumption) (by assumption)) (by kernel_rfl) rfl ?_;rintro r t ⟨rfl,rfl⟩;simp only[go_sem])
 |(refine ah.of (oC l n ⟨o.id,o.acc,o.sym,true,o.al,o.aw,o.done+q,o.bg⟩ (by assumption) (by assumption)) (by kernel_rfl) rfl ?_;rintro r t ⟨rfl,rfl⟩;simp only[go_sem])
 |(refine ah.of (oC l n ⟨o.id,o.acc,o.sym,false,o.al,o.aw,o.done+q,false⟩ (by assumption) (by assumption)) (by kernel_rfl) rfl ?_;rintro r t ⟨rfl,rfl⟩;simp only[go_sem])
 |(refine ah.of (oC l n ⟨o.id,o.acc,o.sym,false,o.al,o.aw,o.done+q,o.bg⟩ (by assumption) (by assumption)) (by kernel_rfl) rfl ?_;rintro r t ⟨rfl,rfl⟩;simp only[go_sem])
 |(refine aH.bY (fun h=>?_) (fun h=>?_)<;>simp only[h,go_sem]<;>(try simp only[dD] at h))
 |(refine aH.split (fun h=>?_) (fun h=>?_)<;>simp only[h,go_sem]<;>(try simp only[dD] at h))
 |(refine aG.bA (by assumption) ?_;(try simp only[go_sem]))
 |((first|refine aG.nth ?_ (fun b hb=>?_)|with_reducible refine And.intro ?_ ?_);(focus(omega));(try simp only[hb,go_sem]))
 |(
  refine aa.ret ?_
  refine az.is ?_;simp only[go_sem,aB,aE,aF,aA,aC,aD]<;>(first
  |(rw[gP (y3 (by assumption)) nj (by decide)];simp;done)
  |(rw[gP (ue (by assumption) (qn (by assumption))) nj (by decide)];simp;done)
  |(rw[gP (ue (by assumption) (by rw[ll hpf ho];simp[*])) nj (by decide)];simp;done)
  |(rw[gP (rA hr hop ho (.inl (by omega))) nj (by decide)];simp;done)
  |(rw[gP (rA hr hop ho (.inr (by omega))) nj (by decide)];simp;done)
  |(rw[gP (xN hr hop ho (by omega) (by omega) (by simp[er, *]<;>omega)) nj (by decide)];simp;done)
  |(have hbuy:o.au=true:=by assumption
    rw[kr hr hop ho (by omega) (by omega) (by simp[er, *]<;>omega),decide_eq_false (by omega)];simp[hbuy,hopn];done)
  |(have hbuy:o.au=true:=by assumption
    rw[kr hr hop ho (by omega) (by omega) (by simp[er, *]<;>omega),decide_eq_true (by omega)];simp[hbuy,hopn];done)
  |(have hbuy:o.au=false:=by assumption
    rw[kr hr hop ho (by omega) (by omega) (by simp[er, *]<;>omega),decide_eq_false (by omega)];simp[hbuy,hopn];done)
  |(have hbuy:o.au=false:=by assumption
    rw[kr hr hop ho (by omega) (by omega) (by simp[er, *]<;>omega),decide_eq_true (by omega)];simp[hbuy,hopn];done)))
 |(obtain⟨n,o,hp,hpf,ho,hn⟩:=lk (l:=l) (id:=id) (by assumption);simp only[hp,ho,go_sem,Int.toNat_natCast]))
theorem MS(l:List Od)(a b:Bs)(q p:Int)(hl:l.length≤1000000):ae E 248 [aR l,str a,str b,i64 q,i64 p] (fun r t=>r= .ax [aR (ca l a b q p).1,i64 (ca l a b q p).2]∧t=[]):=by
 refine ae.av (n:=75) (rs:=[.tmp 10,.tmp 11]) Tryz.func248 rfl Tryz.ntmps248 rfl ?_
 repeat'(first
 |refine aa.ab fun K hK=>?_
 |(
  refine aa.here 5 31 19 rfl ?_
  have hm:=kX hr ho
  have hb3:=yU hm
  refine aa.region ?_;simp only[go_sem])
 |(refine aa.region ?_;simp only[go_sem])
 |(refine hK _ ?_;clear hK K)
 |refine aa.cond rfl (fun c=>?_) (fun c=>?_)<;>first|exact Bool.noConfusion c|(try simp only[dD] at c)
 |refine aa.skip ?_
 |(refine ah.of (r9 l a (by assumption)) (by kernel_rfl) rfl ?_;rintro r t (⟨hr,rfl,rfl⟩|⟨hr,hop,rfl,rfl⟩|⟨n,o,hr,hp,hop,ho,hopn,rfl,rfl⟩)<;>simp only[go_sem])
 |(refine ah.one (fK l a (by omega)) (by kernel_rfl) rfl ?_;simp only[hp,ho,Int.toNat_natCast];simp only[go_sem])
 |(refine ah.one (fK _ _ (by(omega))) (by kernel_rfl) rfl ?_;simp only[go_sem])
 |(refine ah.one (Bc _) (by kernel_rfl) rfl ?_;simp only[go_sem])
 |(refine ah.one (ti _) (by kernel_rfl) rfl ?_;simp only[go_sem])
 |(refine aH.split (fun h=>?_) (fun h=>?_)<;>simp only[h,go_sem]<;>(try simp only[dD] at h))
 |(refine aG.bA (by assumption) ?_;(try simp only[go_sem]))
 |((with_reducible refine And.intro ?_ ?_);(focus(first|(simp;done)|(simp only[List.length_set] at *;omega)));(try simp only[hb,go_sem]))
 |(
  refine aa.ret ?_
  refine az.is ?_;simp only[go_sem,aB,aE,aF,aA,aC,aD]<;>(first
  |(rw[gP (Go.Bk.rV hr) pC (by decide)];simp;done)
  |(rw[gP (Go.Bk.oy hr hop) pC (by decide)];simp;done)
  |(rw[gP (xP hr hop ho (by simp[bn, *]<;>omega)) pC (by decide)];simp;done)
  |(rw[gP (Go.Bk.qN hr hop ho (u1 hm (by assumption) (by assumption) (by assumption) (by omega)) (by assumption)) pC (by decide)];simp;done)
  |(rw[gP (BF hr hop ho (u1 hm (by assumption) (by assumption) (by assumption) (by omega)) (by assumption) (by omega)) pC (by decide)];simp;done)
  |(rw[BQ hr hop ho (u1 hm (by assumption) (by assumption) (by assumption) (by omega)) (by assumption) (by omega)];simp;done))))
theorem nl{v:Bool}{p:Prop}(h:v=true)(h2:¬p):¬(v=false∨p):=by simp[h,h2]
theorem Ru(bk:Bk)(x:Ex)(hr:aU bk.af=true)(hs:bJ x.aw=true)(hf:bk.ai.length≤1000000)(hft:∀f∈bk.ai,0≤f.time∧f.time≤4611686018427387904):ae E 245 [dn bk,an x] (fun r t=>r= .ax [dn (bH bk x).1,i64 (bH bk x).2]∧t=[]):=by
 have hol:=ly hr
 refine ae.av (n:=132) (rs:=[.cell 4 26,.tmp 5]) Tryz.func245 rfl Tryz.ntmps245 rfl ?_
 repeat'(first
 |refine aa.ab fun K hK=>?_
 |(refine aa.region ?_;simp only[go_sem])
 |(refine aa.here 2 14 23 rfl ?_;refine aa.bc [0,1,2,3,4,5,6,7,8,9,10,11,12,13,14,15,16,17,18,19,20,21,22] [] (by kernel_rfl) (by kernel_rfl) rfl ?_;simp only[go_sem])
 |(refine aa.here 12 85 33 rfl ?_;refine aa.bc [0,1,2,3,4,5,6,7,8,9,10,11,12,13,14,15,16,17,18,19,20,21,22,23,24,25,26,27,28,29,30,31,32] [] (by kernel_rfl) (by kernel_rfl) rfl ?_;simp only[go_sem])
 |(refine hK _ ?_;clear hK K)
 |refine aa.cond rfl (fun c=>?_) (fun c=>?_)<;>first|exact Bool.noConfusion c|(try simp only[dD] at c)
 |refine aa.skip ?_
 |(refine ah.one (yE _ _ (by(omega))) (by kernel_rfl) rfl ?_;simp only[go_sem])
 |(refine ah.one (fK _ _ (by(omega))) (by kernel_rfl) rfl ?_;simp only[go_sem])
 |(refine ah.of (vz bk.ai n ⟨f.id,f.ord,f.acc,f.sym,f.au,f.al,f.aw,f.time,false⟩ (by assumption) (by assumption)) (by kernel_rfl) rfl ?_;rintro r t ⟨rfl,rfl⟩;simp only[go_sem])
 |(refine ah.of (vz bk.ai n ⟨f.id,f.ord,f.acc,f.sym,true,x.al,x.aw,f.time,f.live⟩ (by assumption) (by assumption)) (by kernel_rfl) rfl ?_;rintro r t ⟨rfl,rfl⟩;simp only[go_sem])
 |(refine ah.of (vz bk.ai n ⟨f.id,f.ord,f.acc,f.sym,false,x.al,x.aw,f.time,f.live⟩ (by assumption) (by assumption)) (by kernel_rfl) rfl ?_;rintro r t ⟨rfl,rfl⟩;simp only[go_sem])
 |(refine aH.bY (fun h=>?_) (fun h=>?_)<;>simp only[h,go_sem]<;>(try simp only[dD] at h))
 |(refine aH.split (fun h=>?_) (fun h=>?_)<;>simp only[h,go_sem]<;>(try simp only[dD] at h))
 |(refine aG.bA (by assumption) ?_;(try simp only[go_sem]))
 |((first|refine aG.nth ?_ (fun b hb=>?_)|with_reducible refine And.intro ?_ ?_);(focus(omega));(try simp only[hb,go_sem]))
 |(
  refine aa.ret ?_
  refine az.is ?_;simp only[go_sem,aB,aE,aF,aA,aC,aD]<;>(first
  |(rw[JR (by assumption)];simp;done)
  |(rw[xX hpf hfn (.inl (by assumption))];simp;done)
  |(rw[xX hpf hfn (.inr (by omega))];simp;done)
  |(rw[J3 hpf hfn (nl (by assumption) (by omega)) (by first|exact .inl (by assumption)|exact .inr (.inl (by assumption))|exact .inr (.inr (.inl (by assumption)))|exact .inr (.inr (.inr (by assumption))))];simp;done)
  |(rw[S7 hpf hfn (nl (by assumption) (by omega)) (by rintro(h|h|h|h)<;>exact h (by assumption)) (by assumption)];simp;done)
  |(rw[ER hpf hfn (nl (by assumption) (by omega)) (by rintro(h|h|h|h)<;>exact h (by assumption)) (by assumption) (by assumption)];simp;done)
  |(rw[LK hpf hfn hr (nl (by assumption) (by omega)) (by rintro(h|h|h|h)<;>exact h (by assumption)) (by assumption) (by assumption) (by assumption)];simp;done)
  |(rw[AH hpf hfn hr (nl (by assumption) (by omega)) (by rintro(h|h|h|h)<;>exact h (by assumption)) (by assumption) (by assumption) hq ho (.inl ⟨by assumption,by assumption⟩)];simp;done)
  |(rw[AH hpf hfn hr (nl (by assumption) (by omega)) (by rintro(h|h|h|h)<;>exact h (by assumption)) (by assumption) (by assumption) hq ho (.inr ⟨by assumption,by assumption⟩)];simp;done)
  |(have hbuy:f.au=true:=by assumption
    rw[AI hpf hfn hr hs (nl (by assumption) (by omega)) (by rintro(h|h|h|h)<;>exact h (by assumption)) (by assumption) (by assumption) hq ho (.inl ⟨hbuy,by assumption⟩)];simp[hbuy];done)
  |(have hbuy:f.au=false:=by assumption
    rw[AI hpf hfn hr hs (nl (by assumption) (by omega)) (by rintro(h|h|h|h)<;>exact h (by assumption)) (by assumption) (by assumption) hq ho (.inr ⟨hbuy,by assumption⟩)];simp[hbuy];done)))
 |(obtain⟨n,f,hp,hpf,hfn,hn⟩:=Gh (l:=bk.ai) (id:=x.ref) (by assumption);have hfm:=hft f (List.mem_of_getElem? hfn);have hw:IntKind.i64.wrap (f.time+10)=f.time+10:=aq (by omega) (by omega);simp only[hp,hfn,hw,go_sem,Int.toNat_natCast])
 |(obtain⟨m,o,hq,hqf,ho,hm⟩:=lk (l:=bk.af) (id:=f.ord) (by assumption);simp only[hq,ho,go_sem,Int.toNat_natCast]))
theorem vW{l:List Od}{id:Bs}{n:Nat}{o:Od}(hpf:bS l id=some n)(ho:l[n]?=some o)(h:o.bg=false):cF l id=none:=by rw[ll hpf ho,h];rfl
theorem xd{l:List Od}{id:Bs}{n:Nat}{o:Od}(hpf:bS l id=some n)(ho:l[n]?=some o)(h:o.bg=true):cF l id=some n:=by rw[ll hpf ho,h];rfl
theorem Dl(bk:Bk)(x:Ex)(hr:aU bk.af=true)(hs:bJ x.aw=true)(hf:bk.ai.length≤100000)(hft:∀f∈bk.ai,0≤f.time∧f.time≤4611686018427387904):ae E 215 [dn bk,an x] (fun r t=>r= .ax [dn (du bk x).1,i64 (du bk x).2]∧t=[]):=by
 have hol:=ly hr
 refine ae.av (n:=178) (rs:=[.cell 4 26,.tmp 5]) Tryz.func215 rfl Tryz.ntmps215 rfl ?_
 repeat'(first
 |refine aa.ab fun K hK=>?_
 |(refine aa.region ?_;simp only[go_sem])
 |(refine aa.here 24 127 24 rfl ?_;refine aa.gD (.take 1 (.take 2 (.take 4 (.take 5 (.take 6 (.take 7 (.take 8 (.take 9 (.take 10 (.take 11 (.take 12 (.take 13 (.take 14 (.take 15 (.take 16 (.take 17 (.take 18 (.take 19 (.fork (.alt 0 (.fork (.alt 3 (.take 20 (.take 21 (.take 22 (.take 23 .done)))) (.alt 20 (.take 3 (.take 21 (.take 22 (.take 23 .done)))) .ends))) (.alt 20 (.take 0 (.take 3 (.take 21 (.take 22 (.take 23 .done))))) .ends))))))))))))))))))))) [[],[],[1],[0,1,2],[],[4],[],[],[7],[],[9],[],[11],[],[13],[],[15],[],[17],[4,5,6,7,8,9,10,11,12,13,14,15,16,17,18],[4,5,6,7,8,9,10,11,12,13,14,15,16,17,18,19],[0,1,2,3,4,5,6,7,8,9,10,11,12,13,14,15,16,17,18,19,20],[0,1,2,3,4,5,6,7,8,9,10,11,12,13,14,15,16,17,18,19,20,21],[0,1,2,3,4,5,6,7,8,9,10,11,12,13,14,15,16,17,18,19,20,21,22]] [] (by kernel_rfl) (by kernel_rfl) ?_;simp only[go_sem])
 |(refine hK _ ?_;clear hK K)
 |refine aa.cond rfl (fun c=>?_) (fun c=>?_)<;>first|exact Bool.noConfusion c|(try simp only[dD] at c)
 |refine aa.skip ?_
 |(refine ah.one (RJ bk.af (fY x) (by omega)) (by kernel_rfl) rfl ?_;simp only[go_sem])
 |(refine ah.one (Ru ⟨bk.af,bk.ai,bk.ids,x.time,bk.bad⟩ x hr hs (by show bk.ai.length≤_;omega) hft) (by kernel_rfl) rfl ?_;simp only[go_sem])
 |(refine ah.one (fK _ _ (by(omega))) (by kernel_rfl) rfl ?_;simp only[go_sem])
 |(refine ah.of (r9 bk.af x.ord (by omega)) (by kernel_rfl) rfl ?_;rintro r t (⟨hr2,_⟩|⟨_,hop2,_⟩|⟨n2,o2,_,hp2,hop2,ho2,hopn2,rfl,rfl⟩);(exact absurd hr (by rw[hr2];simp));(exact absurd hop2 (by rw[ll hpf ho];simp[*];done));obtain rfl:n=n2:=(by omega);obtain rfl:o=o2:=(by rw[ho] at ho2;exact Option.some.inj ho2);simp only[go_sem])
 |(refine ah.of (r9 bk.af x.ref (by omega)) (by kernel_rfl) rfl ?_;rintro r t (⟨hr2,_⟩|⟨_,hop2,_⟩|⟨n2,o2,_,hp2,hop2,ho2,hopn2,rfl,rfl⟩);(exact absurd hr (by rw[hr2];simp));(exact absurd hop2 (by rw[ll hpf ho];simp[*];done));obtain rfl:n=n2:=(by omega);obtain rfl:o=o2:=(by rw[ho] at ho2;exact Option.some.inj ho2);simp only[go_sem])
 |(refine ah.one (xO bk.af x.ord x.al x.aw (by omega)) (by kernel_rfl) rfl ?_;simp only[go_sem])
 |(refine ah.one (xO bk.af x.ref x.al x.aw (by omega)) (by kernel_rfl) rfl ?_;simp only[go_sem])
 |(refine ah.one (MS bk.af x.ref x.ord x.al x.aw (by omega)) (by kernel_rfl) rfl ?_;simp only[go_sem])
 |(refine aH.bY (fun h=>?_) (fun h=>?_)<;>simp only[h,go_sem]<;>(try simp only[dD] at h))
 |(refine aH.split (fun h=>?_) (fun h=>?_)<;>simp only[h,go_sem]<;>(try simp only[dD] at h))
 |(refine aG.bA (by assumption) ?_;(try simp only[go_sem]))
 |((first|refine aG.nth ?_ (fun b hb=>?_)|with_reducible refine And.intro ?_ ?_);(focus(omega));(try simp only[hb,go_sem]))
 |(
  refine aa.ret ?_
  refine az.is ?_;simp only[go_sem,aB,aE,aF,aA,aC,aD]<;>(first
  |(exfalso;omega)
  |(rw[SO (by assumption)];simp;done)
  |(rw[RF (by assumption) (by assumption) (by assumption)];simp;done)
  |(rw[Ti (by assumption) (by assumption) (by assumption)];simp;done)
  |(rw[MP (by assumption) (by assumption) (by assumption)];simp;done)
  |(rw[pZ (by assumption) (by assumption) (by assumption) (id:=x.ord) (if_neg (by assumption)) (qn (by assumption))];simp;done)
  |(rw[pZ (by assumption) (by assumption) (by assumption) (id:=x.ref) (if_pos (by assumption)) (qn (by assumption))];simp;done)
  |(rw[pZ (by assumption) (by assumption) (by assumption) (id:=x.ord) (if_neg (by assumption)) (vW hpf ho (by assumption))];simp;done)
  |(rw[pZ (by assumption) (by assumption) (by assumption) (id:=x.ref) (if_pos (by assumption)) (vW hpf ho (by assumption))];simp;done)
  |(rw[vP (by assumption) (by assumption) (by assumption) (id:=x.ord) (if_neg (by assumption)) (xd hpf ho (by assumption)) ho (by first|exact .inl (by assumption)|exact .inr (.inl (by assumption))|exact .inr (.inr (by assumption)))];simp;done)
  |(rw[vP (by assumption) (by assumption) (by assumption) (id:=x.ref) (if_pos (by assumption)) (xd hpf ho (by assumption)) ho (by first|exact .inl (by assumption)|exact .inr (.inl (by assumption))|exact .inr (.inr (by assumption)))];simp;done)
  |(rw[Vy (by assumption) (by assumption) (by assumption) (id:=x.ord) (if_neg (by assumption)) hop2 ho (by rintro(h|h|h)<;>exact h (by assumption)) hr (by assumption) (by assumption)];simp;done)
  |(rw[UW (by assumption) (by assumption) (by assumption) (id:=x.ord) (if_neg (by assumption)) hop2 ho (by rintro(h|h|h)<;>exact h (by assumption)) (by assumption) (by assumption)];simp[iO];done)
  |(rw[DG (by assumption) (by assumption) (by assumption) (id:=x.ord) (if_neg (by assumption)) hop2 ho (by rintro(h|h|h)<;>exact h (by assumption)) (by assumption) (by omega)];simp[iO,kt, *];done)
  |(rw[Dp (by assumption) (by assumption) (by assumption) (id:=x.ref) (if_pos (by assumption)) hop2 ho (by rintro(h|h|h)<;>exact h (by assumption)) (by assumption) (by assumption)];simp;done)
  |(rw[Oq (by assumption) (by assumption) (by assumption) (id:=x.ref) (if_pos (by assumption)) hop2 ho (by rintro(h|h|h)<;>exact h (by assumption)) (by assumption) (by omega)];simp[kt, *];done)))
 |(exfalso;omega)
 |(obtain⟨n,o,hp,hpf,ho,hn⟩:=lk (l:=bk.af) (id:=x.ord) (by assumption);simp only[hp,ho,go_sem,Int.toNat_natCast])
 |(obtain⟨n,o,hp,hpf,ho,hn⟩:=lk (l:=bk.af) (id:=x.ref) (by assumption);simp only[hp,ho,go_sem,Int.toNat_natCast])
 |(refine And.intro ?_ ?_))
end Go.Proofs.YtajeeghgiilhiaaGreat
end
