/- (G38, G43) -/
import Derived.Test.YtajeeghgiilhiaaGreatKwR
import Derived.Test.YtajeeghgiilhiaaGreatKwT
import Derived.Test.YtajeeghgiilhiaaGreatKwSb
import Derived.Test.YtajeeghgiilhiaaGreatKwS
set_option linter.unusedVariables false
set_option linter.unusedSimpArgs false
set_option linter.unusedSectionVars false
set_option maxHeartbeats 16000000
set_option maxRecDepth 8000
section
namespace Go.Proofs.YtajeeghgiilhiaaGreat
open Go Go.Abs Go.RowKit Go.Bk
theorem JP(g:Gt)(a:Ac)(hg:bO g)(ha:B7 a):ae E 34 [aL g,eJ a] (fun r t=>r= .ax [aL (bj g a).1,i64 (bj g a).2.1,i64 (bj g a).2.2]∧t=[]):=by
 obtain⟨h1,h2,h3,h4⟩:=ha
 have h:a.kind%8=0∨a.kind%8=1∨a.kind%8=2∨a.kind%8=3∨a.kind%8=4∨a.kind%8=5∨a.kind%8=6∨a.kind%8=7:=by omega
 rcases h with h|h|h|h|h|h|h|h
 ·exact Ec g a hg h1 ⟨h3,h4⟩ h
 ·exact RW g a hg h1 ⟨h3,h4⟩ h
 ·exact KY g a hg h1 ⟨h3,h4⟩ h
 ·exact LQ g a hg h1 ⟨h3,h4⟩ h
 ·exact Nd g a hg h1 ⟨h3,h4⟩ h
 ·exact Ji g a hg h1 ⟨h3,h4⟩ h
 ·exact Rt g a hg h1 ⟨h3,h4⟩ h
 ·exact Fb g a hg h1 ⟨h3,h4⟩ h
section
variable{g:Gt}{k:Nat}{o:Od}{v:Vn}
theorem EH(h:bf g=true):ae E 37 [aL g,aL g] (fun r t=>r=bl true∧t=[]):=by
 have e:=V4 g g (mF h).fit
 rw[decide_eq_true rfl] at e;exact e
end
def pN(a:Ac):Prop:=B7 a∧hP a.ex∧a.lim.acc.length≤9223372036854775807∧a.lim.sym.length≤9223372036854775807
theorem Ox(g:Gt)(a:Ac)(hg:bO g)(hlm:dP g.aP)(ha:pN a):ae E 44 [aL g,eJ a] (fun r t=>r= .ax [aL (bj g a).1,i64 (bj g a).2.1,i64 (bj g a).2.2]∧t=[]):=by
 obtain⟨⟨h1,h2,h3,h4⟩,hx,hl1,hl2⟩:=ha
 have h:a.kind%8=0∨a.kind%8=1∨a.kind%8=2∨a.kind%8=3∨a.kind%8=4∨a.kind%8=5∨a.kind%8=6∨a.kind%8=7:=by omega
 rcases h with h|h|h|h|h|h|h|h
 ·exact UN g a hg hlm h1 ⟨h3,h4⟩ hx hl1 hl2 h
 ·exact EK g a hg hlm h1 ⟨h3,h4⟩ hx hl1 hl2 h
 ·exact Ej g a hg hlm h1 ⟨h3,h4⟩ hx hl1 hl2 h
 ·exact S8 g a hg hlm h1 ⟨h3,h4⟩ hx hl1 hl2 h
 ·exact I6 g a hg hlm h1 ⟨h3,h4⟩ hx hl1 hl2 h
 ·exact Md g a hg hlm h1 ⟨h3,h4⟩ hx hl1 hl2 h
 ·exact Px g a hg hlm h1 ⟨h3,h4⟩ hx hl1 hl2 h
 ·exact Qt g a hg hlm h1 ⟨h3,h4⟩ hx hl1 hl2 h
theorem Hr{g:Gt}(h:bf g=true):ae E 45 [aL g] (fun r t=>r=bl true∧t=[]):=by
 have e:=mC g (mF h).fit
 rw[h] at e;exact e
theorem zg{g:Gt}(h:bf g=true):(iv g).length≤1000000:=by
 unfold iv;rw[if_pos h]
 exact Nat.le_trans (O6 _) (sP h)
theorem OS{g:Gt}(h:bf g=true):ae E 16 [eb (iv g),eb (iv g)] (fun r t=>r=bl true∧t=[]):=by
 have e:=NZ (iv g) (iv g) (zg h) (zg h)
 rw[qb.2 rfl] at e;exact e
theorem F3(z1 z2:Int)(lims:List Lm)(l:List Ac)(hz1:0≤z1∧z1<256)(hz2:0≤z2∧z2<256)(hl:∀a∈l,pN a):ae E 8 [.v (.int .u8 z1),.v (.int .u8 z2),bL lims,Aj l] (fun r t=>r=bl true∧t=[]):=by
 have hz3:IntKind.i64.wrap (IntKind.i64.wrap (z1.tmod 4)+1)=z1%4+1:=by
  rw[Int.tmod_eq_emod_of_nonneg hz1.1,aq (x:=z1%4) (by omega) (by omega),aq (by omega) (by omega)]
 have hz4:IntKind.i64.wrap z2=z2:=aq (by omega) (by omega)
 have htb:dw z2=true:=by simp only[dw,Bool.and_eq_true,decide_eq_true_eq];omega
 have hn1:1≤z1%4+1∧z1%4+1≤4:=by omega
 have hnr:bf (kC (z1%4+1) z2).1=true:=SL hn1.1 hn1.2 htb
 have hne:(kC (z1%4+1) z2).2=0:=by rw[vv hn1.1 hn1.2 htb]
 refine ae.av (n:=121) (rs:=[.tmp 8]) Tryz.func8 rfl Tryz.ntmps8 rfl ?_
 repeat'(first
 |refine aa.ab fun K hK=>?_
 |(refine aa.region ?_;simp only[go_sem,hz3,hz4,hne])
 |(refine aa.here 11 54 10 rfl ?_;refine aa.bc [0,1,2,3,4,5,6,7,8,9] [] (by kernel_rfl) (by kernel_rfl) rfl ?_;simp only[go_sem,hz3,hz4,hne])
 |(refine aa.here 18 76 14 rfl ?_;refine aa.bc [0,1,2,3,4,10,5,6,7,8,9,11,12,13] [14] (by kernel_rfl) (by kernel_rfl) rfl ?_;simp only[go_sem,hz3,hz4,hne])
 |(refine aa.here 19 86 14 rfl ?_;refine aa.bc [0,1,2,3,4,10,5,6,7,8,9,11,12,13] [17] (by kernel_rfl) (by kernel_rfl) rfl ?_;simp only[go_sem,hz3,hz4,hne])
 |(refine aa.here 22 114 4 rfl ?_;apply aa.xD (.take 0 (.fork (.alt 1 (.take 2 (.take 3 .done)) (.alt 2 (.take 1 (.take 3 .done)) .ends)))) [[],[],[0],[0,1,2]] [] (by kernel_rfl) (by kernel_rfl) (by decide);simp only[go_sem,hz3,hz4,hne])
 |(refine aa.here 23 116 6 rfl ?_;refine aa.bc [0,2,1,3,4,5] [] (by kernel_rfl) (by kernel_rfl) rfl ?_;simp only[go_sem,hz3,hz4,hne])
 |(refine hK _ ?_;clear hK K)
 |refine aa.block ?_
 |refine aa.cond rfl (fun c=>?_) (fun c=>?_)<;>first|exact Bool.noConfusion c|(try simp only[dD] at c)
 |refine aa.skip ?_
 |(refine aa.exit ?_;simp only[go_sem,hz3,hz4,hne])
 |(refine ah.one (RK) (by kernel_rfl) rfl ?_;simp only[go_sem,hz3,hz4,hne])
 |(refine ah.one (Ah lims) (by kernel_rfl) rfl ?_;simp only[go_sem,hz3,hz4,hne])
 |(refine ah.one (Ak (z1%4+1) z2) (by kernel_rfl) rfl ?_;simp only[go_sem,hz3,hz4,hne])
 |(refine ah.one (zE g b (mF hgr)) (by kernel_rfl) rfl ?_;simp only[go_sem,hz3,hz4,hne])
 |(refine ah.one (DC b) (by kernel_rfl) rfl ?_;simp only[go_sem,hz3,hz4,hne])
 |(refine ah.one (JP g b (mF hgr) (hl b (List.mem_of_getElem? hb)).1) (by kernel_rfl) rfl ?_;simp only[go_sem,hz3,hz4,hne])
 |(refine ah.one (Ox g b (mF hgr) (yv hgr) (hl b (List.mem_of_getElem? hb))) (by kernel_rfl) rfl ?_;simp only[go_sem,hz3,hz4,hne])
 |(refine ah.one (EH (g:=(bj g b).1) (tG hgr)) (by kernel_rfl) rfl ?_;simp only[go_sem,hz3,hz4,hne])
 |(refine ah.one (Hr (g:=(bj g b).1) (tG hgr)) (by kernel_rfl) rfl ?_;simp only[go_sem,hz3,hz4,hne])
 |(refine ah.one (Vw g (mF hgr)) (by kernel_rfl) rfl ?_;simp only[go_sem,hz3,hz4,hne])
 |(refine ah.one (OR g (mF hgr) (yv hgr)) (by kernel_rfl) rfl ?_;simp only[go_sem,hz3,hz4,hne])
 |(refine ah.one (OS hgr) (by kernel_rfl) rfl ?_;simp only[go_sem,hz3,hz4,hne])
 |(refine aH.bY (fun h=>?_) (fun h=>?_)<;>simp only[h,go_sem,hz3,hz4,hne]<;>(try simp only[dD] at h))
 |(refine aG.bA (by assumption) ?_;(try simp only[go_sem,hz3,hz4,hne]))
 |((first|refine aG.nth ?_ (fun b hb=>?_)|with_reducible refine And.intro ?_ ?_);(focus(first|omega|(simp;done)));(try simp only[hb,go_sem,hz3,hz4,hne]))
 |exact rfl
 |(
  refine aa.here 9 47 4 rfl ?_
  refine aa.b6 (ι:=Nat×Gt) [47,48,49,50,51,52,53,54,55,56,57,58,59,60,61] (fun⟨i,g⟩=>[(11,i64 i)]) (fun⟨i,g⟩=>[some [aL g]]) (fun⟨i,g⟩=>[]) (fun⟨i,g⟩=>i≤lims.length∧bf g=true) (fun⟨i,g⟩=>lims.length-i) ((0,(kC (z1%4+1) z2).1)) ?_ ?_ ?_
  ·(try simp only[go_sem]);(repeat'(exact .inr (aM rfl)));done
  ·exact⟨by omega,hnr⟩
  rintro⟨i,g⟩ ⟨g1,hgr⟩
  simp only[go_sem,hz3,hz4,hne])
 |(
  refine aa.here 14 63 4 rfl ?_
  refine aa.b6 (ι:=Nat×Gt) [8,14,15,16,17,18,19,63,64,65,66,67,68,69,70,71,72,73,74,75,76,77,78,79,80,81,82,83,84,85,86,87,88,89,90,91,92,93,94,95,96,97,98,99,100,101,102,103,104,105,106,107,108,109,110,111,112,113,114,115] (fun⟨i,g⟩=>[(13,i64 i)]) (fun⟨i,g⟩=>[some [aL g],some [aL g]]) (fun⟨i,g⟩=>[]) (fun⟨i,g⟩=>i≤l.length∧bf g=true) (fun⟨i,g⟩=>l.length-i) ((0,g)) ?_ ?_ ?_
  ·(try simp only[go_sem]);(repeat'(exact .inr (aM rfl)));done
  ·exact⟨by omega,hgr⟩
  rintro⟨i,g⟩ ⟨g1,hgr⟩
  simp only[go_sem,hz3,hz4,hne])
 |(
  refine⟨(i+1,(eT g b).1),?_,?_,?_⟩
  ·(try simp only[go_sem]);(try rw[aq (by omega) (by omega)]);(repeat'(first|refine And.intro ?_ ?_|exact .inr rfl|exact .inr (aM rfl)));done
  ·exact⟨by show i+1≤lims.length;omega,BW hgr⟩
  ·(try simp only[]);omega)
 |(
  refine⟨(i+1,(bj g b).1),?_,?_,?_⟩
  ·(try simp only[go_sem]);(try rw[aq (by omega) (by omega)]);(repeat'(first|refine And.intro ?_ ?_|exact .inr rfl|exact .inr (aM rfl)));done
  ·exact⟨by show i+1≤l.length;omega,tG hgr⟩
  ·(try simp only[]);omega)
 |(
  refine aa.ret ?_
  refine az.is ?_;simp only[go_sem,aB,aE,aF,aA,aC,aD]<;>(first|fail))
 |refine aa.fin (by assumption) ?_)
end Go.Proofs.YtajeeghgiilhiaaGreat
end
