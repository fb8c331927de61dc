/- (RwBase, RwBook, RwGate) -/
import Derived.Test.YtajeeghgiilhiaaGreatRows
import Derived.Test.YtajeeghgiilhiaaGreatKwI
import Derived.Test.YtajeeghgiilhiaaGreatKwD
import Derived.ProofKit
import Derived.LaidMore
import Derived.OpenShut
import Derived.Stop.Joined
import Derived.HandedShaped
import Derived.Lib.SmallJoins
import Derived.Test.YtajeeghgiilhiaaGreatKwP
import Derived.Test.YtajeeghgiilhiaaGreatKwR
set_option linter.unusedVariables false
set_option linter.unusedSimpArgs false
set_option maxHeartbeats 16000000
set_option maxRecDepth 8000
section
namespace Go.Proofs.YtajeeghgiilhiaaGreat
open Go.ChangeShapes Go.WideShapes Go.ChangeAt Go.RowKit Go.Joins Go.Abs Go.Bk
section
variable{H:Type}{enc:TypeId×Value→H}
variable{w:World}{r:Reach}{b0 base:Nat}{spare:Nat→Bool}{held:Bool}{v:Value}{d:DataW H}{ps:List MemPlace}
theorem rY{α:Type}{f:α→AV}{Q:α→Prop}:∀{es:List AV},(∀y∈es,∃b,Q b∧y=f b)→∃L:List α,es=L.map f∧∀b∈L,Q b
 |[],_=>⟨[],rfl,by simp⟩
 |e::es,h=>by
  obtain⟨b,hb,rfl⟩:=h e (List.mem_cons_self ..)
  obtain⟨L,rfl,hL⟩:=rY (es:=es) fun y hy=>h y (List.mem_cons_of_mem _ hy)
  exact⟨b::L,rfl,fun x hx=>by rcases List.mem_cons.1 hx with rfl|hx;exact hb;exact hL x hx⟩
theorem U5:Tryz.prog.cellsOf 69=10:=by kernel_rfl
theorem c5:Tryz.prog.cellsOf 5=1:=by kernel_rfl
end
theorem own:ownKnob Tryz.prog.godebug=none:=by kernel_rfl
theorem laidOut:laidOutB Tryz.prog=true:=by kernel_rfl
section
variable{H:Type}{enc:TypeId×Value→H}
variable{w:World}{r:Reach}{b0 base:Nat}{spare:Nat→Bool}{held:Bool}{v:Value}{d:DataW H}{ps:List MemPlace}
theorem Fc:Tryz.prog.cellsOf 65=8:=by kernel_rfl
theorem c4:Tryz.prog.cellsOf 4=1:=by kernel_rfl
end
theorem oP{n:Int}(h:(Lit.int .u8 n).wf=true):0≤n∧n<256:=by
 simp only[Lit.wf,Bool.and_eq_true,decide_eq_true_eq] at h
 simp only[IntKind.min,IntKind.max,IntKind.bits,IntKind.signed] at h
 simp at h
 omega
section
variable{H:Type}{enc:TypeId×Value→H}
variable{w:World}{r:Reach}{b0 base:Nat}{spare:Nat→Bool}{held:Bool}{v:Value}{d:DataW H}{ps:List MemPlace}
theorem s8:Tryz.prog.cellsOf 63=6:=by kernel_rfl
theorem zN:Tryz.prog.cellsOf 77=29:=by kernel_rfl
set_option maxRecDepth 100000 in
theorem zd(hv:Value.okWide Tryz.prog w r b0 5 v)(hd:DataW.Trod enc Tryz.prog w base spare held 5 v d ps):∃z:Int,(0≤z∧z<256)∧a8 (gF w) (.v (.int .u8 z)) v:=by
 obtain⟨n,hn,hx⟩:=EA Tryz.underlying5 hv hd
 exact⟨n,oP hn,hx⟩
set_option maxRecDepth 100000 in
theorem Ha(hv:Value.okWide Tryz.prog w r b0 56 v)(hd:DataW.Trod enc Tryz.prog w base spare held 56 v d ps):∃l:List Lm,l.length≤9223372036854775807∧a8 (gF w) (bL l) v:=by
 obtain⟨x,hx,h⟩:=B4 true Tryz.underlying56 s8 (by decide) (fun h=>by cases h) (o4 Tryz.underlying63 rfl s8 (cM (iA Tryz.underlying9) (by kernel_rfl) rfl (cM (iA Tryz.underlying9) (by kernel_rfl) rfl (cM (fi Tryz.underlying2) (by kernel_rfl) rfl (cM (fi Tryz.underlying2) (by kernel_rfl) rfl (cM (fi Tryz.underlying2) (by kernel_rfl) rfl (cM (fi Tryz.underlying2) (by kernel_rfl) rfl (pw 6)))))))) hv hd
 rcases h with rfl|⟨es,h1,h2,rfl⟩
 ·cases hx;exact⟨[],by simp,.de 6 none 0⟩
 ·obtain⟨L,rfl,hL⟩:=rY (f:=bd) (Q:=fun _=>True) (es:=es) (fun y hy=>by
   obtain⟨l,h,rfl⟩:=h2 y hy
   obtain⟨_,_,⟨s0,_,rfl⟩,⟨_,_,⟨s1,_,rfl⟩,⟨_,_,⟨n2,_,rfl⟩,⟨_,_,⟨n3,_,rfl⟩,⟨_,_,⟨n4,_,rfl⟩,⟨_,_,⟨n5,_,rfl⟩,rfl,rfl⟩,rfl⟩,rfl⟩,rfl⟩,rfl⟩,rfl⟩:=h
   exact⟨⟨s0,s1,n2,n3,n4,n5⟩,trivial,rfl⟩)
  exact⟨L,by unfold maxLen at h1;simpa using h1,hx⟩
end
end Go.Proofs.YtajeeghgiilhiaaGreat
end
