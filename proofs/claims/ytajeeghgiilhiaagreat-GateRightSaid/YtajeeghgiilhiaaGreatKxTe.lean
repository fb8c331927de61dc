/- (RwBase, RwBook, RwGate) -/
import Derived.Test.YtajeeghgiilhiaaGreatRows
import Derived.Test.YtajeeghgiilhiaaGreatKxI
import Derived.Test.YtajeeghgiilhiaaGreatKxD
import Derived.ProofKit
import Derived.LaidMore
import Derived.OpenShut
import Derived.Stop.Joined
import Derived.HandedShaped
import Derived.Lib.SmallJoins
import Derived.Test.YtajeeghgiilhiaaGreatKxP
import Derived.Test.YtajeeghgiilhiaaGreatKxR
import Derived.Test.YtajeeghgiilhiaaGreatKxA
set_option linter.unusedVariables false
set_option linter.unusedSimpArgs false
set_option maxHeartbeats 16000000
set_option maxRecDepth 8000
section
namespace Go.Proofs.YtajeeghgiilhiaaGreat
open Go.ChangeShapes Go.WideShapes Go.ChangeAt Go.RowKit Go.Joins Go.Abs Go.Bk
section
variable{H:Type}{enc:TypeId×Value→H}
variable{w:World}{r:Reach}{b0 base:Nat}{spare:Nat→Bool}{held:Bool}{v:Value}{d:DataW H}{ps:List MemPlace}
theorem uL{α:Type}{f:α→AV}{Q:α→Prop}:∀{es:List AV},(∀y∈es,∃b,Q b∧y=f b)→∃L:List α,es=L.map f∧∀b∈L,Q b
 |[],_=>⟨[],rfl,by simp⟩
 |e::es,h=>by
  obtain⟨b,hb,rfl⟩:=h e (List.mem_cons_self ..)
  obtain⟨L,rfl,hL⟩:=uL (es:=es) fun y hy=>h y (List.mem_cons_of_mem _ hy)
  exact⟨b::L,rfl,fun x hx=>by rcases List.mem_cons.1 hx with rfl|hx;exact hb;exact hL x hx⟩
theorem KB:Tryz.prog.cellsOf 69=10:=by kernel_rfl
theorem c5:Tryz.prog.cellsOf 5=1:=by kernel_rfl
end
theorem own:ownKnob Tryz.prog.godebug=none:=by kernel_rfl
theorem laidOut:laidOutB Tryz.prog=true:=by kernel_rfl
theorem aX.FC{im:Im}{cs cs':List AV}{v:Value}(hl:cs.length=cs'.length)(h:∀(i:Nat) (c c':AV) (u:Value),cs[i]?=some c→cs'[i]?=some c'→aX im c u→aX im c' u)(hv:aX im (.agg cs) v):aX im (.agg cs') v:=by
 cases hv with
 |agg _ vs hn hh=>
  refine .agg cs' vs (by rw[hn,hl]) fun i c u h1 h2=>?_
  have hi:i<cs.length:=by rw[hl];exact(List.getElem?_eq_some_iff.1 h1).1
  exact h i cs[i] c u aD h1 (hh i cs[i] u aD h2)
section
variable{H:Type}{enc:TypeId×Value→H}
variable{w:World}{r:Reach}{b0 base:Nat}{spare:Nat→Bool}{held:Bool}{v:Value}{d:DataW H}{ps:List MemPlace}
theorem r9:Tryz.prog.cellsOf 65=8:=by kernel_rfl
theorem AO:Tryz.prog.cellsOf 106=9:=by kernel_rfl
theorem c9:Tryz.prog.cellsOf 9=1:=by kernel_rfl
theorem iq:Tryz.prog.cellsOf 26=5:=by kernel_rfl
theorem sI{α:Type}{f:α→AV}{k:Nat}{S:List AV→Prop}{ag:Bool}(hf:∀l,S l→∃a:α,jr ag l=f a){ls:List AV}(h:ls=[.aQ]∨∃es:List AV,es.length≤maxLen∧(∀x∈es,∃l,S l∧x=jr ag l)∧ls=[.sl none k es]):
 ∃l:List α,l.length≤9223372036854775807∧∃y,ls=[y]∧∀im v,aX im y v→aX im (.sl none k (l.map f)) v:=by
 rcases h with rfl|⟨es,h1,h2,rfl⟩
 ·exact⟨[],by simp,_,rfl,fun im v hv=>aX.of_nil hv⟩
 ·obtain⟨L,rfl,_⟩:=uL (f:=f) (Q:=fun _=>True) (es:=es) (fun y hy=>by
   obtain⟨l,hl,rfl⟩:=h2 y hy
   obtain⟨a,ha⟩:=hf l hl
   exact⟨a,trivial,ha⟩)
  exact⟨L,by unfold maxLen at h1;simpa using h1,_,rfl,fun im v hv=>hv⟩
set_option maxRecDepth 100000 in
theorem A7:Reads enc Tryz.prog 65 8 fun l=>∃a:Od,jr true l=a8 a:=fun w base spare held fuel cs x hx=>by
 obtain⟨ls,⟨_,_,⟨s1,k1,rfl⟩,⟨_,_,⟨s2,k2,rfl⟩,⟨_,_,⟨s3,k3,rfl⟩,⟨_,_,⟨b4,rfl⟩,⟨_,_,⟨n5,k5,rfl⟩,⟨_,_,⟨n6,k6,rfl⟩,⟨_,_,⟨n7,k7,rfl⟩,⟨_,_,⟨b8,rfl⟩,rfl,rfl⟩,rfl⟩,rfl⟩,rfl⟩,rfl⟩,rfl⟩,rfl⟩,rfl⟩,h2,h3⟩:=km Tryz.underlying65 rfl r9 (bE (eQ Tryz.underlying9) af rfl (bE (eQ Tryz.underlying9) af rfl (bE (eQ Tryz.underlying9) af rfl (bE (ka Tryz.underlying4) af rfl (bE (dK Tryz.underlying2) af rfl (bE (dK Tryz.underlying2) af rfl (bE (dK Tryz.underlying2) af rfl (bE (ka Tryz.underlying4) af rfl (kM 8))))))))) w base spare held fuel cs x hx
 exact⟨_,⟨⟨s1,s2,s3,b4,n5,n6,n7,b8⟩,rfl⟩,h2,h3⟩
set_option maxRecDepth 100000 in
theorem DT:Reads enc Tryz.prog 106 9 fun l=>∃a:Dn,jr true l=bY a:=fun w base spare held fuel cs x hx=>by
 obtain⟨ls,⟨_,_,⟨s1,k1,rfl⟩,⟨_,_,⟨s2,k2,rfl⟩,⟨_,_,⟨s3,k3,rfl⟩,⟨_,_,⟨s4,k4,rfl⟩,⟨_,_,⟨b5,rfl⟩,⟨_,_,⟨n6,k6,rfl⟩,⟨_,_,⟨n7,k7,rfl⟩,⟨_,_,⟨n8,k8,rfl⟩,⟨_,_,⟨b9,rfl⟩,rfl,rfl⟩,rfl⟩,rfl⟩,rfl⟩,rfl⟩,rfl⟩,rfl⟩,rfl⟩,rfl⟩,h2,h3⟩:=km Tryz.underlying106 rfl AO (bE (eQ Tryz.underlying9) af rfl (bE (eQ Tryz.underlying9) af rfl (bE (eQ Tryz.underlying9) af rfl (bE (eQ Tryz.underlying9) af rfl (bE (ka Tryz.underlying4) af rfl (bE (dK Tryz.underlying2) af rfl (bE (dK Tryz.underlying2) af rfl (bE (dK Tryz.underlying2) af rfl (bE (ka Tryz.underlying4) af rfl (kM 9)))))))))) w base spare held fuel cs x hx
 exact⟨_,⟨⟨s1,s2,s3,s4,b5,n6,n7,n8,b9⟩,rfl⟩,h2,h3⟩
theorem c4:Tryz.prog.cellsOf 4=1:=by kernel_rfl
end
theorem rl{n:Int}(h:(Lit.int .u8 n).wf=true):0≤n∧n<256:=by
 simp only[Lit.wf,Bool.and_eq_true,decide_eq_true_eq] at h
 simp only[IntKind.min,IntKind.max,IntKind.bits,IntKind.signed] at h
 simp at h
 omega
section
variable{H:Type}{enc:TypeId×Value→H}
variable{w:World}{r:Reach}{b0 base:Nat}{spare:Nat→Bool}{held:Bool}{v:Value}{d:DataW H}{ps:List MemPlace}
theorem s5:Tryz.prog.cellsOf 63=6:=by kernel_rfl
theorem Tm:Tryz.prog.cellsOf 77=29:=by kernel_rfl
end
end Go.Proofs.YtajeeghgiilhiaaGreat
end
