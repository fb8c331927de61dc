/- (RwGatx) -/
import Derived.Test.YtajeeghgiilhiaaGreatKxTe
import Derived.Test.YtajeeghgiilhiaaGreatKxTc
import Derived.Test.YtajeeghgiilhiaaGreatKxA
set_option linter.unusedVariables false
set_option linter.unusedSimpArgs false
set_option maxHeartbeats 16000000
set_option maxRecDepth 8000
section
namespace Go.Proofs.YtajeeghgiilhiaaGreat
open Go.ChangeShapes Go.WideShapes Go.ChangeAt Go.RowKit Go.Joins Go.Abs Go.Bk
section
variable{H:Type}{enc:TypeId×Value→H}
variable{w:World}{r:Reach}{b0 base:Nat}{spare:Nat→Bool}{held:Bool}{v:Value}{d:DataW H}{ps:List MemPlace}
set_option maxRecDepth 100000 in
theorem FV(hv:Value.okWide Tryz.prog w r b0 77 v)(hd:DataW.Trod enc Tryz.prog w base spare held 77 v d ps):∃a:Ac,iR a∧aX (gm w) (dA a) v:=by
 obtain⟨ls,h,hx⟩:=zx Tryz.underlying77 (km Tryz.underlying77 rfl Tm (bE (dK Tryz.underlying5) af rfl (bE (dK Tryz.underlying3) af rfl (bE (km Tryz.underlying65 rfl r9 (bE (eQ Tryz.underlying9) af rfl (bE (eQ Tryz.underlying9) af rfl (bE (eQ Tryz.underlying9) af rfl (bE (ka Tryz.underlying4) af rfl (bE (dK Tryz.underlying2) af rfl (bE (dK Tryz.underlying2) af rfl (bE (dK Tryz.underlying2) af rfl (bE (ka Tryz.underlying4) af rfl (kM 8)))))))))) af rfl (bE (eQ Tryz.underlying9) af rfl (bE (km Tryz.underlying69 rfl KB (bE (eQ Tryz.underlying9) af rfl (bE (eQ Tryz.underlying9) af rfl (bE (eQ Tryz.underlying9) af rfl (bE (eQ Tryz.underlying9) af rfl (bE (eQ Tryz.underlying9) af rfl (bE (dK Tryz.underlying3) af rfl (bE (ka Tryz.underlying4) af rfl (bE (dK Tryz.underlying2) af rfl (bE (dK Tryz.underlying2) af rfl (bE (dK Tryz.underlying2) af rfl (kM 10)))))))))))) af rfl (bE (dK Tryz.underlying5) af rfl (bE (ka Tryz.underlying4) af rfl (bE (km Tryz.underlying63 rfl s5 (bE (eQ Tryz.underlying9) af rfl (bE (eQ Tryz.underlying9) af rfl (bE (dK Tryz.underlying2) af rfl (bE (dK Tryz.underlying2) af rfl (bE (dK Tryz.underlying2) af rfl (bE (dK Tryz.underlying2) af rfl (kM 6)))))))) af rfl (kM 29)))))))))) hv hd
 obtain⟨_,_,⟨n0,k0,rfl⟩,⟨_,_,⟨n1,_,rfl⟩,⟨_,_,⟨_,_,⟨s2,k2,rfl⟩,⟨_,_,⟨s3,k3,rfl⟩,⟨_,_,⟨s4,k4,rfl⟩,⟨_,_,⟨b5,rfl⟩,⟨_,_,⟨n6,_,rfl⟩,⟨_,_,⟨n7,_,rfl⟩,⟨_,_,⟨n8,_,rfl⟩,⟨_,_,⟨b9,rfl⟩,rfl,rfl⟩,rfl⟩,rfl⟩,rfl⟩,rfl⟩,rfl⟩,rfl⟩,rfl⟩,⟨_,_,⟨s10,k10,rfl⟩,⟨_,_,⟨_,_,⟨s11,k11,rfl⟩,⟨_,_,⟨s12,k12,rfl⟩,⟨_,_,⟨s13,k13,rfl⟩,⟨_,_,⟨s14,k14,rfl⟩,⟨_,_,⟨s15,k15,rfl⟩,⟨_,_,⟨n16,_,rfl⟩,⟨_,_,⟨b17,rfl⟩,⟨_,_,⟨n18,_,rfl⟩,⟨_,_,⟨n19,_,rfl⟩,⟨_,_,⟨n20,_,rfl⟩,rfl,rfl⟩,rfl⟩,rfl⟩,rfl⟩,rfl⟩,rfl⟩,rfl⟩,rfl⟩,rfl⟩,rfl⟩,⟨_,_,⟨n21,k21,rfl⟩,⟨_,_,⟨b22,rfl⟩,⟨_,_,⟨_,_,⟨s23,k23,rfl⟩,⟨_,_,⟨s24,k24,rfl⟩,⟨_,_,⟨n25,_,rfl⟩,⟨_,_,⟨n26,_,rfl⟩,⟨_,_,⟨n27,_,rfl⟩,⟨_,_,⟨n28,_,rfl⟩,rfl,rfl⟩,rfl⟩,rfl⟩,rfl⟩,rfl⟩,rfl⟩,rfl,rfl⟩,rfl⟩,rfl⟩,rfl⟩,rfl⟩,rfl⟩,rfl⟩,rfl⟩:=h
 unfold maxLen at k2 k3 k4 k10 k11 k12 k13 k14 k15 k23 k24
 exact⟨⟨n0,n1,⟨s2,s3,s4,b5,n6,n7,n8,b9⟩,s10,⟨s11,s12,s13,s14,s15,n16,b17,n18,n19,n20⟩,n21,b22,⟨s23,s24,n25,n26,n27,n28⟩⟩,⟨⟨(rl k0).1,(rl k0).2,(rl k21).1,(rl k21).2⟩,⟨k11,k12,k13,k14,k15⟩,k23,k24⟩,hx⟩
end
end Go.Proofs.YtajeeghgiilhiaaGreat
end
