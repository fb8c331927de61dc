/- GatePlays: from a new gate on, whatever is asked and told, act by act, it is, and answers, what the document says: the law answers true for every input. No condition. -/
import Derived.Test.YtajeeghgiilhiaaGreatKwTc
import Derived.Test.YtajeeghgiilhiaaGreatKwTb
set_option linter.unusedVariables false
set_option linter.unusedSimpArgs false
set_option linter.unusedSectionVars false
set_option maxHeartbeats 16000000
set_option maxRecDepth 8000
section
namespace Go.Proofs.YtajeeghgiilhiaaGreat
open Go.ChangeShapes Go.WideShapes Go.ChangeAt Go.RowKit Go.Joins Go.Abs Go.Bk
section
variable{H:Type}{enc:TypeId×Value→H}
variable{w:World}{r:Reach}{b0 base:Nat}{spare:Nat→Bool}{held:Bool}{v:Value}{d:DataW H}{ps:List MemPlace}
set_option maxRecDepth 100000 in
theorem Pg(hv:Value.okWide Tryz.prog w r b0 73 v)(hd:DataW.Trod enc Tryz.prog w base spare held 73 v d ps):∃l:List Ac,(∀a∈l,pN a)∧a8 (gF w) (Aj l) v:=by
 obtain⟨x,hx,h⟩:=B4 true Tryz.underlying73 zN (by decide) (fun h=>by cases h) (o4 Tryz.underlying77 rfl zN (cM (fi Tryz.underlying5) (by kernel_rfl) rfl (cM (fi Tryz.underlying3) (by kernel_rfl) rfl (cM (o4 Tryz.underlying65 rfl Fc (cM (iA Tryz.underlying9) (by kernel_rfl) rfl (cM (iA Tryz.underlying9) (by kernel_rfl) rfl (cM (iA Tryz.underlying9) (by kernel_rfl) rfl (cM (pM Tryz.underlying4) (by kernel_rfl) rfl (cM (fi Tryz.underlying2) (by kernel_rfl) rfl (cM (fi Tryz.underlying2) (by kernel_rfl) rfl (cM (fi Tryz.underlying2) (by kernel_rfl) rfl (cM (pM Tryz.underlying4) (by kernel_rfl) rfl (pw 8)))))))))) (by kernel_rfl) rfl (cM (iA Tryz.underlying9) (by kernel_rfl) rfl (cM (o4 Tryz.underlying69 rfl U5 (cM (iA Tryz.underlying9) (by kernel_rfl) rfl (cM (iA Tryz.underlying9) (by kernel_rfl) rfl (cM (iA Tryz.underlying9) (by kernel_rfl) rfl (cM (iA Tryz.underlying9) (by kernel_rfl) rfl (cM (iA Tryz.underlying9) (by kernel_rfl) rfl (cM (fi Tryz.underlying3) (by kernel_rfl) rfl (cM (pM Tryz.underlying4) (by kernel_rfl) rfl (cM (fi Tryz.underlying2) (by kernel_rfl) rfl (cM (fi Tryz.underlying2) (by kernel_rfl) rfl (cM (fi Tryz.underlying2) (by kernel_rfl) rfl (pw 10)))))))))))) (by kernel_rfl) rfl (cM (fi Tryz.underlying5) (by kernel_rfl) rfl (cM (pM Tryz.underlying4) (by kernel_rfl) rfl (cM (o4 Tryz.underlying63 rfl s8 (cM (iA Tryz.underlying9) (by kernel_rfl) rfl (cM (iA Tryz.underlying9) (by kernel_rfl) rfl (cM (fi Tryz.underlying2) (by kernel_rfl) rfl (cM (fi Tryz.underlying2) (by kernel_rfl) rfl (cM (fi Tryz.underlying2) (by kernel_rfl) rfl (cM (fi Tryz.underlying2) (by kernel_rfl) rfl (pw 6)))))))) (by kernel_rfl) rfl (pw 29)))))))))) hv hd
 rcases h with rfl|⟨es,h1,h2,rfl⟩
 ·cases hx;exact⟨[],by simp,.de 29 none 0⟩
 ·obtain⟨L,rfl,hL⟩:=rY (f:=eJ) (Q:=pN) (es:=es) (fun y hy=>by
   obtain⟨l,h,rfl⟩:=h2 y hy
   obtain⟨_,_,⟨n0,k0,rfl⟩,⟨_,_,⟨n1,_,rfl⟩,⟨_,_,⟨_,_,⟨s2,k2,rfl⟩,⟨_,_,⟨s3,k3,rfl⟩,⟨_,_,⟨s4,k4,rfl⟩,⟨_,_,⟨b5,rfl⟩,⟨_,_,⟨n6,_,rfl⟩,⟨_,_,⟨n7,_,rfl⟩,⟨_,_,⟨n8,_,rfl⟩,⟨_,_,⟨b9,rfl⟩,rfl,rfl⟩,rfl⟩,rfl⟩,rfl⟩,rfl⟩,rfl⟩,rfl⟩,rfl⟩,⟨_,_,⟨s10,k10,rfl⟩,⟨_,_,⟨_,_,⟨s11,k11,rfl⟩,⟨_,_,⟨s12,k12,rfl⟩,⟨_,_,⟨s13,k13,rfl⟩,⟨_,_,⟨s14,k14,rfl⟩,⟨_,_,⟨s15,k15,rfl⟩,⟨_,_,⟨n16,_,rfl⟩,⟨_,_,⟨b17,rfl⟩,⟨_,_,⟨n18,_,rfl⟩,⟨_,_,⟨n19,_,rfl⟩,⟨_,_,⟨n20,_,rfl⟩,rfl,rfl⟩,rfl⟩,rfl⟩,rfl⟩,rfl⟩,rfl⟩,rfl⟩,rfl⟩,rfl⟩,rfl⟩,⟨_,_,⟨n21,k21,rfl⟩,⟨_,_,⟨b22,rfl⟩,⟨_,_,⟨_,_,⟨s23,k23,rfl⟩,⟨_,_,⟨s24,k24,rfl⟩,⟨_,_,⟨n25,_,rfl⟩,⟨_,_,⟨n26,_,rfl⟩,⟨_,_,⟨n27,_,rfl⟩,⟨_,_,⟨n28,_,rfl⟩,rfl,rfl⟩,rfl⟩,rfl⟩,rfl⟩,rfl⟩,rfl⟩,rfl,rfl⟩,rfl⟩,rfl⟩,rfl⟩,rfl⟩,rfl⟩,rfl⟩,rfl⟩:=h
   unfold maxLen at k2 k3 k4 k10 k11 k12 k13 k14 k15 k23 k24
   exact⟨⟨n0,n1,⟨s2,s3,s4,b5,n6,n7,n8,b9⟩,s10,⟨s11,s12,s13,s14,s15,n16,b17,n18,n19,n20⟩,n21,b22,⟨s23,s24,n25,n26,n27,n28⟩⟩,⟨⟨(oP k0).1,(oP k0).2,(oP k21).1,(oP k21).2⟩,⟨k11,k12,k13,k14,k15⟩,k23,k24⟩,rfl⟩)
  exact⟨L,hL,hx⟩
end
set_option maxRecDepth 100000 in
theorem J1(os:Os)(started:os.Started)(H:Type)(enc:TypeId×Value→H):
 ReturnsInHanded {} Tryz.checked os 8 .any (Rows.gatePlaysSpec.pre6 enc Tryz.prog Tryz.f8 Rows.gatePlaysRow.domain false) (Rows.gatePlaysSpec.post enc Tryz.prog Tryz.f8 false true false false):=by
 refine returnsInHanded_of_change (C:=Tryz.checked) own started (by kernel_rfl) Tryz.func8
  (ChangeSpec.witness6 (enc:=enc) (C:=Tryz.checked) false ⟨#[],#[.int .u8 0,.int .u8 0,.slice none 0 0,.slice none 0 0],[]⟩ 8 (by kernel_rfl) (by kernel_rfl) (by kernel_rfl) (by kernel_rfl)) ?_
 intro W base args ds gs before hval0 hW hcnd _
 have hval:∀(j:Nat) t v,Tryz.f8.params[j]?=some t→args[j]?=some v→Value.okWide Tryz.prog W .any base t v:=hval0
 have hW':=hW
 obtain⟨p,q,hA0,hV,rfl,hfz,hnd⟩:=hW
 have hA:DataW.TrodAll enc Tryz.prog W 0 (fun _=>true) true Tryz.f8.params.toList args.toList ds p:=hA0
 rw[Tryz.params8] at hA hval
 obtain⟨rfl,rfl⟩:=trodVars_none hV
 obtain⟨v0,vs0,d0,ds0,p0,q0,e0,rfl,rfl,h0,hA⟩:=trodAll_cons hA
 obtain⟨v1,vd,d1,ds1,p1,q1,rfl,rfl,rfl,h1,hA⟩:=trodAll_cons hA
 obtain⟨v2,vs2,d2,ds2,p2,q2,rfl,rfl,rfl,h2,hA⟩:=trodAll_cons hA
 obtain⟨v3,vs3,d3,ds3,p3,q3,rfl,rfl,rfl,h3,hA⟩:=trodAll_cons hA
 obtain⟨rfl,rfl,rfl⟩:=trodAll_nil hA
 have hargs:args= #[v0,v1,v2,v3]:=by apply Array.ext';simpa using e0
 subst hargs
 obtain⟨z1,hz1,x0⟩:=zd (hval 0 5 v0 rfl rfl) h0
 obtain⟨z2,hz2,x1⟩:=zd (hval 1 5 v1 rfl rfl) h1
 obtain⟨lims,hlims,x2⟩:=Ha (hval 2 56 v2 rfl rfl) h2
 obtain⟨l,hl,x3⟩:=Pg (hval 3 73 v3 rfl rfl) h3
 exact(Gv (E:=E) trivial (fun g cs e=>by simp[E] at e) (F3 z1 z2 lims l hz1 hz2 hl) (qe x0 (qe x1 (qe x2 (qe x3 Gx))))).mono fun e W' ⟨he,hB⟩=>⟨_,he,JL laidOut (by kernel_rfl) rfl rfl Tryz.underlying4 hW' hB rfl⟩
set_option maxRecDepth 100000 in
theorem gatePlays_holds:Rows.GatePlaysSaid:=
 OpenClaim.holds_of_wide 8 Tryz.f8 rfl rfl rfl rfl rfl rfl rfl ⟨rfl,rfl,rfl,rfl,rfl⟩ rfl rfl rfl rfl rfl (by kernel_rfl) Tryz.func8 (by kernel_rfl)
  (of_decide_eq_true (by kernel_rfl)) (by unfold Func.isWrapper;first|(rw[if_pos (by decide +kernel)];kernel_rfl)|(rw[if_neg (by decide +kernel)];exact⟨rfl,rfl⟩))
  (fun os started H enc _=>J1 os started H enc)
end Go.Proofs.YtajeeghgiilhiaaGreat
end
