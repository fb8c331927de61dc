/- Texts of one chain, put together (RwKRawa). -/
import Derived.Test.YthoonfpkfdjhiaaGreatDoorKcK
import Derived.Test.YthoonfpkfdjhiaaGreatDoorKcQ
import Derived.Test.YthoonfpkfdjhiaaGreatDoorKcA
set_option linter.unusedVariables false
set_option linter.unusedSimpArgs false
set_option maxHeartbeats 16000000
set_option maxRecDepth 8000
section
namespace Go.Proofs.YthoonfpkfdjhiaaGreatDoor
open Go.ChangeShapes Go.WideShapes Go.ChangeAt Go.RowKit Go.Joins Go.az Go.Fld Go.Msg Go.Txt
set_option maxRecDepth 100000 in
theorem keepRaw_lifted(os:Os)(started:os.Started)(H:Type)(enc:TypeId×Value→H):
 ReturnsInHanded {} Tryz.checked os 5 .any (fun w args=>(Rows.keepRawSpec.pre enc Tryz.prog Tryz.f5 [] false w args∧laidMetH Tryz.prog nS w)∧sizedMet enc Tryz.prog Tryz.f5 (OpenSpec.ofChange Rows.keepRawSpec) false w args) (Rows.keepRawSpec.post enc Tryz.prog Tryz.f5 false true false false):=by
 refine WX (C:=Tryz.checked) (X:=fun w _=>laidMetH Tryz.prog nS w) (fun _ _ _ hh h=>h.of_heap hh) own started ae Tryz.func5
  (ChangeSpec.witness_shaped (enc:=enc) (C:=Tryz.checked) (os:=os) (X:=fun w _=>laidMetH Tryz.prog nS w) false (World.laidAll Tryz.prog os nS) #[.int .i64 0,.int .i64 0,.agg #[.slice none 0 0,.slice none 0 0,.slice none 0 0,.slice none 0 0]] 8 (World.laidAll_os _ _ _) (World.shaped_of_ZipB ae ae) ae ae ae (LY os _)) ?_
 intro W base args ds gs before hval0 hW hsh hL
 have hval:∀(j:Nat) t v,Tryz.f5.params[j]?=some t→args[j]?=some v→Value.okWide Tryz.prog W .any base t v:=hval0
 have hW':=hW
 obtain⟨p,q,hA0,hV,rfl,hfz,hnd⟩:=hW
 have hA:DataW.TrodAll enc Tryz.prog W 0 (fun _=>true) true Tryz.f5.params.toList args.toList ds p:=hA0
 rw[Tryz.params5] at hA hval
 obtain⟨rfl,rfl⟩:=trodVars_none hV
 obtain⟨v0,vs0,d0,ds0,p0,q0,e0,rfl,rfl,h0,hA⟩:=trodAll_cons hA
 obtain⟨v1,vs1,d1,ds1,p1,q1,rfl,rfl,rfl,h1,hA⟩:=trodAll_cons hA
 obtain⟨v2,vs2,d2,ds2,p2,q2,rfl,rfl,rfl,h2,hA⟩:=trodAll_cons hA
 obtain⟨rfl,rfl,rfl⟩:=trodAll_nil hA
 have hargs:args= #[v0,v1,v2]:=by apply Array.ext';simpa using e0
 subst hargs
 obtain⟨v,hv,x0⟩:=xH Tryz.underlying3 (hval 0 3 v0 rfl rfl) h0
 simp only[Lit.wf,Bool.and_eq_true,decide_eq_true_eq,IntKind.min,IntKind.max,IntKind.bits,IntKind.signed] at hv;simp at hv
 obtain⟨p,hp,x1⟩:=xH Tryz.underlying2 (hval 1 2 v1 rfl rfl) h1
 simp only[Lit.wf,Bool.and_eq_true,decide_eq_true_eq,IntKind.min,IntKind.max,IntKind.bits,IntKind.signed] at hp;simp at hp
 obtain⟨d,x2⟩:=D9 (hval 2 49 v2 rfl rfl) h2
 exact(FX (E:=E) (U6 hL hsh) (fun _ _ e=>by cases e) (Rm v p d) (we x0 (we x1 (we x2 V5)))).mono fun e W' ⟨he,hB⟩=>⟨_,he,R3 laidOut ae rfl rfl Tryz.underlying4 hW' hB rfl⟩
end Go.Proofs.YthoonfpkfdjhiaaGreatDoor
end
