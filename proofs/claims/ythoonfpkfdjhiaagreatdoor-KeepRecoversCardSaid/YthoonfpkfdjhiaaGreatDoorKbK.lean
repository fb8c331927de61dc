/- Texts of one chain, put together (Rd, Shelf2, ShelfM, N13, D1, D2, D3, J1, J2, J2b, J3, BN0, BN1, BN2). -/
import Derived.Test.YthoonfpkfdjhiaaGreatDoorKbJ
import Derived.Test.YthoonfpkfdjhiaaGreatDoorKbH
import Derived.Shelf.Small.Strs
import Derived.Shelf.Small.Wraps
import Derived.Shelf.Strconv.Itoa0
import Derived.Shelf.Strconv.Itoa1
import Derived.Shelf.LaysM
import Derived.Shelf.Strconv.Itoa2
import Derived.Shelf.Strconv.Itoa3
import Derived.Shelf.Strconv.Itoa4
import Derived.Ground.MpProg
import Derived.Shelf.Pu.ParseUintPublic10
import Derived.Shelf.Pu.ErrVarParseUint
import Derived.Shelf.Strings.Search1
import Derived.Shelf.Strings.Search2
import Derived.Shelf.Strings.Cut
import Derived.Shelf.Strings.Shaped
import Derived.Shelf.Strings.Prefix
import Derived.Shelf.Bytes.SlIndexAt
import Derived.Shelf.Bytes.Small
import Derived.Shelf.Bytes.IndexByte
import Derived.Test.YthoonfpkfdjhiaaGreatDoorKbG
import Derived.Test.YthoonfpkfdjhiaaGreatDoorRows
import Derived.ProofKit
import Derived.LaidMore
import Derived.OpenShut
import Derived.Stop.Joined
import Derived.HandedShaped
import Derived.Lib.SmallJoins
import Derived.Lay
import Derived.Test.YthoonfpkfdjhiaaGreatDoorKbD
import Derived.Test.YthoonfpkfdjhiaaGreatDoorKbF
import Derived.Test.YthoonfpkfdjhiaaGreatDoorKbA
set_option linter.unusedVariables false
set_option linter.unusedSimpArgs false
set_option maxHeartbeats 16000000
set_option maxRecDepth 8000
section
namespace Go.Proofs.YthoonfpkfdjhiaaGreatDoor
open Go Go.RowKit Go.Bk Go.az Go.Fld Go.Msg Go.Txt
section
variable{H:Type}{enc:TypeId×Value→H}
variable{w:World}{r:Reach}{b0 base:Nat}{spare:Nat→Bool}{held:Bool}{v:Value}{d:DataW H}{ps:List MemPlace}
theorem vI{α:Type}{f:α→AV}{Q:α→Prop}:∀{es:List AV},(∀y∈es,∃b,Q b∧y=f b)→∃L:List α,es=L.map f∧∀b∈L,Q b
 |[],_=>⟨[],rfl,by simp⟩
 |e::es,h=>by
  obtain⟨b,hb,rfl⟩:=h e (List.mem_cons_self ..)
  obtain⟨L,rfl,hL⟩:=vI (es:=es) fun y hy=>h y (List.mem_cons_of_mem _ hy)
  exact⟨b::L,rfl,fun x hx=>by rcases List.mem_cons.1 hx with rfl|hx;exact hb;exact hL x hx⟩
theorem ye:Tryz.prog.cellsOf 23=8:=by kernel_rfl
theorem o6:Tryz.prog.cellsOf 25=10:=by kernel_rfl
theorem eV:Tryz.prog.cellsOf 27=6:=by kernel_rfl
theorem uK:Tryz.prog.cellsOf 29=29:=by kernel_rfl
set_option maxRecDepth 100000 in
theorem acE(hv:Value.okWide Tryz.prog w r b0 29 v)(hd:DataW.Trod enc Tryz.prog w base spare held 29 v d ps):∃a:Ak,ue a∧aS (eW w) (gq a) v:=by
 obtain⟨ls,h,hx⟩:=Es Tryz.underlying29
  (mZ Tryz.underlying29 rfl uK (bM (dM Tryz.underlying3) ae rfl (bM (dM Tryz.underlying3) ae rfl (bM (mZ Tryz.underlying23 rfl ye (bM (eO Tryz.underlying9) ae rfl (bM (eO Tryz.underlying9) ae rfl (bM (eO Tryz.underlying9) ae rfl (bM (l7 Tryz.underlying4) ae rfl (bM (dM Tryz.underlying2) ae rfl (bM (dM Tryz.underlying2) ae rfl (bM (dM Tryz.underlying2) ae rfl (bM (l7 Tryz.underlying4) ae rfl (mY 8)))))))))) ae rfl (bM (eO Tryz.underlying9) ae rfl (bM (mZ Tryz.underlying25 rfl o6 (bM (eO Tryz.underlying9) ae rfl (bM (eO Tryz.underlying9) ae rfl (bM (eO Tryz.underlying9) ae rfl (bM (eO Tryz.underlying9) ae rfl (bM (eO Tryz.underlying9) ae rfl (bM (dM Tryz.underlying3) ae rfl (bM (l7 Tryz.underlying4) ae rfl (bM (dM Tryz.underlying2) ae rfl (bM (dM Tryz.underlying2) ae rfl (bM (dM Tryz.underlying2) ae rfl (mY 10)))))))))))) ae rfl (bM (dM Tryz.underlying2) ae rfl (bM (l7 Tryz.underlying4) ae rfl (bM (mZ Tryz.underlying27 rfl eV (bM (eO Tryz.underlying9) ae rfl (bM (eO Tryz.underlying9) ae rfl (bM (dM Tryz.underlying2) ae rfl (bM (dM Tryz.underlying2) ae rfl (bM (dM Tryz.underlying2) ae rfl (bM (dM Tryz.underlying2) ae rfl (mY 6)))))))) ae rfl (mY 29)))))))))) hv hd
 obtain⟨_,_,⟨k,_,rfl⟩,⟨_,_,⟨vn,_,rfl⟩,⟨_,_,⟨_,_,⟨s1,hs1,rfl⟩,⟨_,_,⟨s2,hs2,rfl⟩,⟨_,_,⟨s3,hs3,rfl⟩,⟨_,_,⟨b4,rfl⟩,⟨_,_,⟨n5,_,rfl⟩,⟨_,_,⟨n6,_,rfl⟩,⟨_,_,⟨n7,_,rfl⟩,⟨_,_,⟨b8,rfl⟩,rfl,rfl⟩,rfl⟩,rfl⟩,rfl⟩,rfl⟩,rfl⟩,rfl⟩,rfl⟩,⟨_,_,⟨d1,hd1,rfl⟩,⟨_,_,⟨_,_,⟨x1,hx1,rfl⟩,⟨_,_,⟨x2,hx2,rfl⟩,⟨_,_,⟨x3,hx3,rfl⟩,⟨_,_,⟨x4,hx4,rfl⟩,⟨_,_,⟨x5,hx5,rfl⟩,⟨_,_,⟨x6,_,rfl⟩,⟨_,_,⟨x7,rfl⟩,⟨_,_,⟨x8,_,rfl⟩,⟨_,_,⟨x9,_,rfl⟩,⟨_,_,⟨x10,_,rfl⟩,rfl,rfl⟩,rfl⟩,rfl⟩,rfl⟩,rfl⟩,rfl⟩,rfl⟩,rfl⟩,rfl⟩,rfl⟩,⟨_,_,⟨w0,_,rfl⟩,⟨_,_,⟨o,rfl⟩,⟨_,_,⟨_,_,⟨l1,hl1,rfl⟩,⟨_,_,⟨l2,hl2,rfl⟩,⟨_,_,⟨l3,_,rfl⟩,⟨_,_,⟨l4,_,rfl⟩,⟨_,_,⟨l5,_,rfl⟩,⟨_,_,⟨l6,_,rfl⟩,rfl,rfl⟩,rfl⟩,rfl⟩,rfl⟩,rfl⟩,rfl⟩,rfl,rfl⟩,rfl⟩,rfl⟩,rfl⟩,rfl⟩,rfl⟩,rfl⟩,rfl⟩:=h
 unfold maxLen at hs1 hs2 hs3 hd1 hx1 hx2 hx3 hx4 hx5 hl1 hl2
 exact⟨⟨k,vn,⟨s1,s2,s3,b4,n5,n6,n7,b8⟩,d1,⟨x1,x2,x3,x4,x5,x6,x7,x8,x9,x10⟩,w0,o,⟨l1,l2,l3,l4,l5,l6⟩⟩,⟨hs1,hs2,hs3,hd1,hl1,hl2,hx1,hx2,hx3,hx4,hx5⟩,hx⟩
theorem c5:Tryz.prog.cellsOf 5=1:=by kernel_rfl
set_option maxRecDepth 100000 in
theorem acF(hv:Value.okWide Tryz.prog w r b0 30 v)(hd:DataW.Trod enc Tryz.prog w base spare held 30 v d ps):∃l:List UInt8,l.length≤9223372036854775807∧aS (eW w) (aU l) v:=by
 obtain⟨x,hx,h⟩:=uq false Tryz.underlying30 c5 aj (fun _=>rfl) (dM Tryz.underlying5) hv hd
 rcases h with rfl|⟨es,h1,h2,rfl⟩
 ·cases hx;exact⟨[],by simp,.di 1 none 0⟩
 ·obtain⟨L,rfl,_⟩:=vI (f:=u8) (Q:=fun _=>True) (es:=es) (fun y hy=>by
   obtain⟨l,⟨n,hn,rfl⟩,rfl⟩:=h2 y hy
   have hn':0≤n∧n<256:=by
    simp only[Lit.wf,Bool.and_eq_true,decide_eq_true_eq] at hn
    simp only[IntKind.min,IntKind.max,IntKind.bits,IntKind.signed] at hn
    simp at hn
    omega
   refine⟨UInt8.ofNat n.toNat,trivial,?_⟩
   show AV.v (.int .u8 n)=u8 _
   have:((UInt8.ofNat n.toNat).toNat:Int)=n:=by simp;omega
   rw[xd,this])
  exact⟨L,by unfold maxLen at h1;simpa using h1,hx⟩
theorem Cy{α:Type}{f:α→AV}{k:Nat}{S:List AV→Prop}{ag:Bool}{Q:α→Prop}(hf:∀l,S l→∃a:α,Q a∧lI ag l=f a){ls:List AV}(h:ls=[.aw]∨∃es:List AV,es.length≤maxLen∧(∀x∈es,∃l,S l∧x=lI ag l)∧ls=[.sl none k es]):
 ∃l:List α,l.length≤9223372036854775807∧(∀a∈l,Q a)∧∃y,ls=[y]∧∀im v,aS im y v→aS im (.sl none k (l.map f)) v:=by
 rcases h with rfl|⟨es,h1,h2,rfl⟩
 ·exact⟨[],by simp,by simp,_,rfl,fun im v hv=>aS.of_nil hv⟩
 ·obtain⟨L,rfl,hL⟩:=vI (f:=f) (Q:=Q) (es:=es) (fun y hy=>by
   obtain⟨l,hl,rfl⟩:=h2 y hy
   obtain⟨a,hq,ha⟩:=hf l hl
   exact⟨a,hq,ha⟩)
  exact⟨L,by unfold maxLen at h1;simpa using h1,hL,_,rfl,fun im v hv=>hv⟩
theorem aat{n:Int}(h:(Lit.int .u8 n).wf=true):0≤n∧n<256:=by
 simp only[Lit.wf,Bool.and_eq_true,decide_eq_true_eq] at h
 simp only[IntKind.min,IntKind.max,IntKind.bits,IntKind.signed] at h
 simp at h
 omega
set_option maxRecDepth 100000 in
theorem Wu:Reads enc Tryz.prog 29 29 fun l=>∃a:Ak,ue a∧lI true l=gq a:=fun w base spare held fuel cs x hx=>by
 obtain⟨ls,h,h2,h3⟩:=((mZ Tryz.underlying29 rfl uK (bM (dM Tryz.underlying3) ae rfl (bM (dM Tryz.underlying3) ae rfl (bM (mZ Tryz.underlying23 rfl ye (bM (eO Tryz.underlying9) ae rfl (bM (eO Tryz.underlying9) ae rfl (bM (eO Tryz.underlying9) ae rfl (bM (l7 Tryz.underlying4) ae rfl (bM (dM Tryz.underlying2) ae rfl (bM (dM Tryz.underlying2) ae rfl (bM (dM Tryz.underlying2) ae rfl (bM (l7 Tryz.underlying4) ae rfl (mY 8)))))))))) ae rfl (bM (eO Tryz.underlying9) ae rfl (bM (mZ Tryz.underlying25 rfl o6 (bM (eO Tryz.underlying9) ae rfl (bM (eO Tryz.underlying9) ae rfl (bM (eO Tryz.underlying9) ae rfl (bM (eO Tryz.underlying9) ae rfl (bM (eO Tryz.underlying9) ae rfl (bM (dM Tryz.underlying3) ae rfl (bM (l7 Tryz.underlying4) ae rfl (bM (dM Tryz.underlying2) ae rfl (bM (dM Tryz.underlying2) ae rfl (bM (dM Tryz.underlying2) ae rfl (mY 10)))))))))))) ae rfl (bM (dM Tryz.underlying2) ae rfl (bM (l7 Tryz.underlying4) ae rfl (bM (mZ Tryz.underlying27 rfl eV (bM (eO Tryz.underlying9) ae rfl (bM (eO Tryz.underlying9) ae rfl (bM (dM Tryz.underlying2) ae rfl (bM (dM Tryz.underlying2) ae rfl (bM (dM Tryz.underlying2) ae rfl (bM (dM Tryz.underlying2) ae rfl (mY 6)))))))) ae rfl (mY 29))))))))))) w base spare held fuel cs x hx
 obtain⟨_,_,⟨k,_,rfl⟩,⟨_,_,⟨vn,_,rfl⟩,⟨_,_,⟨_,_,⟨s1,hs1,rfl⟩,⟨_,_,⟨s2,hs2,rfl⟩,⟨_,_,⟨s3,hs3,rfl⟩,⟨_,_,⟨b4,rfl⟩,⟨_,_,⟨n5,_,rfl⟩,⟨_,_,⟨n6,_,rfl⟩,⟨_,_,⟨n7,_,rfl⟩,⟨_,_,⟨b8,rfl⟩,rfl,rfl⟩,rfl⟩,rfl⟩,rfl⟩,rfl⟩,rfl⟩,rfl⟩,rfl⟩,⟨_,_,⟨d1,hd1,rfl⟩,⟨_,_,⟨_,_,⟨x1,hx1,rfl⟩,⟨_,_,⟨x2,hx2,rfl⟩,⟨_,_,⟨x3,hx3,rfl⟩,⟨_,_,⟨x4,hx4,rfl⟩,⟨_,_,⟨x5,hx5,rfl⟩,⟨_,_,⟨x6,_,rfl⟩,⟨_,_,⟨x7,rfl⟩,⟨_,_,⟨x8,_,rfl⟩,⟨_,_,⟨x9,_,rfl⟩,⟨_,_,⟨x10,_,rfl⟩,rfl,rfl⟩,rfl⟩,rfl⟩,rfl⟩,rfl⟩,rfl⟩,rfl⟩,rfl⟩,rfl⟩,rfl⟩,⟨_,_,⟨w0,_,rfl⟩,⟨_,_,⟨o,rfl⟩,⟨_,_,⟨_,_,⟨l1,hl1,rfl⟩,⟨_,_,⟨l2,hl2,rfl⟩,⟨_,_,⟨l3,_,rfl⟩,⟨_,_,⟨l4,_,rfl⟩,⟨_,_,⟨l5,_,rfl⟩,⟨_,_,⟨l6,_,rfl⟩,rfl,rfl⟩,rfl⟩,rfl⟩,rfl⟩,rfl⟩,rfl⟩,rfl,rfl⟩,rfl⟩,rfl⟩,rfl⟩,rfl⟩,rfl⟩,rfl⟩,rfl⟩:=h
 unfold maxLen at hs1 hs2 hs3 hd1 hx1 hx2 hx3 hx4 hx5 hl1 hl2
 exact⟨_,⟨⟨k,vn,⟨s1,s2,s3,b4,n5,n6,n7,b8⟩,d1,⟨x1,x2,x3,x4,x5,x6,x7,x8,x9,x10⟩,w0,o,⟨l1,l2,l3,l4,l5,l6⟩⟩,⟨hs1,hs2,hs3,hd1,hl1,hl2,hx1,hx2,hx3,hx4,hx5⟩,rfl⟩,h2,h3⟩
set_option maxRecDepth 100000 in
theorem Ep(hv:Value.okWide Tryz.prog w r b0 42 v)(hd:DataW.Trod enc Tryz.prog w base spare held 42 v d ps):∃l:List Ak,l.length≤9223372036854775807∧aS (eW w) (.sl none 29 (l.map gq)) v:=by
 obtain⟨x,hx,h⟩:=uq true Tryz.underlying42 uK aj (fun h=>by cases h) Wu hv hd
 obtain⟨l,hl,_,y,hy,h2⟩:=Cy (f:=gq) (ls:=[x]) (k:=29) (ag:=true) (Q:=ue) (fun l h=>h) (by
  rcases h with rfl|⟨es,h1,h2,rfl⟩
  ·exact .inl rfl
  ·exact .inr ⟨es,h1,h2,rfl⟩)
 cases hy
 exact⟨l,hl,h2 _ _ hx⟩
theorem c4:Tryz.prog.cellsOf 4=1:=by kernel_rfl
set_option maxRecDepth 100000 in
theorem Er(hv:Value.okWide Tryz.prog w r b0 43 v)(hd:DataW.Trod enc Tryz.prog w base spare held 43 v d ps):∃l:List Bool,l.length≤9223372036854775807∧aS (eW w) (.sl none 1 (l.map bl)) v:=by
 obtain⟨x,hx,h⟩:=uq false Tryz.underlying43 c4 aj (fun _=>rfl) (l7 Tryz.underlying4) hv hd
 obtain⟨l,hl,_,y,hy,h2⟩:=Cy (f:=bl) (ls:=[x]) (k:=1) (ag:=false) (Q:=fun _=>True) (S:=fun l=>∃b,l=[bl b]) (fun l h=>by obtain⟨s,rfl⟩:=h;exact⟨s,trivial,rfl⟩) (by
  rcases h with rfl|⟨es,h1,h2,rfl⟩
  ·exact .inl rfl
  ·exact .inr ⟨es,h1,h2,rfl⟩)
 cases hy
 exact⟨l,hl,h2 _ _ hx⟩
set_option maxRecDepth 100000 in
theorem Eu(hv:Value.okWide Tryz.prog w r b0 5 v)(hd:DataW.Trod enc Tryz.prog w base spare held 5 v d ps):∃z:Int,(0≤z∧z<256)∧aS (eW w) (.v (.int .u8 z)) v:=by
 obtain⟨n,hn,hx⟩:=xN Tryz.underlying5 hv hd
 exact⟨n,aat hn,hx⟩
set_option maxRecDepth 100000 in
theorem Et(hv:Value.okWide Tryz.prog w r b0 44 v)(hd:DataW.Trod enc Tryz.prog w base spare held 44 v d ps):∃z:Int,(0≤z∧z<65536)∧aS (eW w) (.v (.int .u16 z)) v:=by
 obtain⟨n,hn,hx⟩:=xN Tryz.underlying44 hv hd
 refine⟨n,?_,hx⟩
 simp only[Lit.wf,Bool.and_eq_true,decide_eq_true_eq] at hn
 simp only[IntKind.min,IntKind.max,IntKind.bits,IntKind.signed] at hn
 simp at hn
 omega
end
end Go.Proofs.YthoonfpkfdjhiaaGreatDoor
end
section
namespace Go.Proofs
open Go.Shelf
def Tryz.R8:Go.Shelf.Ren:=⟨fun|145=>124|220=>162|219=>197|217=>155|225=>237|224=>234|267=>238|266=>188|314=>270|n=>n,fun|9=>9|4=>4|59=>183|3=>3|5=>5|46=>202|146=>328|51=>203|n=>n,fun|1=>0|n=>n⟩
theorem Tryz.R7:Go.Proofs.Lays.n145 Tryz.prog Tryz.R8:={
 mixed:=by kernel_rfl
 f145:=Tryz.func124.trans (congrArg some ae)
 f217:=Tryz.func155.trans (congrArg some ae)
 f219:=Tryz.func197.trans (congrArg some ae)
 f220:=Tryz.func162.trans (congrArg some ae)
 f224:=Tryz.func234.trans (congrArg some ae)
 f225:=Tryz.func237.trans (congrArg some ae)
 f266:=Tryz.func188.trans (congrArg some ae)
 f267:=Tryz.func238.trans (congrArg some ae)
 f314:=Tryz.func270.trans (congrArg some ae)
 t3:=Tryz.underlying3
 a3:=Tryz.isAgg3
 z3:=Tryz.sizeOf3
 v3:=Tryz.zeroValue3
 t4:=Tryz.underlying4
 a4:=Tryz.isAgg4
 z4:=Tryz.sizeOf4
 v4:=Tryz.zeroValue4
 t5:=Tryz.underlying5
 a5:=Tryz.isAgg5
 z5:=Tryz.sizeOf5
 v5:=Tryz.zeroValue5
 t9:=Tryz.underlying9
 a9:=Tryz.isAgg9
 z9:=Tryz.sizeOf9
 v9:=Tryz.zeroValue9
 t46:=Tryz.underlying202
 a46:=Tryz.isAgg202
 z46:=Tryz.sizeOf202
 v46:=Tryz.zeroValue202
 t51:=Tryz.underlying203
 a51:=Tryz.isAgg203
 z51:=Tryz.sizeOf203
 v51:=Tryz.zeroValue203
 t59:=Tryz.underlying183
 a59:=Tryz.isAgg183
 z59:=Tryz.sizeOf183
 v59:=Tryz.zeroValue183
 t146:=Tryz.underlying328
 a146:=Tryz.isAgg328
 z146:=Tryz.sizeOf328
 v146:=Tryz.zeroValue328
 g1:=by kernel_rfl }
open Go.RowKit Go.Lib in
theorem Tryz.strings_Cut(s sep:ByteArray)(m:Int)(w:World)(hs:s.size<4294967281)(hm:w.cell? ⟨0,0,none⟩=some (.int .i64 m)):
 Calls Tryz.prog 124 #[.string s,.string sep] w fun e w'=>e= .returned (.tuple #[.string ⟨(Lib.cut s.data.toList sep.data.toList).1.toArray⟩,.string ⟨(Lib.cut s.data.toList sep.data.toList).2.1.toArray⟩,.bool (Lib.cut s.data.toList sep.data.toList).2.2])∧∃n,w'=w.drewN n:=Any.strings_Cut Tryz.R7 s sep m w hs hm
def Tryz.Sc:Go.Shelf.Ren:=⟨fun|187=>70|255=>123|n=>n,fun|37=>30|5=>5|3=>3|n=>n,fun|n=>n⟩
theorem Tryz.Ae:Go.Proofs.Lays.n187 Tryz.prog Tryz.Sc:={
 mixed:=by kernel_rfl
 f187:=Tryz.func70.trans (congrArg some ae)
 f255:=Tryz.func123.trans (congrArg some ae)
 t3:=Tryz.underlying3
 a3:=Tryz.isAgg3
 z3:=Tryz.sizeOf3
 v3:=Tryz.zeroValue3
 t5:=Tryz.underlying5
 a5:=Tryz.isAgg5
 z5:=Tryz.sizeOf5
 v5:=Tryz.zeroValue5
 t37:=Tryz.underlying30
 a37:=Tryz.isAgg30
 z37:=Tryz.sizeOf30
 v37:=Tryz.zeroValue30 }
open Go.RowKit Go.Lib in
theorem Tryz.bytes_IndexByte_at(a:Addr)(n c:Nat)(xs:List Int)(cv:Int)(w:World)(hx:xs.length=n)(hc:∀i,i<n→w.cell? (a.add i)=some (.int .u8 (xs.getD i 0))):
 Calls Tryz.prog 70 #[.slice (some a) n c,.int .u8 cv] w fun e w'=>e= .returned (.int .i64 (Lib.indexByte (Lib.bytesOf xs) cv.toNat.toUInt8))∧w'=w:=Any.bytes_IndexByte_at Tryz.Ae a n c xs cv w hx hc
def Tryz.Sl:Go.Shelf.Ren:=⟨fun|145=>124|220=>162|219=>197|217=>155|225=>237|224=>234|267=>238|266=>188|314=>270|n=>n,fun|9=>9|4=>4|59=>183|3=>3|5=>5|46=>202|146=>328|51=>203|n=>n,fun|1=>0|n=>n⟩
theorem Tryz.Sk:Go.Proofs.LaysM.n145 Tryz.prog Tryz.Sl:={
 mixed:=by kernel_rfl
 f145:=Tryz.func124.trans (congrArg some ae)
 f217:=Tryz.func155.trans (congrArg some ae)
 f219:=Tryz.func197.trans (congrArg some ae)
 f220:=Tryz.func162.trans (congrArg some ae)
 f224:=Tryz.func234.trans (congrArg some ae)
 f225:=Tryz.func237.trans (congrArg some ae)
 f266:=Tryz.func188.trans (congrArg some ae)
 f267:=Tryz.func238.trans (congrArg some ae)
 f314:=Tryz.func270.trans (congrArg some ae)
 t3:=Tryz.underlying3
 a3:=Tryz.isAgg3
 z3:=Tryz.sizeOf3
 v3:=Tryz.zeroValue3
 t4:=Tryz.underlying4
 a4:=Tryz.isAgg4
 z4:=Tryz.sizeOf4
 v4:=Tryz.zeroValue4
 t5:=Tryz.underlying5
 a5:=Tryz.isAgg5
 z5:=Tryz.sizeOf5
 v5:=Tryz.zeroValue5
 t9:=Tryz.underlying9
 a9:=Tryz.isAgg9
 z9:=Tryz.sizeOf9
 v9:=Tryz.zeroValue9
 t46:=Tryz.underlying202
 a46:=Tryz.isAgg202
 z46:=Tryz.sizeOf202
 v46:=Tryz.zeroValue202
 t51:=Tryz.underlying203
 a51:=Tryz.isAgg203
 z51:=Tryz.sizeOf203
 v51:=Tryz.zeroValue203
 t59:=Tryz.underlying183
 a59:=Tryz.isAgg183
 z59:=Tryz.sizeOf183
 v59:=Tryz.zeroValue183
 t146:=Tryz.underlying328
 a146:=Tryz.isAgg328
 z146:=Tryz.sizeOf328
 v146:=Tryz.zeroValue328
 g1:=by kernel_rfl
 i3:=by kernel_rfl
 i4:=by kernel_rfl
 i5:=by kernel_rfl
 i9:=by kernel_rfl
 i46:=by kernel_rfl
 i51:=by kernel_rfl
 i59:=by kernel_rfl
 i146:=by kernel_rfl
 m1:=by kernel_rfl
 s1_3:=fun w h=>Go.Proofs.cell_of_shapedOpen_int (zero:=#[.int .i64 0]) (t:=3) h (of_decide_eq_true ae) ae rfl ae ae Tryz.underlying3 }
end Go.Proofs
end
section
namespace Go.Proofs.YthoonfpkfdjhiaaGreatDoor
open Go.ChangeShapes Go.WideShapes Go.ChangeAt Go.RowKit Go.Joins Go.az Go.Fld Go.Msg Go.Txt
theorem own:ownKnob Tryz.prog.godebug=none:=by kernel_rfl
theorem laidOut:laidOutB Tryz.prog=true:=by kernel_rfl
abbrev nW:List (String×DataW Unit):=[("math/bits.deBruijn32tab",Rows.laid_math_bits_deBruijn32tab),("math/bits.deBruijn64tab",Rows.laid_math_bits_deBruijn64tab),("internal/strconv.uint64pow10",Rows.laid_internal_strconv_uint64pow10),("unicode/utf8.acceptRanges",Rows.laid_unicode_utf8_acceptRanges),("strconv.ErrRange",Rows.laid_strconv_ErrRange),("strconv.ErrSyntax",Rows.laid_strconv_ErrSyntax),("unicode/utf8.first",Rows.laid_unicode_utf8_first)]
theorem PH:Tryz.prog.globalNamed "internal/strconv.uint64pow10" =some 1:=by kernel_rfl
set_option maxRecDepth 100000 in
theorem L8(os:Os)(args:Array Value):laidMetH Tryz.prog nW ((World.laidAll Tryz.prog os nW).forCall (fun _ _=>0) ⟨#[],args,[]⟩).memory:=by
 rw[MakeChecks.laidMetH_plain _ _ _ ae];exact laidMet_laidAll _ ae ae
theorem Zj:(Tryz.prog.globals[1]?).map (·.type)=some 300:=by kernel_rfl
theorem aau:Tryz.prog.underlying 300=some (.array 20 208):=by kernel_rfl
theorem u68:Tryz.prog.underlying 208=some (.int .u64):=by kernel_rfl
theorem F2:Tryz.prog.cellsOf 208=1:=by kernel_rfl
theorem F3:Tryz.prog.cellsOf 300=20:=by kernel_rfl
theorem PG:∃g,Tryz.prog.globalNamed "strconv.ErrRange" =some g∧(Tryz.prog.globals[g]?).map (·.type)=some 230:=⟨5,by kernel_rfl,by kernel_rfl⟩
theorem u84:Tryz.prog.underlying 230=some (.interface #[("Error",373)]):=by kernel_rfl
theorem pow_eq:Rows.laid_internal_strconv_uint64pow10 (H:=Unit)=Lib.tabData .u64 Lib.pow10Tab:=by kernel_rfl
set_option maxRecDepth 100000 in
theorem U9{W:World}(h:laidMetH Tryz.prog nW W)(hsh:W.ShapedOpen Tryz.prog):okW W:=by
 rw[MakeChecks.laidMetH_plain _ _ _ ae] at h
 obtain⟨ps,⟨g0,t0,cs0,f0,p0,q0,hg0,ht0,hv0,hd0,⟨g1,t1,cs1,f1,p1,q1,hg1,ht1,hv1,hd1,⟨g2,t2,cs2,f2,p2,q2,hg2,ht2,hv2,hd2,⟨g3,t3,cs3,f3,p3,q3,hg3,ht3,hv3,hd3,⟨g4,t4,cs4,f4,p4,q4,hg4,ht4,hv4,hd4,_,_⟩,_⟩,_⟩,_⟩,_⟩,_,_⟩:=h
 refine⟨?_,?_,Tryz.Sk.s1_3 W hsh⟩
 ·obtain rfl:=Option.some.inj (PH.symm.trans hg2)
  obtain rfl:=Option.some.inj (Zj.symm.trans ht2)
  rw[pow_eq] at hd2
  unfold Lib.TabIs
  rw[hv2,←Lib.cells_of_tab aau u68 F2 F3 hd2]
 ·obtain⟨g,hg,ht⟩:=PG
  obtain rfl:=Option.some.inj (hg.symm.trans hg4)
  obtain rfl:=Option.some.inj (ht.symm.trans ht4)
  obtain⟨f',u,v,e,_,_⟩:=iface_of_trod u84 hd4
  refine⟨u,v,?_⟩
  rw[hv4]
  congr 1
  apply Array.ext'
  simpa using e
section
variable{H:Type}{enc:TypeId×Value→H}
theorem W5{a:Assume}{C:Checked}{os:Os}{f:FuncId}{fn:Func}{s:ChangeSpec}{conds:List PathCond}{apart fresh handsOn again:Bool}{X:World→Array Value→Prop}
 (hX:∀(w w':World) (args:Array Value),w.heap=w'.heap→X w args→X w' args)
 (own:ownKnob C.prog.godebug=none) (started:os.Started) (noInit:C.prog.inits.idxOf? f=none) (hfn:C.prog.funcs[f]?=some fn)
 (witness:∃(w:World) (tape:Tape) (i:Input),w.os=os∧(w.forCall tape i).Shaped C.prog∧i.vars=[]∧Input.okWide C.prog (w.forCall tape i) .any w.heap.size f i∧
   ((s.pre enc C.prog fn conds apart (w.forCall tape i).memory i.args∧X (w.forCall tape i).memory i.args)∧sizedMet enc C.prog fn (OpenSpec.ofChange s) apart (w.forCall tape i).memory i.args)∧a.holds C.prog (lone (Frame.enter C.prog f i.args .normal) [] (w.forCall tape i)))
 (contract:∀(W:World) (base:Nat) (args:Array Value) (ds gs:List (DataW H)) (before:List MemPlace),
   (∀(j:Nat) t v,fn.params[j]?=some t→args[j]?=some v→Value.okWide C.prog W .any base t v)→
   DataW.Whole enc C.prog fn.params.toList s.vars apart W args.toList ds gs before→W.ShapedOpen C.prog→X W args→
   Calls C.prog f args W fun e W'=>∃v,e= .returned v∧s.post enc C.prog fn apart fresh handsOn again W args v W'):
 ReturnsInHanded a C os f .any (fun w args=>(s.pre enc C.prog fn conds apart w args∧X w args)∧sizedMet enc C.prog fn (OpenSpec.ofChange s) apart w args) (s.post enc C.prog fn apart fresh handsOn again):=by
 refine returnsInHanded_of_calls own started noInit witness ?_
 intro w tape i _ hsh _ hok hpre hholds
 obtain⟨_,_,_,fn',hfn',_,_,_,_,hval⟩:=hok
 have e:fn'=fn:=Option.some.inj (hfn'.symm.trans hfn)
 subst e
 obtain⟨⟨⟨ds,gs,before,hw,hc⟩,hx⟩,hz⟩:=hpre
 have hw':=DataW.Whole.of_heap (w':=w.forCall tape i) jo hw
 refine(contract (w.forCall tape i) w.heap.size i.args ds gs before hval hw' hsh (hX _ _ _ jo hx)).mono fun e W' ⟨v,he,hp⟩=>?_
 subst he
 exact ChangeSpec.post_blind hp
end
end Go.Proofs.YthoonfpkfdjhiaaGreatDoor
end
section
namespace Go.Proofs.YthoonfpkfdjhiaaGreatDoor
open Go Go.az Go.RowKit
theorem yW(d:Kp.Dk)(n:Int)(hd:ep d):ai E 96 [cH d,i64 n] (fun r t=>r= .ax [cH (Kp.iH d n).1,i64 (Kp.iH d n).2]∧t=[]):=by
 have hd0:=hd
 obtain⟨s0,s1,s2,s3⟩:=hd
 refine ai.aC (n:=26) (rs:=[.cell 4 49,.tmp 5]) Tryz.func96 rfl Tryz.ntmps96 rfl ?_
 repeat'(first
 |refine aa.ah fun K hK=>?_
 |(
  refine aa.here 4 18 8 rfl ?_
  obtain rfl|rfl:=sH (n:=n) af
  refine aa.region ?_;simp only[go_sem])
 |(refine aa.region ?_;simp only[go_sem])
 |(refine hK _ ?_;clear hK K)
 |refine aa.cond rfl (fun c=>?_) (fun c=>?_)<;>first|exact Bool.noConfusion c|(try simp only[dD] at c)
 |refine aa.skip ?_
 |(refine ak.one (sA d hd0) ae rfl ?_;simp only[go_sem])
 |(refine ak.one (mB d hd0) ae rfl ?_;simp only[go_sem])
 |(refine ak.one (sz d n) ae rfl ?_;simp only[go_sem])
 |(refine ak.one (uX d _ hd0) ae rfl ?_;simp only[go_sem])
 |(refine aP.split (fun h=>?_) (fun h=>?_)<;>simp only[h,go_sem]<;>(try simp only[dD] at h))
 |(
  refine aa.ret ?_
  refine aN.is ?_;simp only[go_sem,aI,aH,aG,aK,aJ,aL]<;>(first|(rw[CQ (.inl af)];exact⟨⟨rfl,rfl,rfl,rfl⟩,rfl⟩)|(rw[CQ (.inr af)];exact⟨⟨rfl,rfl,rfl,rfl⟩,rfl⟩)|(rw[CN af];exact⟨⟨rfl,trivial,rfl,rfl⟩,rfl⟩)|(rw[YE af];exact⟨⟨rfl,rfl,rfl,trivial⟩,rfl⟩))))
theorem yC(d:Kp.Dk)(n k:Int)(hd:ep d):ai E 101 [cH d,i64 n,i64 k] (fun r t=>r= .ax [cH (Kp.gS d n k).1,i64 (Kp.gS d n k).2]∧t=[]):=by
 have hd0:=hd
 obtain⟨s0,s1,s2,s3⟩:=hd
 refine ai.aC (n:=42) (rs:=[.cell 6 49,.tmp 7]) Tryz.func101 rfl Tryz.ntmps101 rfl ?_
 repeat'(first
 |refine aa.ah fun K hK=>?_
 |(
  refine aa.here 7 33 9 rfl ?_
  obtain rfl|rfl:=sH (n:=n) af
  refine aa.region ?_;simp only[go_sem])
 |(refine aa.region ?_;simp only[go_sem])
 |(refine hK _ ?_;clear hK K)
 |refine aa.cond rfl (fun c=>?_) (fun c=>?_)<;>first|exact Bool.noConfusion c|(try simp only[dD] at c)
 |refine aa.skip ?_
 |(refine ak.one (sA d hd0) ae rfl ?_;simp only[go_sem])
 |(refine ak.one (mB d hd0) ae rfl ?_;simp only[go_sem])
 |(refine ak.one (sz d n) ae rfl ?_;simp only[go_sem])
 |(refine ak.one (uX d n hd0) ae rfl ?_;simp only[go_sem])
 |(refine ak.one (nD ((Kp.de d 0).take k.toNat) (by rw[List.length_take];have:=wz (n:=0) hd0;omega)) ae rfl ?_;simp only[go_sem])
 |(refine ak.one (nD ((Kp.de d 1).take k.toNat) (by rw[List.length_take];have:=wz (n:=1) hd0;omega)) ae rfl ?_;simp only[go_sem])
 |(refine aP.du (fun h=>?_) (fun h=>?_)<;>simp only[h,go_sem]<;>(try simp only[dD] at h))
 |(refine aP.split (fun h=>?_) (fun h=>?_)<;>simp only[h,go_sem]<;>(try simp only[dD] at h))
 |((with_reducible refine And.intro ?_ ?_);(focus(first|omega|(simp;done)));(try simp only[hb,go_sem]))
 |(
  refine aa.ret ?_
  refine aN.is ?_;simp only[go_sem,aI,aH,aG,aK,aJ,aL]<;>(first|(rw[yA (.inl af)];exact⟨⟨rfl,rfl,rfl,rfl⟩,rfl⟩)|(rw[yA (.inr af)];exact⟨⟨rfl,rfl,rfl,rfl⟩,rfl⟩)|(rw[LK ab];exact⟨⟨rfl,rfl,rfl,rfl⟩,rfl⟩)|(rw[uT af ab ab];exact⟨⟨rfl,trivial,rfl,rfl⟩,rfl⟩)|(rw[yz af ab ab];exact⟨⟨rfl,rfl,rfl,trivial⟩,rfl⟩))))
def js(d:Kp.Dk)(k0 k1:Int):Nat→AV
 |0=>cH d
 |1=> .agg [aU [d.f0.safe,d.f0.tail.take k0.toNat].flatten,.aw,aU d.f1.safe,aU d.f1.tail]
 |_=> .agg [aU [d.f0.safe,d.f0.tail.take k0.toNat].flatten,.aw,aU [d.f1.safe,d.f1.tail.take k1.toNat].flatten,.aw]
theorem Li{d:Kp.Dk}{k0 k1:Int}:∀{i no nt:Nat},∀e∈[js d k0 k1 i],∀z∈e.leaves,z.bw no nt=true:=by
 intro i no nt e he z hz
 simp only[List.mem_singleton] at he
 subst he
 match i with
 |0=>exact uV (d:=d) (cH d) aB z hz
 |1=>
  simp only[js,AV.leaves,List.mem_cons,List.not_mem_nil,or_false] at hz
  rcases hz with rfl|rfl|rfl|rfl<;>rfl
 |i+2=>
  simp only[js,AV.leaves,List.mem_cons,List.not_mem_nil,or_false] at hz
  rcases hz with rfl|rfl|rfl|rfl<;>rfl
theorem yu{d:Kp.Dk}{k0 k1:Int}{i no nt:Nat}:some [js d k0 k1 i]=none∨some [js d k0 k1 i]=some [js d k0 k1 i]∧∀es,some [js d k0 k1 i]=some es→∀e∈es,∀z∈e.leaves,z.bw no nt=true:= .inr ⟨rfl,fun es h=>by cases h;exact Li⟩
theorem RF{k0 k1:Int}{no nt:Nat}:∀e∈[AV.agg [i64 k0,i64 k1]],∀z∈e.leaves,z.bw no nt=true:=by
 intro e he z hz
 simp only[List.mem_singleton] at he
 subst he
 simp only[AV.leaves,List.mem_cons,List.not_mem_nil,or_false] at hz
 rcases hz with rfl|rfl<;>rfl
theorem vx{k0 k1:Int}{no nt:Nat}:some [AV.agg [i64 k0,i64 k1]]=none∨∀es,some [AV.agg [i64 k0,i64 k1]]=some es→∀e∈es,∀z∈e.leaves,z.bw no nt=true:= .inr fun es h=>by cases h;exact RF
theorem qy{α:Type}{l:List α}{k:Int}:l.take (min (max k 0) (l.length:Int)).toNat=l.take k.toNat:=by
 rcases(by omega:(l.length:Int)≤max k 0∨max k 0≤(l.length:Int)) with h|h
 ·rw[List.take_of_length_le ab,List.take_of_length_le ab]
 ·rw[show(min (max k 0) (l.length:Int)).toNat=k.toNat by omega]
theorem Ll{d:Kp.Dk}{k0 k1:Int}(h:Kp.bV d=false):Kp.mr d k0 k1=d:=by unfold Kp.mr;rw[h];rfl
theorem Ly{d:Kp.Dk}{k0 k1:Int}(h:Kp.bV d=true):Kp.mr d k0 k1=⟨⟨[d.f0.safe,d.f0.tail.take k0.toNat].flatten,[]⟩,⟨[d.f1.safe,d.f1.tail.take k1.toNat].flatten,[]⟩⟩:=by
 unfold Kp.mr Kp.gX;rw[if_pos h];simp
theorem LM(d:Kp.Dk)(k0 k1:Int)(hd:ep d):ai E 46 [cH d,.agg [i64 k0,i64 k1]] (fun r t=>r=cH (Kp.mr d k0 k1)∧t=[]):=by
 have hd0:=hd
 obtain⟨s0,s1,s2,s3⟩:=hd
 refine ai.aC (n:=42) (rs:=[.cell 4 49]) Tryz.func46 rfl Tryz.ntmps46 rfl ?_
 repeat'(first
 |refine aa.ah fun K hK=>?_
 |(
  refine aa.here 6 18 5 rfl ?_
  obtain rfl|rfl:i=0∨i=1:=by omega
  refine aa.region ?_;simp only[go_sem,js])
 |(
  refine aa.here 7 20 9 rfl ?_
  refine aa.bB [0,1,2,3,4,5,6,7,8] [] ae ae rfl ?_;simp only[go_sem,js,qy])
 |(
  refine aa.here 8 28 13 rfl ?_
  refine aa.bB [0,1,2,3,4,5,6,10,7,8,9,11,12] [] ae ae rfl ?_;simp only[go_sem,js,qy])
 |(
  refine aa.here 10 41 2 rfl ?_
  obtain rfl:i=2:=by omega
  refine aa.region ?_;simp only[go_sem,js])
 |(refine aa.region ?_;simp only[go_sem])
 |(refine hK _ ?_;clear hK K)
 |refine aa.block ?_
 |refine aa.cond rfl (fun c=>?_) (fun c=>?_)<;>(try simp only[dD] at c)
 |refine aa.skip ?_
 |(refine aa.exit ?_;simp only[go_sem])
 |(refine ak.one (sA d hd0) ae rfl ?_;simp only[go_sem])
 |(refine ak.one (mB d hd0) ae rfl ?_;simp only[go_sem])
 |(refine ak.one (pa [d.f0.safe,d.f0.tail.take k0.toNat] (by simp;omega) aB) ae rfl ?_;simp only[go_sem])
 |(refine ak.one (pa [d.f1.safe,d.f1.tail.take k1.toNat] (by simp;omega) aB) ae rfl ?_;simp only[go_sem])
 |((with_reducible refine And.intro ?_ ?_);(focus(first|omega|(simp;done)));(try simp only[hb,go_sem]))
 |(
  refine aa.here 5 17 1 rfl ?_
  refine aa.dT (ι:=Nat) [5,6,7,17,18,19,20,21,22,23,24,25,26,27,28,29,30,31,32,33,34,35,36,37,38,39,40] (fun(i:Nat)=>[(16,i64 i)]) (fun(i:Nat)=>[some [js d k0 k1 i],some [.agg [i64 k0,i64 k1]],some [.agg [.aw,.aw,.aw,.aw]]]) (fun(i:Nat)=>[]) (fun(i:Nat)=>i≤2) (fun(i:Nat)=>2-i) (0) ?_ ?_ ?_
  ·(try simp only[go_sem]);(try simp only[go_sem,fg,fh,qy]);(repeat'(first|exact LW|exact nk|exact vx|refine And.intro ?_ ?_))
  ·omega
  rintro i h1
  simp only[go_sem])
 |(
  refine⟨1,?_,?_,?_⟩
  ·(try simp only[go_sem]);(try rw[aM ab ab]);(try simp only[go_sem,fg,fh,qy]);(repeat'(first|exact yu|exact nk|exact vx|refine And.intro ?_ ?_))
  ·omega
  ·(try simp only[]);omega)
 |(
  refine⟨2,?_,?_,?_⟩
  ·(try simp only[go_sem]);(try rw[aM ab ab]);(try simp only[go_sem,fg,fh,qy]);(repeat'(first|exact yu|exact nk|exact vx|refine And.intro ?_ ?_))
  ·omega
  ·(try simp only[]);omega)
 |(
  refine aa.ret ?_
  refine aN.is ?_;simp only[go_sem,aI,aH,aG,aK,aJ,aL]<;>(first|(rw[Ll af];exact⟨rfl,rfl,rfl,rfl⟩)|(rw[Ly af];exact⟨rfl,trivial,rfl,trivial⟩)))
 |refine aa.fin af ?_)
theorem _root_.Go.az.ai.aa2{E:Env}{f:FuncId}{args:List AV}{k n t0:Nat}{es:List AV}{x:Value}(h:ai E f args fun r t=>r= .ax [.sl (some t0) k es,.v x]∧t=[n]):ai E f args fun r t=>r= .ax [.sl none k es,.v x]∧t=[]:=
 fun w im vs h0 hg h1 h2=>(h w im vs h0 hg h1 h2).mono fun _ _ ⟨v,r,tks,im',a,b,d,e,f,g,i,j⟩=>by
  obtain⟨rfl,_⟩:=j
  refine⟨v,_,[],im',a,b,d,e,f,⟨fun i T b h=>by simp at h,fun i j T U b d h=>by simp at h⟩,.base ?_,rfl,rfl⟩
  cases i with
  |base h=>
   cases h with
   |ax cs vs hn h=>
    have h0:vs[0]?=some (vs[0]'(by simp at hn;omega)):=List.getElem?_eq_getElem _
    exact nomatch h 0 _ _ rfl h0
  |ax cs vs hn h=>
   refine .ax _ _ hn fun i y u hy hu=>?_
   match i with
   |0=>cases hy;exact(h 0 _ u rfl hu).fy
   |1=>
    cases hy
    have:=h 1 _ u rfl hu
    cases this with
    |base h=>exact h
   |i+2=>simp at hy
theorem yv(l:List UInt8)(hl:l.length≤1000000):ai E 139 [aU l] (fun r t=>r= .ax [.sl none 1 ((Kp.cG l).1.map aU),i64 (Kp.cG l).2]∧t=[]):=(LC l hl).aa2
abbrev aao(n:Nat):AV:= .v (.int .u64 (n:Int))
def kx:AV:= .agg [i64 0,.aw,.aw,i64 0]
def nJ(c:Kp.Ct):AV:= .agg [i64 c.gen,aU c.snap,.sl none 1 (c.jt.map aU),i64 c.long]
theorem abQ{no nt:Nat}:∀e∈[AV.agg [i64 0,.aw,.aw,i64 0]],∀z∈e.leaves,z.bw no nt=true:=by
 intro e he z hz
 simp only[List.mem_singleton] at he
 subst he
 simp only[AV.leaves,List.mem_cons,List.not_mem_nil,or_false] at hz
 rcases hz with rfl|rfl|rfl|rfl<;>rfl
theorem abR{no nt:Nat}:some [AV.agg [i64 0,.aw,.aw,i64 0]]=none∨∀es,some [AV.agg [i64 0,.aw,.aw,i64 0]]=some es→∀e∈es,∀z∈e.leaves,z.bw no nt=true:= .inr fun es h=>by cases h;exact abQ
theorem head_ne{r:List UInt8}{b:UInt8}(h:r[0]?=some b)(h2:¬(b.toNat:Int)=71):¬r.head?=some 71:=by
 intro e
 rw[List.head?_eq_getElem?,h,Option.some.injEq] at e
 rw[e] at h2;exact h2 rfl
theorem head_eq{r:List UInt8}{b:UInt8}(h:r[0]?=some b)(h2:(b.toNat:Int)=71):r.head?=some 71:=by
 rw[List.head?_eq_getElem?,h]
 have:b.toNat=(71:UInt8).toNat:=by have:(71:UInt8).toNat=71:=rfl;omega
 rw[UInt8.toNat_inj.1 this]
def lG:Option Kp.Ct→AV
 |none=> .ax [kx,bl false]
 |some c=> .ax [nJ c,bl true]
theorem Tr{b:List UInt8}{n:Nat}(hr:Kp.cG b=([],n)):Kp.dz b=none:=by unfold Kp.dz;rw[hr]
theorem sP{b r:List UInt8}{l:List (List UInt8)}{n:Nat}(hr:Kp.cG b=(r::l,n))(h:r.length<9∨¬r.head?=some 71∨Kp.fG ((r.take 9).drop 1)<1∨4611686018427387904<Kp.fG ((r.take 9).drop 1)):Kp.dz b=none:=by
 unfold Kp.dz;rw[hr]
 show(if _ then _ else _)=_
 rw[if_neg]
 rintro⟨h1,h2,h3,h4⟩
 have e:(r.drop 1).take 8=(r.take 9).drop 1:=by rw[List.drop_take]
 rw[e] at h3 h4
 rcases h with h|h|h|h
 ·omega
 ·exact h h2
 ·omega
 ·omega
theorem Tq{b r:List UInt8}{l:List (List UInt8)}{n:Nat}(hr:Kp.cG b=(r::l,n))(h1:9≤r.length)(h2:r.head?=some 71)(h3:1≤Kp.fG ((r.take 9).drop 1))(h4:Kp.fG ((r.take 9).drop 1)≤4611686018427387904):Kp.dz b=some ⟨Kp.fG ((r.take 9).drop 1),r.drop 9,l,n⟩:=by
 unfold Kp.dz;rw[hr]
 have e:(r.drop 1).take 8=(r.take 9).drop 1:=by rw[List.drop_take]
 show(if _ then _ else _)=_
 rw[e,if_pos ⟨h1,h2,h3,h4⟩]
theorem PR(l:List UInt8)(b:UInt8):Kp.fG (l++[b])=Kp.fG l*256+b.toNat:=by unfold Kp.fG;rw[List.foldl_append];rfl
theorem PS{l:List UInt8}{i:Nat}{b:UInt8}(h:l[i]?=some b):Kp.fG (l.take (i+1))=Kp.fG (l.take i)*256+b.toNat:=by rw[List.take_add_one,h];exact PR _ _
theorem PM(l:List UInt8):∀(n:Nat),l.foldl (fun n b=>n*256+b.toNat) n<(n+1)*256^l.length:=by
 induction l with
 |nil=>intro n;simp
 |cons b l ih=>
  intro n
  rw[List.foldl_cons,List.length_cons,Nat.pow_succ]
  have h1:=ih (n*256+b.toNat)
  have h2:=b.toNat_lt
  have h3:(n*256+b.toNat+1)*256^l.length≤((n+1)*256)*256^l.length:=Nat.mul_le_mul_right _ ab
  rw[Nat.mul_comm (256^l.length) 256,←Nat.mul_assoc]
  omega
theorem PN(l:List UInt8):Kp.fG l<256^l.length:=by have:=PM l 0;unfold Kp.fG;omega
theorem PO{l:List UInt8}{i:Nat}(h:i<8):Kp.fG (l.take i)<72057594037927936:=by
 have h1:=PN (l.take i)
 have h2:(l.take i).length≤7:=by rw[List.length_take];omega
 exact Nat.lt_of_lt_of_le h1 (Nat.pow_le_pow_right aj h2)
theorem xx(n:Nat)(h:n<2^64):IntKind.u64.wrap (n:Int)=(n:Int):=by
 simp only[IntKind.wrap,IntKind.bits,IntKind.signed,Bool.false_and,Bool.false_eq_true,if_false]
 omega
theorem PQ{g:Nat}(b:UInt8)(h:g<72057594037927936):IntKind.u64.wrap ((BitVec.ofInt 64 (IntKind.u64.wrap ((g:Int)*2^min 8 64)) |||BitVec.ofInt 64 (IntKind.u64.wrap (b.toNat:Int))).toNat:Int)=((g*256+b.toNat:Nat):Int):=by
 have h1:=b.toNat_lt
 have e1:IntKind.u64.wrap ((g:Int)*2^min 8 64)=((g*2^8:Nat):Int):=by
  rw[show min 8 64=8 by rfl,show((g:Int)*2^8)=((g*2^8:Nat):Int) by simp,xx _ ab]
 have ho:∀n:Nat,n<2^64→(BitVec.ofInt 64 (n:Int)).toNat=n:=by intro n hn;simp;omega
 rw[e1,xx b.toNat ab,BitVec.toNat_or,ho _ ab,ho _ ab,wb ab,xx _ ab]
theorem inst64u(x y:BitVec 64):@HOr.hOr (BitVec 64) (BitVec 64) (BitVec 64) (@instHOrOfOrOp (BitVec IntKind.u64.bits) (@BitVec.instOrOp IntKind.u64.bits)) x y=x |||y:=rfl
theorem Tl(x:List UInt8)(hl:x.length≤400000)(n:Nat)(hr:Kp.cG x=([],n)):ai E 98 [aU x] (fun r t=>r=lG (Kp.dz x)∧t=[]):=by
 have hcall:=yv x ab
 rw[hr] at hcall
 dsimp only[List.map_nil] at hcall
 rw[Tr hr]
 show ai E 98 [aU x] (fun r t=>r= .ax [.agg [i64 0,.aw,.aw,i64 0],bl false]∧t=[])
 refine ai.aC (n:=66) (rs:=[.cell 2 165,.tmp 3]) Tryz.func98 rfl Tryz.ntmps98 rfl ?_
 repeat'(first
 |refine aa.ah fun K hK=>?_
 |(refine aa.region ?_;simp only[go_sem])
 |(refine hK _ ?_;clear hK K)
 |refine aa.cond rfl (fun c=>?_) (fun c=>?_)<;>first|exact Bool.noConfusion c|(try simp only[dD] at c)
 |(refine ak.one (hcall) ae rfl ?_;simp only[go_sem])
 |((with_reducible refine And.intro ?_ ?_);(focus((simp;done)));(try simp only[hb,go_sem]))
 |(
  refine aa.ret ?_
  refine aN.is ?_;simp only[go_sem,aI,aH,aG,aK,aJ,aL]<;>(first|fail)))
theorem Tm(x:List UInt8)(hl:x.length≤400000)(r:List UInt8)(l:List (List UInt8))(n:Nat)(hr:Kp.cG x=(r::l,n))(hrl:r.length≤400000):ai E 98 [aU x] (fun r t=>r=lG (Kp.dz x)∧t=[]):=by
 have hcall:=yv x ab
 rw[hr] at hcall
 dsimp only[List.map_cons] at hcall
 refine ai.aC (n:=66) (rs:=[.cell 2 165,.tmp 3]) Tryz.func98 rfl Tryz.ntmps98 rfl ?_
 repeat'(first
 |refine aa.ah fun K hK=>?_
 |(
  refine aa.here 2 15 18 rfl ?_
  refine aa.region ?_;simp only[go_sem,List.map_cons,List.getElem?_cons_zero,List.length_cons])
 |(
  refine aa.here 4 34 4 rfl ?_
  refine aa.region ?_;simp only[go_sem,List.map_cons,List.getElem?_cons_zero])
 |(
  refine aa.here 8 42 3 rfl ?_
  have hi8:i<8:=by simp only[List.length_drop,List.length_take] at c;omega
  refine aa.region ?_;simp only[go_sem])
 |(
  refine aa.here 11 50 6 rfl ?_
  have hi9:((r.take 9).drop 1).take i=(r.take 9).drop 1:=List.take_of_length_le ab
  simp only[hi9]
  refine aa.region ?_;simp only[go_sem])
 |(refine aa.region ?_;simp only[go_sem])
 |(refine aa.here 13 57 11 rfl ?_;refine aa.bB [0,1,2,3,5,6,7,4,8,9,10] [] ae ae rfl ?_;simp only[go_sem])
 |(refine hK _ ?_;clear hK K)
 |refine aa.block ?_
 |refine aa.cond rfl (fun c=>?_) (fun c=>?_)<;>first|exact Bool.noConfusion c|(try simp only[dD] at c)
 |refine aa.skip ?_
 |(refine aa.exit ?_;simp only[go_sem])
 |(refine ak.one (hcall) ae rfl ?_;simp only[go_sem])
 |(refine ak.one (nD (r.drop 9) (by rw[List.length_drop];omega)) ae rfl ?_;simp only[go_sem])
 |(refine aP.du (fun h=>?_) (fun h=>?_)<;>simp only[h,go_sem]<;>(try simp only[dD] at h))
 |((first|refine aQ.nth ?_ (fun b hb=>?_)|with_reducible refine And.intro ?_ ?_);(focus(first|omega|(simp;done)));(try simp only[hb,go_sem]))
 |(
  refine aa.here 7 41 1 rfl ?_
  refine aa.dU (ι:=Nat) [9,41,42,43,44,45,46,47,48,49] (fun(i:Nat)=>[(7,aao (Kp.fG (((r.take 9).drop 1).take i))),(40,i64 i)]) (fun(i:Nat)=>i≤8) (fun(i:Nat)=>8-i) (0) ?_ ?_ ?_
  ·(try simp only[go_sem]);(repeat'(first|refine And.intro ?_ ?_|exact .inr rfl|trivial));done
  ·omega
  rintro i h1
  simp only[go_sem])
 |(
  refine⟨i+1,?_,?_,?_⟩
  ·(try simp only[go_sem]);(try rw[aM ab ab]);(try rw[PS hb]);(try simp only[go_sem,inst64u]);(try rw[PQ b (PO (i:=i) (l:=(r.take 9).drop 1) hi8)]);(try rw[aM ab ab]);(repeat'(first|refine And.intro ?_ ?_|exact abR|exact .inr rfl))
  ·omega
  ·(try simp only[]);omega)
 |(
  refine aa.ret ?_
  refine aN.is ?_;simp only[go_sem,aI,aH,aG,aK,aJ,aL]<;>(first|(exfalso;omega)|(rw[sP hr (.inl ab)];(simp only[lG,kx,go_sem,aI,aH,aG,aK,aJ,aL]<;>first|fail))|(rw[sP hr (.inr (.inl (head_ne af af)))];(simp only[lG,kx,go_sem,aI,aH,aG,aK,aJ,aL]<;>first|fail))|(rw[sP hr (.inr (.inr (.inl ab)))];(simp only[lG,kx,go_sem,aI,aH,aG,aK,aJ,aL]<;>first|fail))|(rw[sP hr (.inr (.inr (.inr ab)))];(simp only[lG,kx,go_sem,aI,aH,aG,aK,aJ,aL]<;>first|fail))|(rw[Tq hr ab (head_eq af af) ab ab];rw[aM ab ab];simp only[lG,nJ,go_sem,aI,aH,aG,aK,aJ,aL]<;>first|fail)))
 |refine aa.fin af ?_)
theorem To(b:List UInt8)(hl:b.length≤400000):ai E 98 [aU b] (fun r t=>r=lG (Kp.dz b)∧t=[]):=by
 rcases hr:Kp.cG b with⟨rs,n⟩
 rcases rs with _|⟨r,l⟩
 ·exact Tl b hl n hr
 ·exact Tm b hl r l n hr (by
   have h:=(Kp.r5 b.length b (Nat.le_refl _)).1
   rw[hr] at h
   have:=(h r aB).2
   omega)
abbrev ga(j:Kp.Jn):AV:= .agg [aU j.d.f0.safe,aU j.d.f0.tail,aU j.d.f1.safe,aU j.d.f1.tail,i64 j.at',i64 j.gen]
theorem Rg{j:Kp.Jn}{no nt:Nat}:∀e∈[ga j],∀z∈e.leaves,z.bw no nt=true:=by
 intro e he z hz
 simp only[List.mem_singleton] at he
 subst he
 simp only[AV.leaves,List.mem_cons,List.not_mem_nil,or_false] at hz
 rcases hz with rfl|rfl|rfl|rfl|rfl|rfl<;>rfl
theorem qP{j:Kp.Jn}{no nt:Nat}:some [ga j]=none∨∀es,some [ga j]=some es→∀e∈es,∀z∈e.leaves,z.bw no nt=true:= .inr fun es h=>by cases h;exact Rg
abbrev tS:AV:= .agg [.aw,.aw,.aw,.aw,i64 0,i64 0]
theorem abV{no nt:Nat}:∀e∈[tS],∀z∈e.leaves,z.bw no nt=true:=by
 intro e he z hz
 simp only[List.mem_singleton] at he
 subst he
 simp only[AV.leaves,List.mem_cons,List.not_mem_nil,or_false] at hz
 rcases hz with rfl|rfl|rfl|rfl|rfl|rfl<;>rfl
theorem rF{no nt:Nat}:some [tS]=none∨∀es,some [tS]=some es→∀e∈es,∀z∈e.leaves,z.bw no nt=true:= .inr fun es h=>by cases h;exact abV
theorem O3:Kp.bX.take (8+1)=Kp.bX:=rfl
theorem zd:Kp.bX.length=9:=rfl
theorem Cw{k:Nat}(h:k≤7):IntKind.i64.wrap (56-8*(k:Int)-8)=56-8*((k+1:Nat):Int):=by rw[aM ab ab];omega
theorem ze{k:Nat}(h:k≤7):(Kp.bX.take (k+1)).map u8++[AV.v (Value.int IntKind.u8 (IntKind.u8.wrap (Int.fdiv 1 (2^min (56-8*(k:Int)).toNat 64))))]=(Kp.bX.take (k+1+1)).map u8:=by
 rcases(by omega:k=0∨k=1∨k=2∨k=3∨k=4∨k=5∨k=6∨k=7) with rfl|rfl|rfl|rfl|rfl|rfl|rfl|rfl<;>rfl
theorem fa{d:Kp.Dk}(h:Kp.bV d=true):ep d:=by
 have:=l9 h
 exact⟨by omega,by omega,by omega,by omega⟩
theorem sT{j:Kp.Jn}(h:Kp.iA j=true):Kp.bV j.d=true∧Kp.fq j.at'=true:=by
 unfold Kp.iA at h
 simp only[Bool.and_eq_true] at h
 exact⟨h.1.1.1,h.1.1.2⟩
theorem xz{j:Kp.Jn}{e:List UInt8}(h:Kp.iA j=false∨(e.length<1∨4000<e.length)):Kp.dP j e=(j,1):=by
 unfold Kp.dP
 rw[if_neg]
 rintro⟨h1,h2,h3⟩
 rcases h with h|h
 ·rw[h1] at h;cases h
 ·omega
theorem xA{j:Kp.Jn}{e:List UInt8}(h:Kp.iA j=true)(h1:1≤e.length)(h2:e.length≤4000)(h3:(Kp.eL j.d j.at' (Kp.recC e)).2=0):Kp.dP j e=(⟨(Kp.eL j.d j.at' (Kp.recC e)).1,j.at',j.gen⟩,0):=by unfold Kp.dP;rw[if_pos ⟨h,h1,h2⟩,if_pos h3]
theorem DH{j:Kp.Jn}{e:List UInt8}(h:Kp.iA j=true)(h1:1≤e.length)(h2:e.length≤4000)(h3:¬(Kp.eL j.d j.at' (Kp.recC e)).2=0):Kp.dP j e=(j,(Kp.eL j.d j.at' (Kp.recC e)).2):=by
 unfold Kp.dP;rw[if_pos ⟨h,h1,h2⟩,if_neg h3]
 revert h3
 unfold Kp.eL
 rw[if_pos (gZ (sT h).1 (sT h).2)]
 split
 ·intro h;exact absurd rfl h
 ·intro _;rfl
theorem YF{j:Kp.Jn}(h:Kp.iA j=true):(Kp.iH j.d j.at').2=0:=by unfold Kp.iH;rw[if_pos (gZ (sT h).1 (sT h).2)]
theorem Rl{j:Kp.Jn}(h:Kp.iA j=false):Kp.ij j=(j,1):=by unfold Kp.ij;rw[h];rfl
theorem Rm{j:Kp.Jn}(h:Kp.iA j=true):Kp.ij j=(⟨(Kp.iH j.d j.at').1,j.at',j.gen⟩,0):=by unfold Kp.ij;rw[if_pos h]
theorem B7{d:Kp.Dk}{a b:List UInt8}(h:Kp.bV d=true)(h2:a.length+b.length≤65536):Kp.bV ⟨⟨a,b⟩,d.f1⟩=true:=rn (s6 h2) (s6 (l9 h).2)
theorem LI{d:Kp.Dk}(h:Kp.bV d=true):Kp.gS d 0 0=(⟨⟨[],[]⟩,d.f1⟩,0):=by rw[uT h ab ab];rfl
theorem abI{d:Kp.Dk}(h:Kp.bV d=true):Kp.eL ⟨⟨[],[]⟩,d.f1⟩ 0 (Kp.recC Kp.bX)=(⟨⟨[],Kp.recC Kp.bX⟩,d.f1⟩,0):=by rw[xw (B7 h aB) (by show 0+0+_≤_;rw[Kp.eD];decide)];rfl
theorem YD{d:Kp.Dk}(h:Kp.bV d=true):Kp.iH ⟨⟨[],Kp.recC Kp.bX⟩,d.f1⟩ 0=(Kp.o4 d 0 1 [],0):=by
 have hr:=B7 (a:=[]) (b:=Kp.recC Kp.bX) h aj
 rw[CN hr,BQ hr]
 show _=(Kp.eo d 0 ⟨Kp.recC (Kp.vb 1 []),[]⟩,0)
 rw[Kp.zb]
 simp[Kp.eo]
theorem zT(j:Kp.Jn)(hd:ep j.d):ai E 91 [ga j] (fun r t=>r=bl (Kp.iA j)∧t=[]):=by
 refine ai.aC (n:=26) (rs:=[.tmp 2]) Tryz.func91 rfl Tryz.ntmps91 rfl ?_
 repeat'(first
 |refine aa.ah fun K hK=>?_
 |(refine aa.region ?_;simp only[go_sem])
 |(refine hK _ ?_;clear hK K)
 |(refine ak.one (mB j.d hd) ae rfl ?_;simp only[go_sem])
 |(refine aP.du (fun h=>?_) (fun h=>?_)<;>simp only[h,go_sem]<;>(try simp only[dD] at h))
 |(refine aP.split (fun h=>?_) (fun h=>?_)<;>simp only[h,go_sem]<;>(try simp only[dD] at h))
 |(
  refine aa.ret ?_
  refine aN.is ?_;simp only[go_sem,aI,aH,aG,aK,aJ,aL]<;>((unfold Kp.iA Kp.fq Kp.maxD;simp[*];done))))
theorem zW(j:Kp.Jn)(hd:ep j.d):ai E 92 [ga j] (fun r t=>r=ga j∧t=[]):=by
 obtain⟨s0,s1,s2,s3⟩:=hd
 refine ai.aC (n:=25) (rs:=[.cell 2 51]) Tryz.func92 rfl Tryz.ntmps92 rfl ?_
 repeat'(first
 |refine aa.ah fun K hK=>?_
 |(
  refine aa.here 3 10 5 rfl ?_
  obtain rfl|rfl:i=0∨i=1:=by omega
  refine aa.region ?_;simp only[go_sem])
 |(refine aa.region ?_;simp only[go_sem])
 |(refine aa.here 4 12 12 rfl ?_;refine aa.bB [0,1,2,4,5,8,9,3,6,7,10,11] [] ae ae rfl ?_;simp only[go_sem])
 |(refine hK _ ?_;clear hK K)
 |refine aa.block ?_
 |refine aa.cond rfl (fun c=>?_) (fun c=>?_)<;>(try simp only[dD] at c)
 |refine aa.skip ?_
 |(refine aa.exit ?_;simp only[go_sem])
 |(refine ak.one (nD _ ab) ae rfl ?_;simp only[go_sem])
 |(
  refine aa.here 2 9 1 rfl ?_
  refine aa.dT (ι:=Nat) [3,4,9,10,11,12,13,14,15,16,17,18,19,20,21,22,23] (fun(i:Nat)=>[(8,i64 i),(7,cH j.d)]) (fun(i:Nat)=>[some [ga j],some [.agg [.aw,.aw,.aw,.aw,i64 0,i64 0]]]) (fun(i:Nat)=>[]) (fun(i:Nat)=>i≤2) (fun(i:Nat)=>2-i) (0) ?_ ?_ ?_
  ·(try simp only[go_sem]);(try simp only[go_sem,fg,fh]);(repeat'(first|exact qP|exact rF|refine And.intro ?_ ?_))
  ·omega
  rintro i h1
  simp only[go_sem])
 |(
  refine⟨1,?_,?_,?_⟩
  ·(try simp only[go_sem]);(try rw[aM ab ab]);(try simp only[go_sem,fg,fh]);(repeat'(first|exact qP|exact rF|refine And.intro ?_ ?_))
  ·omega
  ·(try simp only[]);omega)
 |(
  refine⟨2,?_,?_,?_⟩
  ·(try simp only[go_sem]);(try rw[aM ab ab]);(try simp only[go_sem,fg,fh]);(repeat'(first|exact qP|exact rF|refine And.intro ?_ ?_))
  ·omega
  ·(try simp only[]);omega)
 |(
  refine aa.ret ?_
  refine aN.is ?_;simp only[go_sem,aI,aH,aG,aK,aJ,aL]<;>(first|fail))
 |refine aa.fin af ?_)
theorem Re(j:Kp.Jn)(e:List UInt8)(hd:ep j.d)(he:e.length≤1000000):ai E 39 [ga j,aU e] (fun r t=>r= .ax [ga (Kp.dP j e).1,i64 (Kp.dP j e).2]∧t=[]):=by
 have hd0:=hd
 refine ai.aC (n:=51) (rs:=[.cell 4 51,.tmp 5]) Tryz.func39 rfl Tryz.ntmps39 rfl ?_
 repeat'(first
 |refine aa.ah fun K hK=>?_
 |(refine aa.region ?_;simp only[go_sem])
 |(refine hK _ ?_;clear hK K)
 |refine aa.cond rfl (fun c=>?_) (fun c=>?_)<;>first|exact Bool.noConfusion c|(try simp only[dD] at c)
 |refine aa.skip ?_
 |(refine ak.one (zT j hd0) ae rfl ?_;simp only[go_sem])
 |(refine ak.one (zW j hd0) ae rfl ?_;simp only[go_sem])
 |(refine ak.one (yw e ab ab) ae rfl ?_;simp only[go_sem])
 |(refine ak.one (yX j.d j.at' (Kp.recC e) hd0 (by rw[Kp.eD];omega)) ae rfl ?_;simp only[go_sem])
 |(refine aP.du (fun h=>?_) (fun h=>?_)<;>simp only[h,go_sem]<;>(try simp only[dD] at h))
 |(refine aP.split (fun h=>?_) (fun h=>?_)<;>simp only[h,go_sem]<;>(try simp only[dD] at h))
 |((with_reducible refine And.intro ?_ ?_);(focus((simp;done)));(try simp only[hb,go_sem]))
 |(
  refine aa.ret ?_
  refine aN.is ?_;simp only[go_sem,aI,aH,aG,aK,aJ,aL]<;>(first|(rw[xz (.inl af)];exact⟨⟨rfl,rfl,rfl,rfl,rfl,rfl⟩,rfl⟩)|(rw[xz (.inr ab)];exact⟨⟨rfl,rfl,rfl,rfl,rfl,rfl⟩,rfl⟩)|(rw[xA af ab ab af];exact⟨⟨rfl,rfl,rfl,rfl,rfl,rfl⟩,rfl⟩)|(rw[DH af ab ab af];exact⟨⟨rfl,rfl,rfl,rfl,rfl,rfl⟩,rfl⟩))))
theorem Rk(j:Kp.Jn)(hd:ep j.d):ai E 41 [ga j] (fun r t=>r= .ax [ga (Kp.ij j).1,i64 (Kp.ij j).2]∧t=[]):=by
 have hd0:=hd
 refine ai.aC (n:=27) (rs:=[.cell 2 51,.tmp 3]) Tryz.func41 rfl Tryz.ntmps41 rfl ?_
 repeat'(first
 |refine aa.ah fun K hK=>?_
 |(refine aa.region ?_;simp only[go_sem])
 |(refine hK _ ?_;clear hK K)
 |refine aa.cond rfl (fun c=>?_) (fun c=>?_)<;>(try simp only[dD] at c)
 |refine aa.skip ?_
 |(refine ak.one (zT j hd0) ae rfl ?_;simp only[go_sem])
 |(refine ak.one (zW j hd0) ae rfl ?_;simp only[go_sem])
 |(refine ak.one (yW j.d j.at' hd0) ae rfl ?_;simp only[go_sem])
 |(
  refine aa.ret ?_
  refine aN.is ?_;simp only[go_sem,aI,aH,aG,aK,aJ,aL]<;>(first|(rw[Rl af];exact⟨⟨rfl,rfl,rfl,rfl,rfl,rfl⟩,rfl⟩)|(exfalso;exact absurd (YF af) af)|(rw[Rm af];exact⟨⟨rfl,rfl,rfl,rfl,rfl,rfl⟩,rfl⟩))))
theorem zS(j:Kp.Jn)(k0 k1:Int)(hd:ep j.d):ai E 19 [ga j,.agg [i64 k0,i64 k1]] (fun r t=>r=cH (Kp.fp j k0 k1)∧t=[]):=by
 refine ai.aC (n:=9) (rs:=[.cell 4 49]) Tryz.func19 rfl Tryz.ntmps19 rfl ?_
 repeat'(first
 |refine aa.ah fun K hK=>?_
 |(refine aa.region ?_;simp only[go_sem])
 |(refine hK _ ?_;clear hK K)
 |(refine ak.one (LM j.d k0 k1 hd) ae rfl ?_;simp only[go_sem])
 |(
  refine aa.ret ?_
  refine aN.is ?_;simp only[go_sem,aI,aH,aG,aK,aJ,aL]<;>(exact⟨rfl,rfl,rfl,rfl⟩)))
theorem Rf(d:Kp.Dk)(hd:Kp.bV d=true):ai E 100 [cH d,i64 0,i64 1,.aw] (fun r t=>r= .ax [cH (Kp.o4 d 0 1 []),i64 0]∧t=[]):=by
 have hsm:=fa hd
 have hc1:=yC d 0 0 hsm
 rw[LI hd] at hc1
 have hc2:=yX ⟨⟨[],[]⟩,d.f1⟩ 0 (Kp.recC Kp.bX) ⟨by simp,by simp,hsm.2.2.1,hsm.2.2.2⟩ (by rw[Kp.eD];decide)
 rw[abI hd] at hc2
 have hc3:=yW ⟨⟨[],Kp.recC Kp.bX⟩,d.f1⟩ 0 ⟨by simp,by show(Kp.recC Kp.bX).length≤_;rw[Kp.eD];decide,hsm.2.2.1,hsm.2.2.2⟩
 rw[YD hd] at hc3
 refine ai.aC (n:=64) (rs:=[.cell 8 49,.tmp 9]) Tryz.func100 rfl Tryz.ntmps100 rfl ?_
 repeat'(first
 |refine aa.ah fun K hK=>?_
 |(
  refine aa.here 5 19 8 rfl ?_
  have hlk:(Kp.bX.take (k+1)).length=k+1:=by rw[List.length_take];show min (k+1) 9=k+1;omega
  refine aa.region ?_;simp only[go_sem,hlk])
 |(
  refine aa.here 6 26 4 rfl ?_
  obtain rfl:k=8:=by omega
  simp only[O3]
  refine aa.region ?_;simp only[go_sem,zd])
 |(
  refine aa.here 7 30 7 rfl ?_
  refine aa.region ?_;simp only[go_sem,zd])
 |(refine aa.region ?_;simp only[go_sem])
 |(refine hK _ ?_;clear hK K)
 |refine aa.block ?_
 |refine aa.cond rfl (fun c=>?_) (fun c=>?_)<;>first|exact Bool.noConfusion c|(try simp only[dD] at c)
 |refine aa.skip ?_
 |(refine aa.exit ?_;simp only[go_sem])
 |(refine ak.one (yw Kp.bX aj aj) ae rfl ?_;simp only[go_sem])
 |(refine ak.one (hc1) ae rfl ?_;simp only[go_sem])
 |(refine ak.one (hc2) ae rfl ?_;simp only[go_sem])
 |(refine ak.one (hc3) ae rfl ?_;simp only[go_sem])
 |((with_reducible refine And.intro ?_ ?_);(focus(omega));(try simp only[hb,go_sem]))
 |(
  refine aa.here 3 15 2 rfl ?_
  refine aa.dT (ι:=Nat) [15,16,17,18,19,20,21,22,23,24,25] (fun(k:Nat)=>[(11,i64 (56-8*(k:Int))),(10,.sl (some 0) 1 ((Kp.bX.take (k+1)).map u8))]) (fun(k:Nat)=>[some [cH d],some [.agg [.aw,.aw,.aw,.aw]]]) (fun(k:Nat)=>[k+1]) (fun(k:Nat)=>k≤8) (fun(k:Nat)=>8-k) (0) ?_ ?_ ?_
  ·(try simp only[go_sem]);(try rw[ze (k:=k) ab,Cw (k:=k) ab]);(repeat'(first|refine And.intro ?_ ?_|exact gT|exact nk|exact .inr rfl))
  ·omega
  rintro k h1
  simp only[go_sem])
 |(
  refine⟨k+1,⟨⟨.inr ?_,.inr ?_⟩,⟨gT,nk⟩,rfl⟩,by omega,by omega⟩
  ·rw[ze (k:=k) ab]
  ·rw[Cw (k:=k) ab])
 |(
  refine aa.ret ?_
  refine aN.is ?_;simp only[go_sem,aI,aH,aG,aK,aJ,aL]<;>(first|fail))
 |refine aa.fin af ?_)
def s8(x:Kp.Jn×List UInt8×List (List UInt8)×Int):AV:= .ax [ga x.1,aU x.2.1,.sl none 1 (x.2.2.1.map aU),i64 x.2.2.2]
theorem Vf{d:Kp.Dk}(h:Kp.bV d=false):Kp.bP d=(⟨⟨⟨[],[]⟩,⟨[],[]⟩⟩,0,0⟩,[],[],1):=by unfold Kp.bP;rw[h];rfl
def lF:Option Kp.Ct→AV
 |none=>kx
 |some c=>nJ c
def nQ:Option Kp.Ct→Int
 |none=>0
 |some c=>c.gen
def mc(s:Int×Option Kp.Ct)(n:Nat):Option Kp.Ct→Int×Option Kp.Ct
 |none=>s
 |some c=>if s.1<0∨nQ s.2<c.gen then((n:Int),some c) else s
def gK(d:Kp.Dk):Nat→Int×Option Kp.Ct
 |0=>(-1,none)
 |n+1=>mc (gK d n) n (Kp.dz (Kp.de d (n:Int)))
theorem Yp{d:Kp.Dk}{i:Nat}{s:Int×Option Kp.Ct}(hq:Kp.dz (Kp.de d (i:Int))=none)(hs:gK d i=s):gK d (i+1)=s:=by rw[gK,hq,hs];rfl
theorem Yq{d:Kp.Dk}{i:Nat}{s:Int×Option Kp.Ct}{c:Kp.Ct}(hq:Kp.dz (Kp.de d (i:Int))=some c)(hs:gK d i=s)(h:s.1<0∨nQ s.2<c.gen):gK d (i+1)=((i:Int),some c):=by rw[gK,hq,hs];exact if_pos h
theorem Yo{d:Kp.Dk}{i:Nat}{s:Int×Option Kp.Ct}{c:Kp.Ct}(hq:Kp.dz (Kp.de d (i:Int))=some c)(hs:gK d i=s)(h:¬(s.1<0∨nQ s.2<c.gen)):gK d (i+1)=s:=by rw[gK,hq,hs];exact if_neg h
theorem sQ{b:List UInt8}{c:Kp.Ct}(h:Kp.dz b=some c):c.long≤b.length:=by
 have h1:=(Kp.Au h).1
 have h2:=Kp.r5 b.length b (Nat.le_refl _)
 have h3:=congrArg List.length h2.2.2.1
 rw[List.length_append] at h3
 omega
theorem LF{o:Option Kp.Ct}{no nt:Nat}:∀e∈[lF o],∀z∈e.leaves,z.bw no nt=true:=by
 intro e he z hz
 simp only[List.mem_singleton] at he
 subst he
 cases o<;>(simp only[lF,kx,nJ,AV.leaves,List.mem_cons,List.not_mem_nil,or_false] at hz;rcases hz with rfl|rfl|rfl|rfl<;>rfl)
theorem yx{o:Option Kp.Ct}{no nt:Nat}:some [lF o]=none∨some [lF o]=some [lF o]∧∀es,some [lF o]=some es→∀e∈es,∀z∈e.leaves,z.bw no nt=true:= .inr ⟨rfl,fun es h=>by cases h;exact LF⟩
theorem Yr{d:Kp.Dk}(hr:Kp.bV d=true):(gK d 2=(-1,none)∧Kp.bP d=(⟨Kp.o4 d 0 1 [],0,1⟩,[],[],0))∨
 ∃(n:Int) (c:Kp.Ct),(n=0∨n=1)∧gK d 2=(n,some c)∧c.long≤(Kp.de d n).length∧(Kp.gS d n c.long).2=0∧Kp.bP d=(⟨(Kp.gS d n c.long).1,n,c.gen⟩,c.snap,c.jt,0):=by
 have r0:Kp.de d ((0:Nat):Int)=Kp.bu d.f0:=pO hr rfl
 have r1:Kp.de d ((1:Nat):Int)=Kp.bu d.f1:=pO hr rfl
 have r0':Kp.de d 0=Kp.bu d.f0:=pO hr rfl
 have r1':Kp.de d 1=Kp.bu d.f1:=pO hr rfl
 have e2:gK d 2=mc (mc (-1,none) 0 (Kp.dz (Kp.bu d.f0))) 1 (Kp.dz (Kp.bu d.f1)):=by show mc (mc (-1,none) 0 (Kp.dz (Kp.de d ((0:Nat):Int)))) 1 (Kp.dz (Kp.de d ((1:Nat):Int)))=_;rw[r0,r1]
 have c0:∀c:Kp.Ct,c.long≤(Kp.bu d.f0).length→Kp.gS d 0 c.long=(Kp.eo d 0 ⟨(Kp.bu d.f0).take c.long,[]⟩,0):=by
  intro c hc;rw[uT hr ab (by rw[r0'];omega),r0'];simp[Kp.eo]
 have c1:∀c:Kp.Ct,c.long≤(Kp.bu d.f1).length→Kp.gS d 1 c.long=(Kp.eo d 1 ⟨(Kp.bu d.f1).take c.long,[]⟩,0):=by
  intro c hc;rw[yz hr ab (by rw[r1'];omega),r1'];simp[Kp.eo]
 rw[e2]
 unfold Kp.bP
 rw[if_pos hr]
 rcases h0:Kp.dz (Kp.bu d.f0) with _|a<;>rcases h1:Kp.dz (Kp.bu d.f1) with _|b
 ·exact .inl ⟨rfl,rfl⟩
 ·have:=sQ h1
  exact .inr ⟨1,b,.inr rfl,by simp[mc],by rw[r1'];exact this,by rw[c1 b this],by rw[c1 b this]⟩
 ·have:=sQ h0
  exact .inr ⟨0,a,.inl rfl,by simp[mc],by rw[r0'];exact this,by rw[c0 a this],by rw[c0 a this]⟩
 ·have l1:=sQ h1
  have l0:=sQ h0
  by_cases hg:a.gen<b.gen
  ·exact .inr ⟨1,b,.inr rfl,by simp[mc,nQ,hg],by rw[r1'];exact l1,by rw[c1 b l1],by rw[c1 b l1];simp[hg]⟩
  ·exact .inr ⟨0,a,.inl rfl,by simp[mc,nQ,hg],by rw[r0'];exact l0,by rw[c0 a l0],by rw[c0 a l0];simp[hg]⟩
theorem Ri(d:Kp.Dk)(hd:ep d)(hr:Kp.bV d=false):ai E 45 [cH d] (fun r t=>r=s8 (Kp.bP d)∧t=[]):=by
 rw[Vf hr]
 refine ai.aC (n:=73) (rs:=[.cell 2 51,.tmp 3,.tmp 4,.tmp 5]) Tryz.func45 rfl Tryz.ntmps45 rfl ?_
 repeat'(first
 |refine aa.ah fun K hK=>?_
 |(refine aa.region ?_;simp only[go_sem])
 |(refine hK _ ?_;clear hK K)
 |refine aa.block ?_
 |refine aa.cond rfl (fun c=>?_) (fun c=>?_)<;>(try simp only[dD] at c)
 |refine aa.skip ?_
 |(refine ak.one (mB d hd) ae rfl ?_;simp only[go_sem])
 |(
  refine aa.ret ?_
  refine aN.is ?_;simp only[go_sem,aI,aH,aG,aK,aJ,aL,s8]<;>(trivial))
 |(exact Bool.noConfusion (hr.symm.trans c)))
theorem Rj(d:Kp.Dk)(hr:Kp.bV d=true):ai E 45 [cH d] (fun r t=>r=s8 (Kp.bP d)∧t=[]):=by
 have hd:=fa hr
 refine ai.aC (n:=73) (rs:=[.cell 2 51,.tmp 3,.tmp 4,.tmp 5]) Tryz.func45 rfl Tryz.ntmps45 rfl ?_
 repeat'(first
 |refine aa.ah fun K hK=>?_
 |(
  refine aa.here 8 20 10 rfl ?_
  have hl:=To (Kp.de d (i:Int)) (wz hd)
  generalize hq:Kp.dz (Kp.de d (i:Int))=q at hl
  generalize hs:gK d i=s
  obtain⟨at1,o⟩:=s
  rcases q with _|cq<;>rcases o with _|co<;>simp only[lG,kx,nJ] at hl<;>(try simp only[lF,kx,nJ])
  all_goals(refine aa.region ?_;simp only[go_sem]))
 |(
  refine aa.here 12 11 1 rfl ?_
  obtain rfl:i=2:=by omega
  rcases Yr hr with⟨e1,e2⟩|⟨n,cc,hn,e1,e3,hz,e2⟩
  rotate_left
  have hcut:=yC d n cc.long hd
  rw[hz] at hcut
  rotate_right
  all_goals(simp only[e1,lF,kx,nJ])
  all_goals(refine aa.region ?_;simp only[go_sem]))
 |(refine aa.region ?_;simp only[go_sem])
 |(refine aa.here 10 38 4 rfl ?_;refine aa.bB [0,1,2,3] [] ae ae rfl ?_;simp only[go_sem])
 |(refine aa.here 19 64 13 rfl ?_;apply aa.oC (.take 0 (.take 1 (.take 2 (.take 3 (.take 4 (.take 5 (.take 7 (.fork (.alt 6 (.fork (.alt 8 (.take 9 (.take 10 (.take 11 (.take 12 .done)))) (.alt 9 (.take 8 (.take 10 (.take 11 (.take 12 .done)))) .ends))) (.alt 8 (.fork (.alt 6 (.take 9 (.take 10 (.take 11 (.take 12 .done)))) (.alt 9 (.take 6 (.take 10 (.take 11 (.take 12 .done)))) .ends))) (.alt 9 (.take 6 (.take 8 (.take 10 (.take 11 (.take 12 .done))))) .ends))))))))))) [[],[],[],[2],[0,1,2,3],[],[5],[],[7],[0,1,2,3,4],[0,1,2,3,4,5,6,9],[0,1,2,3,4,5,6,7,8,9,10],[0,1,2,3,4,5,6,7,8,9,10,11]] [] ae ae aj;simp only[go_sem])
 |(refine hK _ ?_;clear hK K)
 |refine aa.block ?_
 |refine aa.cond rfl (fun c=>?_) (fun c=>?_)<;>first|exact Bool.noConfusion c|(try simp only[dD] at c)
 |refine aa.skip ?_
 |(refine aa.exit ?_;simp only[go_sem])
 |(refine ak.one (mB d hd) ae rfl ?_;simp only[go_sem])
 |(refine ak.one (uX d (i:Int) hd) ae rfl ?_;simp only[go_sem])
 |(refine ak.one (hl) ae rfl ?_;simp only[go_sem])
 |(refine ak.one (Rf d hr) ae rfl ?_;simp only[go_sem])
 |(refine ak.one (hcut) ae rfl ?_;simp only[go_sem])
 |(refine aP.du (fun h=>?_) (fun h=>?_)<;>simp only[h,go_sem]<;>(try simp only[dD] at h))
 |((with_reducible refine And.intro ?_ ?_);(focus(omega));(try simp only[hb,go_sem]))
 |exact rfl
 |(
  refine aa.here 6 17 1 rfl ?_
  refine aa.dT (ι:=Nat) [8,9,10,17,18,19,20,21,22,23,24,25,26,27,28,29,30,31,32,33,34,35,36,37,38,39,40] (fun(i:Nat)=>[(16,i64 i),(6,i64 (gK d i).1)]) (fun(i:Nat)=>[some [cH d],some [tS],some [lF (gK d i).2]]) (fun(i:Nat)=>[]) (fun(i:Nat)=>i≤2) (fun(i:Nat)=>2-i) (0) ?_ ?_ ?_
  ·(try simp only[go_sem]);(try simp only[go_sem,fg,fh]);(repeat'(first|exact gT|exact rF|exact yx|refine And.intro ?_ ?_|exact .inr rfl))
  ·omega
  rintro i h1
  simp only[go_sem])
 |(
  refine⟨i+1,?_,?_,?_⟩
  ·(try simp only[go_sem]);(try rw[aM ab ab]);(first|rw[Yp hq hs]|rw[Yq hq hs (by dsimp only[nQ];omega)]|rw[Yo hq hs (by dsimp only[nQ];omega)]);(try simp only[go_sem,fg,fh]);(repeat'(first|exact gT|exact rF|exact yx|refine And.intro ?_ ?_|exact .inr rfl))
  ·omega
  ·(try simp only[]);omega)
 |(
  refine aa.ret ?_
  refine aN.is ?_;simp only[go_sem,aI,aH,aG,aK,aJ,aL,s8]<;>(first|(rw[e2];(trivial))|skip))
 |(exact Bool.noConfusion (hr.symm.trans c))
 |(exfalso;omega)
 |refine aa.fin af ?_)
end Go.Proofs.YthoonfpkfdjhiaaGreatDoor
end
section
namespace Go.Proofs.YthoonfpkfdjhiaaGreatDoor
open Go Go.az Go.RowKit Go.Bk
noncomputable def ED:Env:={ P:=Tryz.prog,ok:=okW,mono:=fun _ _ hb h=>A1 hb h,gl:=fun _=>none,dr:=True }
@[go_sem] theorem ace:ED.P=Tryz.prog:=rfl
@[go_sem] theorem acf:ED.gl=fun _=>none:=rfl
@[go_sem] theorem ach:E.gl=fun _=>none:=rfl
abbrev cK(f:Dn):AV:= .agg [str f.id,str f.ord,str f.acc,str f.sym,bl f.aD,i64 f.au,i64 f.aE,i64 f.time,bl f.live]
abbrev bz(l:List Od):AV:= .sl none 8 (l.map bf)
abbrev dp(l:List Dn):AV:= .sl none 9 (l.map cK)
theorem yg(s:Bs):∀x∈(AV.agg [str s]).leaves,x.dR=some x:=by
 intro x hx
 simp only[AV.leaves,List.mem_cons,List.not_mem_nil,or_false] at hx
 subst hx;rfl
theorem jq(l:List Od):∀e∈l.map bf,∀x∈e.leaves,x.dR=some x:=by
 intro e he x hx
 obtain⟨o,_,rfl⟩:=List.mem_map.1 he
 simp only[AV.leaves,List.mem_cons,List.not_mem_nil,or_false] at hx
 rcases hx with rfl|rfl|rfl|rfl|rfl|rfl|rfl|rfl<;>rfl
theorem sj(l:List Dn):∀e∈l.map cK,∀x∈e.leaves,x.dR=some x:=by
 intro e he x hx
 obtain⟨o,_,rfl⟩:=List.mem_map.1 he
 simp only[AV.leaves,List.mem_cons,List.not_mem_nil,or_false] at hx
 rcases hx with rfl|rfl|rfl|rfl|rfl|rfl|rfl|rfl|rfl<;>rfl
theorem Kz(x:Ex):∀y∈(ao x).leaves,y.dR=some y:=by
 intro y hx
 simp only[AV.leaves,List.mem_cons,List.not_mem_nil,or_false] at hx
 rcases hx with rfl|rfl|rfl|rfl|rfl|rfl|rfl|rfl|rfl|rfl<;>rfl
theorem tg(l:List Od):∀e∈l.map bf,e.leaves.length=8∧∀y∈e.leaves,∃z,y= .v z:=by
 intro e he
 obtain⟨o,_,rfl⟩:=List.mem_map.1 he
 refine⟨rfl,fun x hx=>?_⟩
 simp only[AV.leaves,List.mem_cons,List.not_mem_nil,or_false] at hx
 rcases hx with rfl|rfl|rfl|rfl|rfl|rfl|rfl|rfl<;>exact⟨_,rfl⟩
theorem sY{l:List Od}{n:Nat}{o:Od}(h:l[n]?=some o)(sp:List AV):(l.map bf++sp)[n]?=some (bf o):=by
 have hn:n<l.length:=by
  rcases Nat.lt_or_ge n l.length with h'|h'
  ·exact h'
  ·rw[List.getElem?_eq_none h'] at h;simp at h
 rw[List.getElem?_append_left (by simpa using hn),List.getElem?_map,h];rfl
theorem sZ{l:List Od}{n:Nat}{o o':Od}(h:l[n]?=some o)(sp:List AV):(l.map bf++sp).set n (bf o')=(l.set n o').map bf++sp:=by
 have hn:n<l.length:=by
  rcases Nat.lt_or_ge n l.length with h'|h'
  ·exact h'
  ·rw[List.getElem?_eq_none h'] at h;simp at h
 rw[List.set_append_left _ _ (by simpa using hn),List.map_set]
theorem S6{o:Od}(h1:bY o=true)(h2:o.b9=true):IntKind.i64.wrap (o.au-o.done)=eI o:=by
 have h:=h1
 simp only[bY,ch,Bool.and_eq_true,decide_eq_true_eq] at h
 rw[aM ab ab]
 simp[eI,h1,h2]
theorem TT(n:Int):ai E 112 [i64 n] (fun r t=>r=bl (ch n)∧t=[]):=by
 refine ai.aC (n:=9) (rs:=[.tmp 2]) Tryz.func112 rfl Tryz.ntmps112 rfl ?_
 refine aa.ah fun K1 hK1=>?_
 refine aa.region ?_
 simp only[go_sem]
 refine hK1 _ ?_;clear hK1 K1
 refine aa.ah fun K2 hK2=>?_
 refine aa.region ?_
 simp only[go_sem]
 repeat'((refine aP.split (fun h=>?_) (fun h=>?_)<;>simp only[h,go_sem]<;>try simp only[dD] at h))
 all_goals(
  refine hK2 _ ?_;clear hK2 K2
  refine aa.ret ?_
  try simp only[go_sem]
  exact⟨[],.v _,rfl,rfl,by simp_all[ch]<;>omega,rfl⟩)
theorem T0(n:Int):ai E 113 [i64 n] (fun r t=>r=bl (cp n)∧t=[]):=by
 refine ai.aC (n:=9) (rs:=[.tmp 2]) Tryz.func113 rfl Tryz.ntmps113 rfl ?_
 refine aa.ah fun K1 hK1=>?_
 refine aa.region ?_
 simp only[go_sem]
 refine hK1 _ ?_;clear hK1 K1
 refine aa.ah fun K2 hK2=>?_
 refine aa.region ?_
 simp only[go_sem]
 repeat'((refine aP.split (fun h=>?_) (fun h=>?_)<;>simp only[h,go_sem]<;>try simp only[dD] at h))
 all_goals(
  refine hK2 _ ?_;clear hK2 K2
  refine aa.ret ?_
  try simp only[go_sem]
  exact⟨[],.v _,rfl,rfl,by simp_all[cp]<;>omega,rfl⟩)
theorem Va(s:Bs):ai E 166 [str s] (fun r t=>r=bl (lW s)∧t=[]):=by
 refine ai.aC (n:=10) (rs:=[.tmp 2]) Tryz.func166 rfl Tryz.ntmps166 rfl ?_
 refine aa.ah fun K1 hK1=>?_
 refine aa.region ?_
 simp only[go_sem]
 refine hK1 _ ?_;clear hK1 K1
 refine aa.ah fun K2 hK2=>?_
 refine aa.region ?_
 simp only[go_sem]
 repeat'((refine aP.du (fun h=>?_) (fun h=>?_)<;>simp only[h,go_sem]<;>try simp only[dD] at h))
 all_goals(
  refine hK2 _ ?_;clear hK2 K2
  refine aa.ret ?_
  try simp only[go_sem]
  exact⟨[],.v _,rfl,rfl,by simp_all[lW]<;>omega,rfl⟩)
theorem AU(n:Int):ai E 167 [i64 n] (fun r t=>r=bl (ch n)∧t=[]):=by
 refine ai.aC (n:=9) (rs:=[.tmp 2]) Tryz.func167 rfl Tryz.ntmps167 rfl ?_
 refine aa.ah fun K1 hK1=>?_
 refine aa.region ?_
 simp only[go_sem]
 refine hK1 _ ?_;clear hK1 K1
 refine aa.ah fun K2 hK2=>?_
 refine aa.region ?_
 simp only[go_sem]
 repeat'((refine aP.split (fun h=>?_) (fun h=>?_)<;>simp only[h,go_sem]<;>try simp only[dD] at h))
 all_goals(
  refine hK2 _ ?_;clear hK2 K2
  refine aa.ret ?_
  try simp only[go_sem]
  exact⟨[],.v _,rfl,rfl,by simp_all[ch]<;>omega,rfl⟩)
theorem uE(n:Int):ai E 147 [i64 n] (fun r t=>r=bl (ch n)∧t=[]):=by
 refine ai.aC (n:=9) (rs:=[.tmp 2]) Tryz.func147 rfl Tryz.ntmps147 rfl ?_
 refine aa.ah fun K1 hK1=>?_
 refine aa.region ?_
 simp only[go_sem]
 refine hK1 _ ?_;clear hK1 K1
 refine aa.ah fun K2 hK2=>?_
 refine aa.region ?_
 simp only[go_sem]
 repeat'((refine aP.split (fun h=>?_) (fun h=>?_)<;>simp only[h,go_sem]<;>try simp only[dD] at h))
 all_goals(
  refine hK2 _ ?_;clear hK2 K2
  refine aa.ret ?_
  try simp only[go_sem]
  exact⟨[],.v _,rfl,rfl,by simp_all[ch]<;>omega,rfl⟩)
theorem TQ(s:Bs):ai E 111 [str s] (fun r t=>r=bl (cm s)∧t=[]):=by
 refine ai.aC (n:=45) (rs:=[.tmp 2]) Tryz.func111 rfl Tryz.ntmps111 rfl ?_
 refine aa.ah fun K1 hK1=>?_
 refine aa.region ?_
 simp only[go_sem]
 refine hK1 _ ?_;clear hK1 K1
 refine aa.ah fun K2 hK2=>?_
 refine aa.ah fun K3 hK3=>?_
 refine aa.region ?_
 simp only[go_sem]
 repeat'((refine aP.du (fun h=>?_) (fun h=>?_)<;>simp only[h,go_sem]<;>try simp only[dD] at h))
 all_goals(
  refine hK3 _ ?_;clear hK3 K3
  refine aa.cond rfl (fun c12=>?_) (fun c12=>?_)
  ·(
    try simp only[dD] at c12
    refine aa.ah fun K4 hK4=>?_
    refine aa.region ?_
    simp only[go_sem]
    refine hK4 _ ?_;clear hK4 K4
    refine aa.ret ?_
    try simp only[go_sem]
    clear hK2 K2
    (exact⟨[],.v _,rfl,rfl,congrArg bl (vT ab).symm,rfl⟩))
  ·first|exact Bool.noConfusion c12|(
    try simp only[dD] at c12
    refine aa.skip ?_
    refine hK2 _ ?_;clear hK2 K2
    refine aa.ah fun K5 hK5=>?_
    refine aa.ah fun K6 hK6=>?_
    refine aa.region ?_
    simp only[go_sem]
    refine hK6 _ ?_;clear hK6 K6
    refine aa.block ?_
    refine aa.mN (ι:=Nat) [2,3,4,16,17,18,19,20,21,22,23,24,25,26,27,28,29,30,31,32,33,34,35,36,37,38,39,40,41,42,43,44] (fun(i:Nat)=>[(15,i64 i)]) (fun(i:Nat)=>i≤s.length∧s.length≤16∧(s.take i).all isName=true) (fun(i:Nat)=>s.length-i) (0) ?_ ?_ ?_
    ·(try simp only[go_sem]);try(simp;done)
    ·exact⟨by omega,by omega,by simp⟩
    rintro i ⟨h1,h2,h3⟩
    simp only[go_sem]
    refine aa.ah fun K7 hK7=>?_
    refine aa.region ?_
    simp only[go_sem]
    refine hK7 _ ?_;clear hK7 K7
    refine aa.ah fun K8 hK8=>?_
    refine aa.cond rfl (fun c16=>?_) (fun c16=>?_)
    ·(
      try simp only[dD] at c16
      refine aa.skip ?_
      refine hK8 _ ?_;clear hK8 K8
      refine aa.ah fun K9 hK9=>?_
      refine aa.block ?_
      refine aa.ah fun K10 hK10=>?_
      refine aa.region ?_
      simp only[go_sem]
      refine hK10 _ ?_;clear hK10 K10
      refine aa.ah fun K11 hK11=>?_
      refine aa.region ?_
      simp only[go_sem]
      repeat'(((refine aQ.mR ?_ (fun b hb=>?_));(focus((omega)));(try simp only[hb,go_sem])))
      refine hK11 _ ?_;clear hK11 K11
      refine aa.ah fun K12 hK12=>?_
      refine aa.region ?_
      simp only[go_sem]
      repeat'(first|(refine aP.du (fun h=>?_) (fun h=>?_)<;>simp only[h,go_sem]<;>try simp only[dD] at h)|(refine aP.split (fun h=>?_) (fun h=>?_)<;>simp only[h,go_sem]<;>try simp only[dD] at h))
      all_goals(
       refine hK12 _ ?_;clear hK12 K12
       refine aa.cond rfl (fun c43=>?_) (fun c43=>?_)
       ·first|exact Bool.noConfusion c43|(
         try simp only[dD] at c43
         refine aa.ah fun K13 hK13=>?_
         refine aa.region ?_
         simp only[go_sem]
         refine hK13 _ ?_;clear hK13 K13
         refine aa.ret ?_
         try simp only[go_sem]
         clear hK9 K9 hK5 K5
         first
         |exact⟨[],.v _,rfl,rfl,congrArg bl (vT ab).symm,rfl⟩
         |exact⟨[],.v _,rfl,rfl,congrArg bl (AI hb (by simp only[isName];simp;omega)).symm,rfl⟩)
       ·first|exact Bool.noConfusion c43|(
         try simp only[dD] at c43
         refine aa.skip ?_
         refine hK9 _ ?_;clear hK9 K9
         refine aa.region ?_
         simp only[go_sem]
         clear hK5 K5
         refine⟨i+1,?_,?_,?_⟩
         ·(try simp only[go_sem]);(try rw[aM ab ab]);simp
         ·exact⟨by omega,by omega,jQ hb h3 (by simp only[isName];simp;omega)⟩
         ·omega)))
    ·(
      try simp only[dD] at c16
      refine aa.exit ?_
      simp only[go_sem]
      clear hK8 K8
      refine hK5 _ ?_;clear hK5 K5
      refine aa.ah fun K14 hK14=>?_
      refine aa.region ?_
      simp only[go_sem]
      refine hK14 _ ?_;clear hK14 K14
      refine aa.ret ?_
      try simp only[go_sem]
      (exact⟨[],.v _,rfl,rfl,congrArg bl (AJ ab ab h3).symm,rfl⟩))))
theorem ou(o:Od):ai E 129 [bf o] (fun r t=>r=bl (bY o)∧t=[]):=by
 refine ai.aC (n:=38) (rs:=[.tmp 2]) Tryz.func129 rfl Tryz.ntmps129 rfl ?_
 refine aa.ah fun K1 hK1=>?_
 refine aa.region ?_
 simp only[go_sem]
 refine hK1 _ ?_;clear hK1 K1
 refine aa.ah fun K2 hK2=>?_
 refine aa.region ?_
 simp only[go_sem]
 repeat'(first|(refine ak.one (Va _) ae rfl ?_;simp only[go_sem])|(refine ak.one (AU _) ae rfl ?_;simp only[go_sem])|(refine aP.split (fun h=>?_) (fun h=>?_)<;>simp only[h,go_sem]<;>try simp only[dD] at h))
 all_goals(
  refine hK2 _ ?_;clear hK2 K2
  refine aa.ret ?_
  try simp only[go_sem]
  exact⟨[],.v _,rfl,rfl,by(simp_all[bY]<;>(intros;omega)),rfl⟩)
theorem A4(o:Od):ai E 251 [bf o] (fun r t=>r=i64 (eI o)∧t=[]):=by
 refine ai.aC (n:=16) (rs:=[.tmp 2]) Tryz.func251 rfl Tryz.ntmps251 rfl ?_
 refine aa.ah fun K1 hK1=>?_
 refine aa.region ?_
 simp only[go_sem]
 refine hK1 _ ?_;clear hK1 K1
 refine aa.ah fun K2 hK2=>?_
 refine aa.ah fun K3 hK3=>?_
 refine aa.region ?_
 simp only[go_sem]
 repeat'(first|(refine ak.one (ou _) ae rfl ?_;simp only[go_sem])|(refine aP.split (fun h=>?_) (fun h=>?_)<;>simp only[h,go_sem]<;>try simp only[dD] at h))
 all_goals(
  refine hK3 _ ?_;clear hK3 K3
  refine aa.cond rfl (fun c10=>?_) (fun c10=>?_)
  ·(
    try simp only[dD] at c10
    refine aa.ah fun K4 hK4=>?_
    refine aa.region ?_
    simp only[go_sem]
    refine hK4 _ ?_;clear hK4 K4
    refine aa.ret ?_
    try simp only[go_sem]
    clear hK2 K2
    exact⟨[],.v _,rfl,rfl,by((simp_all[eI];done)),rfl⟩)
  ·first|exact Bool.noConfusion c10|(
    try simp only[dD] at c10
    refine aa.skip ?_
    refine hK2 _ ?_;clear hK2 K2
    refine aa.ah fun K5 hK5=>?_
    refine aa.region ?_
    simp only[go_sem]
    refine hK5 _ ?_;clear hK5 K5
    refine aa.ret ?_
    try simp only[go_sem]
    exact⟨[],.v _,rfl,rfl,by((rw[S6 af af])),rfl⟩))
theorem UX(o:Od)(p:Int):ai E 287 [bf o,i64 p] (fun r t=>r=bl (iy o p)∧t=[]):=by
 refine ai.aC (n:=18) (rs:=[.tmp 4]) Tryz.func287 rfl Tryz.ntmps287 rfl ?_
 refine aa.ah fun K1 hK1=>?_
 refine aa.region ?_
 simp only[go_sem]
 refine hK1 _ ?_;clear hK1 K1
 refine aa.ah fun K2 hK2=>?_
 refine aa.ah fun K3 hK3=>?_
 refine aa.region ?_
 simp only[go_sem]
 repeat'((refine ak.one (AU _) ae rfl ?_;simp only[go_sem]))
 refine hK3 _ ?_;clear hK3 K3
 refine aa.cond rfl (fun c7=>?_) (fun c7=>?_)
 ·(
   try simp only[dD] at c7
   refine aa.ah fun K4 hK4=>?_
   refine aa.region ?_
   simp only[go_sem]
   refine hK4 _ ?_;clear hK4 K4
   refine aa.ret ?_
   try simp only[go_sem]
   clear hK2 K2
   exact⟨[],.v _,rfl,rfl,by simp_all[iy],rfl⟩)
 ·(
   try simp only[dD] at c7
   refine aa.skip ?_
   refine hK2 _ ?_;clear hK2 K2
   refine aa.ah fun K5 hK5=>?_
   refine aa.ah fun K6 hK6=>?_
   refine aa.region ?_
   simp only[go_sem]
   refine hK6 _ ?_;clear hK6 K6
   refine aa.cond rfl (fun c9=>?_) (fun c9=>?_)
   ·(
     try simp only[dD] at c9
     refine aa.ah fun K7 hK7=>?_
     refine aa.region ?_
     simp only[go_sem]
     refine hK7 _ ?_;clear hK7 K7
     refine aa.ret ?_
     try simp only[go_sem]
     clear hK5 K5
     exact⟨[],.v _,rfl,rfl,by simp_all[iy],rfl⟩)
   ·(
     try simp only[dD] at c9
     refine aa.skip ?_
     refine hK5 _ ?_;clear hK5 K5
     refine aa.ah fun K8 hK8=>?_
     refine aa.region ?_
     simp only[go_sem]
     refine hK8 _ ?_;clear hK8 K8
     refine aa.ret ?_
     try simp only[go_sem]
     exact⟨[],.v _,rfl,rfl,by simp_all[iy],rfl⟩))
theorem Fq(o:Od)(b:Bool)(p:Int):ai E 276 [bf o,bl b,i64 p] (fun r t=>r=bl (iy { o with aD:=b } p)∧t=[]):=by
 refine ai.aC (n:=24) (rs:=[.tmp 6]) Tryz.func276 rfl Tryz.ntmps276 rfl ?_
 refine aa.ah fun K1 hK1=>?_
 refine aa.region ?_
 simp only[go_sem]
 refine hK1 _ ?_;clear hK1 K1
 refine aa.ah fun K2 hK2=>?_
 refine aa.ah fun K3 hK3=>?_
 refine aa.region ?_
 simp only[go_sem]
 refine hK3 _ ?_;clear hK3 K3
 refine aa.cond rfl (fun c7=>?_) (fun c7=>?_)
 ·(
   try simp only[dD] at c7
   refine aa.ah fun K4 hK4=>?_
   refine aa.region ?_
   simp only[go_sem]
   repeat'(first|(refine ak.one (uE _) ae rfl ?_;simp only[go_sem])|(refine aP.split (fun h=>?_) (fun h=>?_)<;>simp only[h,go_sem]<;>try simp only[dD] at h))
   all_goals(
    refine hK4 _ ?_;clear hK4 K4
    refine aa.ret ?_
    try simp only[go_sem]
    clear hK2 K2
    exact⟨[],.v _,rfl,rfl,by simp_all[iy],rfl⟩))
 ·(
   try simp only[dD] at c7
   refine aa.skip ?_
   refine hK2 _ ?_;clear hK2 K2
   refine aa.ah fun K5 hK5=>?_
   refine aa.region ?_
   simp only[go_sem]
   repeat'(first|(refine ak.one (uE _) ae rfl ?_;simp only[go_sem])|(refine aP.split (fun h=>?_) (fun h=>?_)<;>simp only[h,go_sem]<;>try simp only[dD] at h))
   all_goals(
    refine hK5 _ ?_;clear hK5 K5
    refine aa.ret ?_
    try simp only[go_sem]
    exact⟨[],.v _,rfl,rfl,by simp_all[iy],rfl⟩))
theorem VN(o:Od)(id:Bs):ai E 187 [bf o,.bR [str id]] (fun r t=>r=bl (decide (o.id=id))∧t=[]):=by
 refine ai.aC (n:=8) (rs:=[.tmp 3]) Tryz.func187 rfl Tryz.ntmps187 rfl ?_
 refine aa.ah fun K1 hK1=>?_
 refine aa.region ?_
 simp only[go_sem]
 refine hK1 _ ?_;clear hK1 K1
 refine aa.ah fun K2 hK2=>?_
 refine aa.region ?_
 simp only[go_sem]
 refine hK2 _ ?_;clear hK2 K2
 refine aa.ret ?_
 try simp only[go_sem]
 exact⟨[],.v _,rfl,rfl,by simp_all,rfl⟩
theorem U1(l:List Od)(id:Bs)(hl:l.length≤9223372036854775807):ai E 174 [bz l,.fn 187 [.bR [str id]]] (fun r t=>r=i64 (ef l id)∧t=[]):=by
 refine ai.aC (n:=19) (rs:=[.tmp 4]) Tryz.func174 rfl Tryz.ntmps174 rfl ?_
 refine aa.ah fun K1 hK1=>?_
 refine aa.region ?_
 simp only[go_sem]
 refine hK1 _ ?_;clear hK1 K1
 refine aa.ah fun K2 hK2=>?_
 refine aa.ah fun K3 hK3=>?_
 refine aa.region ?_
 simp only[go_sem]
 repeat'(((with_reducible refine And.intro ?_ ?_);(focus(((simp;done))));(try simp only[hb,go_sem])))
 refine hK3 _ ?_;clear hK3 K3
 refine aa.block ?_
 refine aa.mN (ι:=Nat) [4,5,9,10,11,12,13,14,15,16,17,18] (fun(i:Nat)=>[(8,i64 i)]) (fun(i:Nat)=>i≤l.length∧(l.take i).all (fun o=>!decide (o.id=id))=true) (fun(i:Nat)=>l.length-i) (0) ?_ ?_ ?_
 ·(try simp only[go_sem]);try(simp;done)
 ·exact⟨by omega,by simp⟩
 rintro i ⟨h1,h2⟩
 simp only[go_sem]
 refine aa.ah fun K4 hK4=>?_
 refine aa.region ?_
 simp only[go_sem]
 refine hK4 _ ?_;clear hK4 K4
 refine aa.ah fun K5 hK5=>?_
 refine aa.cond rfl (fun c9=>?_) (fun c9=>?_)
 ·(
   try simp only[dD] at c9
   refine aa.skip ?_
   refine hK5 _ ?_;clear hK5 K5
   refine aa.ah fun K6 hK6=>?_
   refine aa.block ?_
   refine aa.ah fun K7 hK7=>?_
   refine aa.region ?_
   simp only[go_sem]
   refine hK7 _ ?_;clear hK7 K7
   refine aa.ah fun K8 hK8=>?_
   refine aa.region ?_
   simp only[go_sem]
   repeat'(first|(refine ak.one (VN _ _) ae rfl ?_;simp only[go_sem])|((refine aQ.nth ?_ (fun b hb=>?_));(focus((omega)));(try simp only[hb,go_sem])))
   refine hK8 _ ?_;clear hK8 K8
   refine aa.cond rfl (fun c16=>?_) (fun c16=>?_)
   ·(
     try simp only[dD] at c16
     refine aa.ah fun K9 hK9=>?_
     refine aa.region ?_
     simp only[go_sem]
     refine hK9 _ ?_;clear hK9 K9
     refine aa.ret ?_
     try simp only[go_sem]
     clear hK6 K6 hK2 K2
     (exact⟨[],.v _,rfl,rfl,by rw[VS hb af h2],rfl⟩))
   ·(
     try simp only[dD] at c16
     refine aa.skip ?_
     refine hK6 _ ?_;clear hK6 K6
     refine aa.region ?_
     simp only[go_sem]
     clear hK2 K2
     refine⟨i+1,?_,?_,?_⟩
     ·(try simp only[go_sem]);(try rw[aM ab ab]);simp
     ·exact⟨by omega,jQ hb h2 (by simp;assumption)⟩
     ·omega))
 ·(
   try simp only[dD] at c9
   refine aa.exit ?_
   simp only[go_sem]
   clear hK5 K5
   refine hK2 _ ?_;clear hK2 K2
   refine aa.ah fun K10 hK10=>?_
   refine aa.region ?_
   simp only[go_sem]
   refine hK10 _ ?_;clear hK10 K10
   refine aa.ret ?_
   try simp only[go_sem]
   (exact⟨[],.v _,rfl,rfl,by rw[VQ ab h2],rfl⟩))
theorem qZ(l:List Od)(id:Bs)(hl:l.length≤9223372036854775807):ai E 150 [bz l,str id] (fun r t=>r=i64 (ef l id)∧t=[]):=by
 refine ai.aC (n:=8) (rs:=[.tmp 4]) Tryz.func150 rfl Tryz.ntmps150 rfl ?_
 refine aa.ah fun K1 hK1=>?_
 refine aa.region ?_
 simp only[go_sem]
 refine hK1 _ ?_;clear hK1 K1
 refine aa.ah fun K2 hK2=>?_
 refine aa.region ?_
 simp only[go_sem]
 repeat'((refine ak.ie (U1 l id hl) ae rfl (.cons (.one (.clean rfl)) (.cons (.fn (.cons (.ptr (e:= .agg [str id]) rfl (yg id)) .nil)) .nil)) ?_;simp only[go_sem]))
 refine hK2 _ ?_;clear hK2 K2
 refine aa.ret ?_
 try simp only[go_sem]
 exact⟨[],.v _,rfl,rfl,rfl,rfl⟩
theorem mU(l:List Od)(hl:l.length≤9223372036854775807):ai E 107 [bz l] (fun r t=>r=bl (bG l)∧t=[]):=by
 refine ai.aC (n:=28) (rs:=[.tmp 2]) Tryz.func107 rfl Tryz.ntmps107 rfl ?_
 refine aa.ah fun K1 hK1=>?_
 refine aa.region ?_
 simp only[go_sem]
 refine hK1 _ ?_;clear hK1 K1
 refine aa.ah fun K2 hK2=>?_
 refine aa.ah fun K3 hK3=>?_
 refine aa.region ?_
 simp only[go_sem]
 repeat'(((with_reducible refine And.intro ?_ ?_);(focus(((simp;done))));(try simp only[hb,go_sem])))
 refine hK3 _ ?_;clear hK3 K3
 refine aa.cond rfl (fun c7=>?_) (fun c7=>?_)
 ·(
   try simp only[dD] at c7
   refine aa.ah fun K4 hK4=>?_
   refine aa.region ?_
   simp only[go_sem]
   refine hK4 _ ?_;clear hK4 K4
   refine aa.ret ?_
   try simp only[go_sem]
   clear hK2 K2
   (exact⟨[],.v _,rfl,rfl,by rw[Ca ab],rfl⟩))
 ·(
   try simp only[dD] at c7
   refine aa.skip ?_
   refine hK2 _ ?_;clear hK2 K2
   refine aa.ah fun K5 hK5=>?_
   refine aa.ah fun K6 hK6=>?_
   refine aa.region ?_
   simp only[go_sem]
   repeat'(((with_reducible refine And.intro ?_ ?_);(focus(((simp;done))));(try simp only[hb,go_sem])))
   refine hK6 _ ?_;clear hK6 K6
   refine aa.block ?_
   refine aa.mN (ι:=Nat) [2,3,4,11,12,13,14,15,16,17,18,19,20,21,22,23,24,25,26,27] (fun(i:Nat)=>[(10,i64 i)]) (fun(i:Nat)=>i≤l.length∧l.length≤64∧kW l i=true) (fun(i:Nat)=>l.length-i) (0) ?_ ?_ ?_
   ·(try simp only[go_sem]);try(simp;done)
   ·exact⟨by omega,by omega,rfl⟩
   rintro i ⟨h1,h2,h3⟩
   simp only[go_sem]
   refine aa.ah fun K7 hK7=>?_
   refine aa.region ?_
   simp only[go_sem]
   refine hK7 _ ?_;clear hK7 K7
   refine aa.ah fun K8 hK8=>?_
   refine aa.cond rfl (fun c11=>?_) (fun c11=>?_)
   ·(
     try simp only[dD] at c11
     refine aa.skip ?_
     refine hK8 _ ?_;clear hK8 K8
     refine aa.ah fun K9 hK9=>?_
     refine aa.block ?_
     refine aa.ah fun K10 hK10=>?_
     refine aa.region ?_
     simp only[go_sem]
     repeat'(((refine aQ.nth ?_ (fun b hb=>?_));(focus((omega)));(try simp only[hb,go_sem])))
     refine hK10 _ ?_;clear hK10 K10
     refine aa.ah fun K11 hK11=>?_
     refine aa.bB [0,1,2,3,4,5,6,7,8,9,10,11] [] ae ae rfl ?_
     simp only[go_sem]
     repeat'(first|(refine ak.one (ou _) ae rfl ?_;simp only[go_sem])|(refine ak.one (qZ _ _ (by first|omega|(simp only[List.length_take];omega))) ae rfl ?_;simp only[go_sem])|(refine aP.split (fun h=>?_) (fun h=>?_)<;>simp only[h,go_sem]<;>try simp only[dD] at h)|((with_reducible refine And.intro ?_ ?_);(focus((omega)));(try simp only[hb,go_sem])))
     all_goals(
      refine hK11 _ ?_;clear hK11 K11
      refine aa.cond rfl (fun c26=>?_) (fun c26=>?_)
      ·(
        try simp only[dD] at c26
        refine aa.ah fun K12 hK12=>?_
        refine aa.region ?_
        simp only[go_sem]
        refine hK12 _ ?_;clear hK12 K12
        refine aa.ret ?_
        try simp only[go_sem]
        clear hK9 K9 hK5 K5
        first
        |exact⟨[],.v _,rfl,rfl,by rw[wJ ab (U2 hb af)],rfl⟩
        |exact⟨[],.v _,rfl,rfl,by rw[wJ ab (U3 hb af)],rfl⟩)
      ·first|exact Bool.noConfusion c26|(
        try simp only[dD] at c26
        refine aa.skip ?_
        refine hK9 _ ?_;clear hK9 K9
        refine aa.region ?_
        simp only[go_sem]
        clear hK5 K5
        refine⟨i+1,?_,?_,?_⟩
        ·(try simp only[go_sem]);(try rw[aM ab ab]);simp
        ·exact⟨by omega,by omega,Xa h3 (U4 hb af af)⟩
        ·omega)))
   ·(
     try simp only[dD] at c11
     refine aa.exit ?_
     simp only[go_sem]
     clear hK8 K8
     refine hK5 _ ?_;clear hK5 K5
     refine aa.ah fun K13 hK13=>?_
     refine aa.region ?_
     simp only[go_sem]
     refine hK13 _ ?_;clear hK13 K13
     refine aa.ret ?_
     try simp only[go_sem]
     (exact⟨[],.v _,rfl,rfl,by rw[Go.Bk.rn h2 ab h3],rfl⟩)))
end Go.Proofs.YthoonfpkfdjhiaaGreatDoor
end
