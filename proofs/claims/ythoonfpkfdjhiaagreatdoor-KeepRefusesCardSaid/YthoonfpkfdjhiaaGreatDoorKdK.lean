/- Texts of one chain, put together (Rd, Shelf2, ShelfM, N13, D1, D2, D3, J1, J2, J2b, J3, BN0, BN1, BN2, BN3). -/
import Derived.Test.YthoonfpkfdjhiaaGreatDoorKdJ
import Derived.Test.YthoonfpkfdjhiaaGreatDoorKdH
import Derived.Shelf.Small.Strs
import Derived.Shelf.Small.Wraps
import Derived.Shelf.Strconv.Itoa0
import Derived.Shelf.Strconv.Itoa1
import Derived.Shelf.LaysM
import Derived.Shelf.Strconv.Itoa2
import Derived.Shelf.Strconv.Itoa3
import Derived.Shelf.Strconv.Itoa4
import Derived.Ground.MpProg
import Derived.Shelf.Pu.ParseUintPublic10
import Derived.Shelf.Pu.ErrVarParseUint
import Derived.Shelf.Strings.Search1
import Derived.Shelf.Strings.Search2
import Derived.Shelf.Strings.Cut
import Derived.Shelf.Strings.Shaped
import Derived.Shelf.Strings.Prefix
import Derived.Shelf.Bytes.SlIndexAt
import Derived.Shelf.Bytes.Small
import Derived.Shelf.Bytes.IndexByte
import Derived.Test.YthoonfpkfdjhiaaGreatDoorKdG
import Derived.Test.YthoonfpkfdjhiaaGreatDoorRows
import Derived.ProofKit
import Derived.LaidMore
import Derived.OpenShut
import Derived.Stop.Joined
import Derived.HandedShaped
import Derived.Lib.SmallJoins
import Derived.Lay
import Derived.Test.YthoonfpkfdjhiaaGreatDoorKdD
import Derived.Test.YthoonfpkfdjhiaaGreatDoorKdF
import Derived.Test.YthoonfpkfdjhiaaGreatDoorKdA
set_option linter.unusedVariables false
set_option linter.unusedSimpArgs false
set_option maxHeartbeats 16000000
set_option maxRecDepth 8000
section
namespace Go.Proofs.YthoonfpkfdjhiaaGreatDoor
open Go Go.RowKit Go.Bk Go.az Go.Fld Go.Msg Go.Txt
section
variable{H:Type}{enc:TypeId×Value→H}
variable{w:World}{r:Reach}{b0 base:Nat}{spare:Nat→Bool}{held:Bool}{v:Value}{d:DataW H}{ps:List MemPlace}
theorem vk{α:Type}{f:α→AV}{Q:α→Prop}:∀{es:List AV},(∀y∈es,∃b,Q b∧y=f b)→∃L:List α,es=L.map f∧∀b∈L,Q b
 |[],_=>⟨[],rfl,by simp⟩
 |e::es,h=>by
  obtain⟨b,hb,rfl⟩:=h e (List.mem_cons_self ..)
  obtain⟨L,rfl,hL⟩:=vk (es:=es) fun y hy=>h y (List.mem_cons_of_mem _ hy)
  exact⟨b::L,rfl,fun x hx=>by rcases List.mem_cons.1 hx with rfl|hx;exact hb;exact hL x hx⟩
theorem xM:Tryz.prog.cellsOf 23=8:=by kernel_rfl
theorem oZ:Tryz.prog.cellsOf 25=10:=by kernel_rfl
theorem eV:Tryz.prog.cellsOf 27=6:=by kernel_rfl
theorem ur:Tryz.prog.cellsOf 29=29:=by kernel_rfl
set_option maxRecDepth 100000 in
theorem ace(hv:Value.okWide Tryz.prog w r b0 29 v)(hd:DataW.Trod enc Tryz.prog w base spare held 29 v d ps):∃a:Ak,tW a∧aT (gv w) (gi a) v:=by
 obtain⟨ls,h,hx⟩:=DN Tryz.underlying29
  (mQ Tryz.underlying29 rfl ur (bK (dU Tryz.underlying3) ae rfl (bK (dU Tryz.underlying3) ae rfl (bK (mQ Tryz.underlying23 rfl xM (bK (eN Tryz.underlying9) ae rfl (bK (eN Tryz.underlying9) ae rfl (bK (eN Tryz.underlying9) ae rfl (bK (mP Tryz.underlying4) ae rfl (bK (dU Tryz.underlying2) ae rfl (bK (dU Tryz.underlying2) ae rfl (bK (dU Tryz.underlying2) ae rfl (bK (mP Tryz.underlying4) ae rfl (mO 8)))))))))) ae rfl (bK (eN Tryz.underlying9) ae rfl (bK (mQ Tryz.underlying25 rfl oZ (bK (eN Tryz.underlying9) ae rfl (bK (eN Tryz.underlying9) ae rfl (bK (eN Tryz.underlying9) ae rfl (bK (eN Tryz.underlying9) ae rfl (bK (eN Tryz.underlying9) ae rfl (bK (dU Tryz.underlying3) ae rfl (bK (mP Tryz.underlying4) ae rfl (bK (dU Tryz.underlying2) ae rfl (bK (dU Tryz.underlying2) ae rfl (bK (dU Tryz.underlying2) ae rfl (mO 10)))))))))))) ae rfl (bK (dU Tryz.underlying2) ae rfl (bK (mP Tryz.underlying4) ae rfl (bK (mQ Tryz.underlying27 rfl eV (bK (eN Tryz.underlying9) ae rfl (bK (eN Tryz.underlying9) ae rfl (bK (dU Tryz.underlying2) ae rfl (bK (dU Tryz.underlying2) ae rfl (bK (dU Tryz.underlying2) ae rfl (bK (dU Tryz.underlying2) ae rfl (mO 6)))))))) ae rfl (mO 29)))))))))) hv hd
 obtain⟨_,_,⟨k,_,rfl⟩,⟨_,_,⟨vn,_,rfl⟩,⟨_,_,⟨_,_,⟨s1,hs1,rfl⟩,⟨_,_,⟨s2,hs2,rfl⟩,⟨_,_,⟨s3,hs3,rfl⟩,⟨_,_,⟨b4,rfl⟩,⟨_,_,⟨n5,_,rfl⟩,⟨_,_,⟨n6,_,rfl⟩,⟨_,_,⟨n7,_,rfl⟩,⟨_,_,⟨b8,rfl⟩,rfl,rfl⟩,rfl⟩,rfl⟩,rfl⟩,rfl⟩,rfl⟩,rfl⟩,rfl⟩,⟨_,_,⟨d1,hd1,rfl⟩,⟨_,_,⟨_,_,⟨x1,hx1,rfl⟩,⟨_,_,⟨x2,hx2,rfl⟩,⟨_,_,⟨x3,hx3,rfl⟩,⟨_,_,⟨x4,hx4,rfl⟩,⟨_,_,⟨x5,hx5,rfl⟩,⟨_,_,⟨x6,_,rfl⟩,⟨_,_,⟨x7,rfl⟩,⟨_,_,⟨x8,_,rfl⟩,⟨_,_,⟨x9,_,rfl⟩,⟨_,_,⟨x10,_,rfl⟩,rfl,rfl⟩,rfl⟩,rfl⟩,rfl⟩,rfl⟩,rfl⟩,rfl⟩,rfl⟩,rfl⟩,rfl⟩,⟨_,_,⟨w0,_,rfl⟩,⟨_,_,⟨o,rfl⟩,⟨_,_,⟨_,_,⟨l1,hl1,rfl⟩,⟨_,_,⟨l2,hl2,rfl⟩,⟨_,_,⟨l3,_,rfl⟩,⟨_,_,⟨l4,_,rfl⟩,⟨_,_,⟨l5,_,rfl⟩,⟨_,_,⟨l6,_,rfl⟩,rfl,rfl⟩,rfl⟩,rfl⟩,rfl⟩,rfl⟩,rfl⟩,rfl,rfl⟩,rfl⟩,rfl⟩,rfl⟩,rfl⟩,rfl⟩,rfl⟩,rfl⟩:=h
 unfold maxLen at hs1 hs2 hs3 hd1 hx1 hx2 hx3 hx4 hx5 hl1 hl2
 exact⟨⟨k,vn,⟨s1,s2,s3,b4,n5,n6,n7,b8⟩,d1,⟨x1,x2,x3,x4,x5,x6,x7,x8,x9,x10⟩,w0,o,⟨l1,l2,l3,l4,l5,l6⟩⟩,⟨hs1,hs2,hs3,hd1,hl1,hl2,hx1,hx2,hx3,hx4,hx5⟩,hx⟩
theorem c5:Tryz.prog.cellsOf 5=1:=by kernel_rfl
set_option maxRecDepth 100000 in
theorem acf(hv:Value.okWide Tryz.prog w r b0 30 v)(hd:DataW.Trod enc Tryz.prog w base spare held 30 v d ps):∃l:List UInt8,l.length≤9223372036854775807∧aT (gv w) (aU l) v:=by
 obtain⟨x,hx,h⟩:=xt false Tryz.underlying30 c5 aj (fun _=>rfl) (dU Tryz.underlying5) hv hd
 rcases h with rfl|⟨es,h1,h2,rfl⟩
 ·cases hx;exact⟨[],by simp,.de 1 none 0⟩
 ·obtain⟨L,rfl,_⟩:=vk (f:=u8) (Q:=fun _=>True) (es:=es) (fun y hy=>by
   obtain⟨l,⟨n,hn,rfl⟩,rfl⟩:=h2 y hy
   have hn':0≤n∧n<256:=by
    simp only[Lit.wf,Bool.and_eq_true,decide_eq_true_eq] at hn
    simp only[IntKind.min,IntKind.max,IntKind.bits,IntKind.signed] at hn
    simp at hn
    omega
   refine⟨UInt8.ofNat n.toNat,trivial,?_⟩
   show AV.v (.int .u8 n)=u8 _
   have:((UInt8.ofNat n.toNat).toNat:Int)=n:=by simp;omega
   rw[wO,this])
  exact⟨L,by unfold maxLen at h1;simpa using h1,hx⟩
theorem Xz{α:Type}{f:α→AV}{k:Nat}{S:List AV→Prop}{ag:Bool}{Q:α→Prop}(hf:∀l,S l→∃a:α,Q a∧lC ag l=f a){ls:List AV}(h:ls=[.aw]∨∃es:List AV,es.length≤maxLen∧(∀x∈es,∃l,S l∧x=lC ag l)∧ls=[.sl none k es]):
 ∃l:List α,l.length≤9223372036854775807∧(∀a∈l,Q a)∧∃y,ls=[y]∧∀im v,aT im y v→aT im (.sl none k (l.map f)) v:=by
 rcases h with rfl|⟨es,h1,h2,rfl⟩
 ·exact⟨[],by simp,by simp,_,rfl,fun im v hv=>aT.of_nil hv⟩
 ·obtain⟨L,rfl,hL⟩:=vk (f:=f) (Q:=Q) (es:=es) (fun y hy=>by
   obtain⟨l,hl,rfl⟩:=h2 y hy
   obtain⟨a,hq,ha⟩:=hf l hl
   exact⟨a,hq,ha⟩)
  exact⟨L,by unfold maxLen at h1;simpa using h1,hL,_,rfl,fun im v hv=>hv⟩
set_option maxRecDepth 100000 in
theorem V4:Reads enc Tryz.prog 29 29 fun l=>∃a:Ak,tW a∧lC true l=gi a:=fun w base spare held fuel cs x hx=>by
 obtain⟨ls,h,h2,h3⟩:=((mQ Tryz.underlying29 rfl ur (bK (dU Tryz.underlying3) ae rfl (bK (dU Tryz.underlying3) ae rfl (bK (mQ Tryz.underlying23 rfl xM (bK (eN Tryz.underlying9) ae rfl (bK (eN Tryz.underlying9) ae rfl (bK (eN Tryz.underlying9) ae rfl (bK (mP Tryz.underlying4) ae rfl (bK (dU Tryz.underlying2) ae rfl (bK (dU Tryz.underlying2) ae rfl (bK (dU Tryz.underlying2) ae rfl (bK (mP Tryz.underlying4) ae rfl (mO 8)))))))))) ae rfl (bK (eN Tryz.underlying9) ae rfl (bK (mQ Tryz.underlying25 rfl oZ (bK (eN Tryz.underlying9) ae rfl (bK (eN Tryz.underlying9) ae rfl (bK (eN Tryz.underlying9) ae rfl (bK (eN Tryz.underlying9) ae rfl (bK (eN Tryz.underlying9) ae rfl (bK (dU Tryz.underlying3) ae rfl (bK (mP Tryz.underlying4) ae rfl (bK (dU Tryz.underlying2) ae rfl (bK (dU Tryz.underlying2) ae rfl (bK (dU Tryz.underlying2) ae rfl (mO 10)))))))))))) ae rfl (bK (dU Tryz.underlying2) ae rfl (bK (mP Tryz.underlying4) ae rfl (bK (mQ Tryz.underlying27 rfl eV (bK (eN Tryz.underlying9) ae rfl (bK (eN Tryz.underlying9) ae rfl (bK (dU Tryz.underlying2) ae rfl (bK (dU Tryz.underlying2) ae rfl (bK (dU Tryz.underlying2) ae rfl (bK (dU Tryz.underlying2) ae rfl (mO 6)))))))) ae rfl (mO 29))))))))))) w base spare held fuel cs x hx
 obtain⟨_,_,⟨k,_,rfl⟩,⟨_,_,⟨vn,_,rfl⟩,⟨_,_,⟨_,_,⟨s1,hs1,rfl⟩,⟨_,_,⟨s2,hs2,rfl⟩,⟨_,_,⟨s3,hs3,rfl⟩,⟨_,_,⟨b4,rfl⟩,⟨_,_,⟨n5,_,rfl⟩,⟨_,_,⟨n6,_,rfl⟩,⟨_,_,⟨n7,_,rfl⟩,⟨_,_,⟨b8,rfl⟩,rfl,rfl⟩,rfl⟩,rfl⟩,rfl⟩,rfl⟩,rfl⟩,rfl⟩,rfl⟩,⟨_,_,⟨d1,hd1,rfl⟩,⟨_,_,⟨_,_,⟨x1,hx1,rfl⟩,⟨_,_,⟨x2,hx2,rfl⟩,⟨_,_,⟨x3,hx3,rfl⟩,⟨_,_,⟨x4,hx4,rfl⟩,⟨_,_,⟨x5,hx5,rfl⟩,⟨_,_,⟨x6,_,rfl⟩,⟨_,_,⟨x7,rfl⟩,⟨_,_,⟨x8,_,rfl⟩,⟨_,_,⟨x9,_,rfl⟩,⟨_,_,⟨x10,_,rfl⟩,rfl,rfl⟩,rfl⟩,rfl⟩,rfl⟩,rfl⟩,rfl⟩,rfl⟩,rfl⟩,rfl⟩,rfl⟩,⟨_,_,⟨w0,_,rfl⟩,⟨_,_,⟨o,rfl⟩,⟨_,_,⟨_,_,⟨l1,hl1,rfl⟩,⟨_,_,⟨l2,hl2,rfl⟩,⟨_,_,⟨l3,_,rfl⟩,⟨_,_,⟨l4,_,rfl⟩,⟨_,_,⟨l5,_,rfl⟩,⟨_,_,⟨l6,_,rfl⟩,rfl,rfl⟩,rfl⟩,rfl⟩,rfl⟩,rfl⟩,rfl⟩,rfl,rfl⟩,rfl⟩,rfl⟩,rfl⟩,rfl⟩,rfl⟩,rfl⟩,rfl⟩:=h
 unfold maxLen at hs1 hs2 hs3 hd1 hx1 hx2 hx3 hx4 hx5 hl1 hl2
 exact⟨_,⟨⟨k,vn,⟨s1,s2,s3,b4,n5,n6,n7,b8⟩,d1,⟨x1,x2,x3,x4,x5,x6,x7,x8,x9,x10⟩,w0,o,⟨l1,l2,l3,l4,l5,l6⟩⟩,⟨hs1,hs2,hs3,hd1,hl1,hl2,hx1,hx2,hx3,hx4,hx5⟩,rfl⟩,h2,h3⟩
set_option maxRecDepth 100000 in
theorem DL(hv:Value.okWide Tryz.prog w r b0 42 v)(hd:DataW.Trod enc Tryz.prog w base spare held 42 v d ps):∃l:List Ak,l.length≤9223372036854775807∧aT (gv w) (.sl none 29 (l.map gi)) v:=by
 obtain⟨x,hx,h⟩:=xt true Tryz.underlying42 ur aj (fun h=>by cases h) V4 hv hd
 obtain⟨l,hl,_,y,hy,h2⟩:=Xz (f:=gi) (ls:=[x]) (k:=29) (ag:=true) (Q:=tW) (fun l h=>h) (by
  rcases h with rfl|⟨es,h1,h2,rfl⟩
  ·exact .inl rfl
  ·exact .inr ⟨es,h1,h2,rfl⟩)
 cases hy
 exact⟨l,hl,h2 _ _ hx⟩
end
end Go.Proofs.YthoonfpkfdjhiaaGreatDoor
end
section
namespace Go.Proofs
open Go.Shelf
def Tryz.RG:Go.Shelf.Ren:=⟨fun|145=>124|220=>162|219=>197|217=>155|225=>237|224=>234|267=>238|266=>188|314=>270|n=>n,fun|9=>9|4=>4|59=>183|3=>3|5=>5|46=>202|146=>328|51=>203|n=>n,fun|1=>0|n=>n⟩
theorem Tryz.RF:Go.Proofs.Lays.n145 Tryz.prog Tryz.RG:={
 mixed:=by kernel_rfl
 f145:=Tryz.func124.trans (congrArg some ae)
 f217:=Tryz.func155.trans (congrArg some ae)
 f219:=Tryz.func197.trans (congrArg some ae)
 f220:=Tryz.func162.trans (congrArg some ae)
 f224:=Tryz.func234.trans (congrArg some ae)
 f225:=Tryz.func237.trans (congrArg some ae)
 f266:=Tryz.func188.trans (congrArg some ae)
 f267:=Tryz.func238.trans (congrArg some ae)
 f314:=Tryz.func270.trans (congrArg some ae)
 t3:=Tryz.underlying3
 a3:=Tryz.isAgg3
 z3:=Tryz.sizeOf3
 v3:=Tryz.zeroValue3
 t4:=Tryz.underlying4
 a4:=Tryz.isAgg4
 z4:=Tryz.sizeOf4
 v4:=Tryz.zeroValue4
 t5:=Tryz.underlying5
 a5:=Tryz.isAgg5
 z5:=Tryz.sizeOf5
 v5:=Tryz.zeroValue5
 t9:=Tryz.underlying9
 a9:=Tryz.isAgg9
 z9:=Tryz.sizeOf9
 v9:=Tryz.zeroValue9
 t46:=Tryz.underlying202
 a46:=Tryz.isAgg202
 z46:=Tryz.sizeOf202
 v46:=Tryz.zeroValue202
 t51:=Tryz.underlying203
 a51:=Tryz.isAgg203
 z51:=Tryz.sizeOf203
 v51:=Tryz.zeroValue203
 t59:=Tryz.underlying183
 a59:=Tryz.isAgg183
 z59:=Tryz.sizeOf183
 v59:=Tryz.zeroValue183
 t146:=Tryz.underlying328
 a146:=Tryz.isAgg328
 z146:=Tryz.sizeOf328
 v146:=Tryz.zeroValue328
 g1:=by kernel_rfl }
open Go.RowKit Go.Lib in
theorem Tryz.strings_Cut(s sep:ByteArray)(m:Int)(w:World)(hs:s.size<4294967281)(hm:w.cell? ⟨0,0,none⟩=some (.int .i64 m)):
 Calls Tryz.prog 124 #[.string s,.string sep] w fun e w'=>e= .returned (.tuple #[.string ⟨(Lib.cut s.data.toList sep.data.toList).1.toArray⟩,.string ⟨(Lib.cut s.data.toList sep.data.toList).2.1.toArray⟩,.bool (Lib.cut s.data.toList sep.data.toList).2.2])∧∃n,w'=w.drewN n:=Any.strings_Cut Tryz.RF s sep m w hs hm
def Tryz.RJ:Go.Shelf.Ren:=⟨fun|187=>70|255=>123|n=>n,fun|37=>30|5=>5|3=>3|n=>n,fun|n=>n⟩
theorem Tryz.zN:Go.Proofs.Lays.n187 Tryz.prog Tryz.RJ:={
 mixed:=by kernel_rfl
 f187:=Tryz.func70.trans (congrArg some ae)
 f255:=Tryz.func123.trans (congrArg some ae)
 t3:=Tryz.underlying3
 a3:=Tryz.isAgg3
 z3:=Tryz.sizeOf3
 v3:=Tryz.zeroValue3
 t5:=Tryz.underlying5
 a5:=Tryz.isAgg5
 z5:=Tryz.sizeOf5
 v5:=Tryz.zeroValue5
 t37:=Tryz.underlying30
 a37:=Tryz.isAgg30
 z37:=Tryz.sizeOf30
 v37:=Tryz.zeroValue30 }
open Go.RowKit Go.Lib in
theorem Tryz.bytes_IndexByte_at(a:Addr)(n c:Nat)(xs:List Int)(cv:Int)(w:World)(hx:xs.length=n)(hc:∀i,i<n→w.cell? (a.add i)=some (.int .u8 (xs.getD i 0))):
 Calls Tryz.prog 70 #[.slice (some a) n c,.int .u8 cv] w fun e w'=>e= .returned (.int .i64 (Lib.indexByte (Lib.bytesOf xs) cv.toNat.toUInt8))∧w'=w:=Any.bytes_IndexByte_at Tryz.zN a n c xs cv w hx hc
def Tryz.RS:Go.Shelf.Ren:=⟨fun|145=>124|220=>162|219=>197|217=>155|225=>237|224=>234|267=>238|266=>188|314=>270|n=>n,fun|9=>9|4=>4|59=>183|3=>3|5=>5|46=>202|146=>328|51=>203|n=>n,fun|1=>0|n=>n⟩
theorem Tryz.RR:Go.Proofs.LaysM.n145 Tryz.prog Tryz.RS:={
 mixed:=by kernel_rfl
 f145:=Tryz.func124.trans (congrArg some ae)
 f217:=Tryz.func155.trans (congrArg some ae)
 f219:=Tryz.func197.trans (congrArg some ae)
 f220:=Tryz.func162.trans (congrArg some ae)
 f224:=Tryz.func234.trans (congrArg some ae)
 f225:=Tryz.func237.trans (congrArg some ae)
 f266:=Tryz.func188.trans (congrArg some ae)
 f267:=Tryz.func238.trans (congrArg some ae)
 f314:=Tryz.func270.trans (congrArg some ae)
 t3:=Tryz.underlying3
 a3:=Tryz.isAgg3
 z3:=Tryz.sizeOf3
 v3:=Tryz.zeroValue3
 t4:=Tryz.underlying4
 a4:=Tryz.isAgg4
 z4:=Tryz.sizeOf4
 v4:=Tryz.zeroValue4
 t5:=Tryz.underlying5
 a5:=Tryz.isAgg5
 z5:=Tryz.sizeOf5
 v5:=Tryz.zeroValue5
 t9:=Tryz.underlying9
 a9:=Tryz.isAgg9
 z9:=Tryz.sizeOf9
 v9:=Tryz.zeroValue9
 t46:=Tryz.underlying202
 a46:=Tryz.isAgg202
 z46:=Tryz.sizeOf202
 v46:=Tryz.zeroValue202
 t51:=Tryz.underlying203
 a51:=Tryz.isAgg203
 z51:=Tryz.sizeOf203
 v51:=Tryz.zeroValue203
 t59:=Tryz.underlying183
 a59:=Tryz.isAgg183
 z59:=Tryz.sizeOf183
 v59:=Tryz.zeroValue183
 t146:=Tryz.underlying328
 a146:=Tryz.isAgg328
 z146:=Tryz.sizeOf328
 v146:=Tryz.zeroValue328
 g1:=by kernel_rfl
 i3:=by kernel_rfl
 i4:=by kernel_rfl
 i5:=by kernel_rfl
 i9:=by kernel_rfl
 i46:=by kernel_rfl
 i51:=by kernel_rfl
 i59:=by kernel_rfl
 i146:=by kernel_rfl
 m1:=by kernel_rfl
 s1_3:=fun w h=>Go.Proofs.cell_of_shapedOpen_int (zero:=#[.int .i64 0]) (t:=3) h (of_decide_eq_true ae) ae rfl ae ae Tryz.underlying3 }
end Go.Proofs
end
section
namespace Go.Proofs.YthoonfpkfdjhiaaGreatDoor
open Go.ChangeShapes Go.WideShapes Go.ChangeAt Go.RowKit Go.Joins Go.az Go.Fld Go.Msg Go.Txt
theorem own:ownKnob Tryz.prog.godebug=none:=by kernel_rfl
theorem laidOut:laidOutB Tryz.prog=true:=by kernel_rfl
abbrev nO:List (String×DataW Unit):=[("math/bits.deBruijn32tab",Rows.laid_math_bits_deBruijn32tab),("math/bits.deBruijn64tab",Rows.laid_math_bits_deBruijn64tab),("internal/strconv.uint64pow10",Rows.laid_internal_strconv_uint64pow10),("unicode/utf8.acceptRanges",Rows.laid_unicode_utf8_acceptRanges),("strconv.ErrRange",Rows.laid_strconv_ErrRange),("strconv.ErrSyntax",Rows.laid_strconv_ErrSyntax),("unicode/utf8.first",Rows.laid_unicode_utf8_first)]
theorem O5:Tryz.prog.globalNamed "internal/strconv.uint64pow10" =some 1:=by kernel_rfl
set_option maxRecDepth 100000 in
theorem LB(os:Os)(args:Array Value):laidMetH Tryz.prog nO ((World.laidAll Tryz.prog os nO).forCall (fun _ _=>0) ⟨#[],args,[]⟩).memory:=by
 rw[MakeChecks.laidMetH_plain _ _ _ ae];exact laidMet_laidAll _ ae ae
theorem YU:(Tryz.prog.globals[1]?).map (·.type)=some 300:=by kernel_rfl
theorem Z7:Tryz.prog.underlying 300=some (.array 20 208):=by kernel_rfl
theorem ZX:Tryz.prog.underlying 208=some (.int .u64):=by kernel_rfl
theorem Fv:Tryz.prog.cellsOf 208=1:=by kernel_rfl
theorem Fw:Tryz.prog.cellsOf 300=20:=by kernel_rfl
theorem O4:∃g,Tryz.prog.globalNamed "strconv.ErrRange" =some g∧(Tryz.prog.globals[g]?).map (·.type)=some 230:=⟨5,by kernel_rfl,by kernel_rfl⟩
theorem ZY:Tryz.prog.underlying 230=some (.interface #[("Error",373)]):=by kernel_rfl
theorem pow_eq:Rows.laid_internal_strconv_uint64pow10 (H:=Unit)=Lib.tabData .u64 Lib.pow10Tab:=by kernel_rfl
set_option maxRecDepth 100000 in
theorem UJ{W:World}(h:laidMetH Tryz.prog nO W)(hsh:W.ShapedOpen Tryz.prog):okW W:=by
 rw[MakeChecks.laidMetH_plain _ _ _ ae] at h
 obtain⟨ps,⟨g0,t0,cs0,f0,p0,q0,hg0,ht0,hv0,hd0,⟨g1,t1,cs1,f1,p1,q1,hg1,ht1,hv1,hd1,⟨g2,t2,cs2,f2,p2,q2,hg2,ht2,hv2,hd2,⟨g3,t3,cs3,f3,p3,q3,hg3,ht3,hv3,hd3,⟨g4,t4,cs4,f4,p4,q4,hg4,ht4,hv4,hd4,_,_⟩,_⟩,_⟩,_⟩,_⟩,_,_⟩:=h
 refine⟨?_,?_,Tryz.RR.s1_3 W hsh⟩
 ·obtain rfl:=Option.some.inj (O5.symm.trans hg2)
  obtain rfl:=Option.some.inj (YU.symm.trans ht2)
  rw[pow_eq] at hd2
  unfold Lib.TabIs
  rw[hv2,←Lib.cells_of_tab Z7 ZX Fv Fw hd2]
 ·obtain⟨g,hg,ht⟩:=O4
  obtain rfl:=Option.some.inj (hg.symm.trans hg4)
  obtain rfl:=Option.some.inj (ht.symm.trans ht4)
  obtain⟨f',u,v,e,_,_⟩:=iface_of_trod ZY hd4
  refine⟨u,v,?_⟩
  rw[hv4]
  congr 1
  apply Array.ext'
  simpa using e
section
variable{H:Type}{enc:TypeId×Value→H}
theorem WB{a:Assume}{C:Checked}{os:Os}{f:FuncId}{fn:Func}{s:ChangeSpec}{conds:List PathCond}{apart fresh handsOn again:Bool}{X:World→Array Value→Prop}
 (hX:∀(w w':World) (args:Array Value),w.heap=w'.heap→X w args→X w' args)
 (own:ownKnob C.prog.godebug=none) (started:os.Started) (noInit:C.prog.inits.idxOf? f=none) (hfn:C.prog.funcs[f]?=some fn)
 (witness:∃(w:World) (tape:Tape) (i:Input),w.os=os∧(w.forCall tape i).Shaped C.prog∧i.vars=[]∧Input.okWide C.prog (w.forCall tape i) .any w.heap.size f i∧
   ((s.pre enc C.prog fn conds apart (w.forCall tape i).memory i.args∧X (w.forCall tape i).memory i.args)∧sizedMet enc C.prog fn (OpenSpec.ofChange s) apart (w.forCall tape i).memory i.args)∧a.holds C.prog (lone (Frame.enter C.prog f i.args .normal) [] (w.forCall tape i)))
 (contract:∀(W:World) (base:Nat) (args:Array Value) (ds gs:List (DataW H)) (before:List MemPlace),
   (∀(j:Nat) t v,fn.params[j]?=some t→args[j]?=some v→Value.okWide C.prog W .any base t v)→
   DataW.Whole enc C.prog fn.params.toList s.vars apart W args.toList ds gs before→W.ShapedOpen C.prog→X W args→
   Calls C.prog f args W fun e W'=>∃v,e= .returned v∧s.post enc C.prog fn apart fresh handsOn again W args v W'):
 ReturnsInHanded a C os f .any (fun w args=>(s.pre enc C.prog fn conds apart w args∧X w args)∧sizedMet enc C.prog fn (OpenSpec.ofChange s) apart w args) (s.post enc C.prog fn apart fresh handsOn again):=by
 refine returnsInHanded_of_calls own started noInit witness ?_
 intro w tape i _ hsh _ hok hpre hholds
 obtain⟨_,_,_,fn',hfn',_,_,_,_,hval⟩:=hok
 have e:fn'=fn:=Option.some.inj (hfn'.symm.trans hfn)
 subst e
 obtain⟨⟨⟨ds,gs,before,hw,hc⟩,hx⟩,hz⟩:=hpre
 have hw':=DataW.Whole.of_heap (w':=w.forCall tape i) jk hw
 refine(contract (w.forCall tape i) w.heap.size i.args ds gs before hval hw' hsh (hX _ _ _ jk hx)).mono fun e W' ⟨v,he,hp⟩=>?_
 subst he
 exact ChangeSpec.post_blind hp
end
end Go.Proofs.YthoonfpkfdjhiaaGreatDoor
end
section
namespace Go.Proofs.YthoonfpkfdjhiaaGreatDoor
open Go Go.az Go.RowKit
theorem yF(d:Kp.Dk)(n:Int)(hd:ef d):ai E 96 [cE d,i64 n] (fun r t=>r= .ax [cE (Kp.iB d n).1,i64 (Kp.iB d n).2]∧t=[]):=by
 have hd0:=hd
 obtain⟨s0,s1,s2,s3⟩:=hd
 refine ai.aC (n:=26) (rs:=[.cell 4 49,.tmp 5]) Tryz.func96 rfl Tryz.ntmps96 rfl ?_
 repeat'(first
 |refine aa.ah fun K hK=>?_
 |(
  refine aa.here 4 18 8 rfl ?_
  obtain rfl|rfl:=sC (n:=n) af
  refine aa.region ?_;simp only[go_sem])
 |(refine aa.region ?_;simp only[go_sem])
 |(refine hK _ ?_;clear hK K)
 |refine aa.cond rfl (fun c=>?_) (fun c=>?_)<;>first|exact Bool.noConfusion c|(try simp only[dD] at c)
 |refine aa.skip ?_
 |(refine ak.one (sw d hd0) ae rfl ?_;simp only[go_sem])
 |(refine ak.one (mn d hd0) ae rfl ?_;simp only[go_sem])
 |(refine ak.one (sr d n) ae rfl ?_;simp only[go_sem])
 |(refine ak.one (uF d _ hd0) ae rfl ?_;simp only[go_sem])
 |(refine aP.split (fun h=>?_) (fun h=>?_)<;>simp only[h,go_sem]<;>(try simp only[dD] at h))
 |(
  refine aa.ret ?_
  refine aM.is ?_;simp only[go_sem,aI,aH,aG,aK,aJ,aL]<;>(first|(rw[Ce (.inl af)];exact⟨⟨rfl,rfl,rfl,rfl⟩,rfl⟩)|(rw[Ce (.inr af)];exact⟨⟨rfl,rfl,rfl,rfl⟩,rfl⟩)|(rw[Cd af];exact⟨⟨rfl,trivial,rfl,rfl⟩,rfl⟩)|(rw[Yh af];exact⟨⟨rfl,rfl,rfl,trivial⟩,rfl⟩))))
theorem yi(d:Kp.Dk)(n k:Int)(hd:ef d):ai E 101 [cE d,i64 n,i64 k] (fun r t=>r= .ax [cE (Kp.gO d n k).1,i64 (Kp.gO d n k).2]∧t=[]):=by
 have hd0:=hd
 obtain⟨s0,s1,s2,s3⟩:=hd
 refine ai.aC (n:=42) (rs:=[.cell 6 49,.tmp 7]) Tryz.func101 rfl Tryz.ntmps101 rfl ?_
 repeat'(first
 |refine aa.ah fun K hK=>?_
 |(
  refine aa.here 7 33 9 rfl ?_
  obtain rfl|rfl:=sC (n:=n) af
  refine aa.region ?_;simp only[go_sem])
 |(refine aa.region ?_;simp only[go_sem])
 |(refine hK _ ?_;clear hK K)
 |refine aa.cond rfl (fun c=>?_) (fun c=>?_)<;>first|exact Bool.noConfusion c|(try simp only[dD] at c)
 |refine aa.skip ?_
 |(refine ak.one (sw d hd0) ae rfl ?_;simp only[go_sem])
 |(refine ak.one (mn d hd0) ae rfl ?_;simp only[go_sem])
 |(refine ak.one (sr d n) ae rfl ?_;simp only[go_sem])
 |(refine ak.one (uF d n hd0) ae rfl ?_;simp only[go_sem])
 |(refine ak.one (nr ((Kp.db d 0).take k.toNat) (by rw[List.length_take];have:=vW (n:=0) hd0;omega)) ae rfl ?_;simp only[go_sem])
 |(refine ak.one (nr ((Kp.db d 1).take k.toNat) (by rw[List.length_take];have:=vW (n:=1) hd0;omega)) ae rfl ?_;simp only[go_sem])
 |(refine aP.dk (fun h=>?_) (fun h=>?_)<;>simp only[h,go_sem]<;>(try simp only[dD] at h))
 |(refine aP.split (fun h=>?_) (fun h=>?_)<;>simp only[h,go_sem]<;>(try simp only[dD] at h))
 |((with_reducible refine And.intro ?_ ?_);(focus(first|omega|(simp;done)));(try simp only[hb,go_sem]))
 |(
  refine aa.ret ?_
  refine aM.is ?_;simp only[go_sem,aI,aH,aG,aK,aJ,aL]<;>(first|(rw[yg (.inl af)];exact⟨⟨rfl,rfl,rfl,rfl⟩,rfl⟩)|(rw[yg (.inr af)];exact⟨⟨rfl,rfl,rfl,rfl⟩,rfl⟩)|(rw[KK ab];exact⟨⟨rfl,rfl,rfl,rfl⟩,rfl⟩)|(rw[uB af ab ab];exact⟨⟨rfl,trivial,rfl,rfl⟩,rfl⟩)|(rw[yf af ab ab];exact⟨⟨rfl,rfl,rfl,trivial⟩,rfl⟩))))
def jo(d:Kp.Dk)(k0 k1:Int):Nat→AV
 |0=>cE d
 |1=> .agg [aU [d.f0.safe,d.f0.tail.take k0.toNat].flatten,.aw,aU d.f1.safe,aU d.f1.tail]
 |_=> .agg [aU [d.f0.safe,d.f0.tail.take k0.toNat].flatten,.aw,aU [d.f1.safe,d.f1.tail.take k1.toNat].flatten,.aw]
theorem Ky{d:Kp.Dk}{k0 k1:Int}:∀{i no nt:Nat},∀e∈[jo d k0 k1 i],∀z∈e.leaves,z.br no nt=true:=by
 intro i no nt e he z hz
 simp only[List.mem_singleton] at he
 subst he
 match i with
 |0=>exact uD (d:=d) (cE d) aB z hz
 |1=>
  simp only[jo,AV.leaves,List.mem_cons,List.not_mem_nil,or_false] at hz
  rcases hz with rfl|rfl|rfl|rfl<;>rfl
 |i+2=>
  simp only[jo,AV.leaves,List.mem_cons,List.not_mem_nil,or_false] at hz
  rcases hz with rfl|rfl|rfl|rfl<;>rfl
theorem xZ{d:Kp.Dk}{k0 k1:Int}{i no nt:Nat}:some [jo d k0 k1 i]=none∨some [jo d k0 k1 i]=some [jo d k0 k1 i]∧∀es,some [jo d k0 k1 i]=some es→∀e∈es,∀z∈e.leaves,z.br no nt=true:= .inr ⟨rfl,fun es h=>by cases h;exact Ky⟩
theorem Re{k0 k1:Int}{no nt:Nat}:∀e∈[AV.agg [i64 k0,i64 k1]],∀z∈e.leaves,z.br no nt=true:=by
 intro e he z hz
 simp only[List.mem_singleton] at he
 subst he
 simp only[AV.leaves,List.mem_cons,List.not_mem_nil,or_false] at hz
 rcases hz with rfl|rfl<;>rfl
theorem u7{k0 k1:Int}{no nt:Nat}:some [AV.agg [i64 k0,i64 k1]]=none∨∀es,some [AV.agg [i64 k0,i64 k1]]=some es→∀e∈es,∀z∈e.leaves,z.br no nt=true:= .inr fun es h=>by cases h;exact Re
theorem qu{α:Type}{l:List α}{k:Int}:l.take (min (max k 0) (l.length:Int)).toNat=l.take k.toNat:=by
 rcases(by omega:(l.length:Int)≤max k 0∨max k 0≤(l.length:Int)) with h|h
 ·rw[List.take_of_length_le ab,List.take_of_length_le ab]
 ·rw[show(min (max k 0) (l.length:Int)).toNat=k.toNat by omega]
theorem Kz{d:Kp.Dk}{k0 k1:Int}(h:Kp.b6 d=false):Kp.nz d k0 k1=d:=by unfold Kp.nz;rw[h];rfl
theorem KA{d:Kp.Dk}{k0 k1:Int}(h:Kp.b6 d=true):Kp.nz d k0 k1=⟨⟨[d.f0.safe,d.f0.tail.take k0.toNat].flatten,[]⟩,⟨[d.f1.safe,d.f1.tail.take k1.toNat].flatten,[]⟩⟩:=by
 unfold Kp.nz Kp.kz;rw[if_pos h];simp
theorem KM(d:Kp.Dk)(k0 k1:Int)(hd:ef d):ai E 46 [cE d,.agg [i64 k0,i64 k1]] (fun r t=>r=cE (Kp.nz d k0 k1)∧t=[]):=by
 have hd0:=hd
 obtain⟨s0,s1,s2,s3⟩:=hd
 refine ai.aC (n:=42) (rs:=[.cell 4 49]) Tryz.func46 rfl Tryz.ntmps46 rfl ?_
 repeat'(first
 |refine aa.ah fun K hK=>?_
 |(
  refine aa.here 6 18 5 rfl ?_
  obtain rfl|rfl:i=0∨i=1:=by omega
  refine aa.region ?_;simp only[go_sem,jo])
 |(
  refine aa.here 7 20 9 rfl ?_
  refine aa.bA [0,1,2,3,4,5,6,7,8] [] ae ae rfl ?_;simp only[go_sem,jo,qu])
 |(
  refine aa.here 8 28 13 rfl ?_
  refine aa.bA [0,1,2,3,4,5,6,10,7,8,9,11,12] [] ae ae rfl ?_;simp only[go_sem,jo,qu])
 |(
  refine aa.here 10 41 2 rfl ?_
  obtain rfl:i=2:=by omega
  refine aa.region ?_;simp only[go_sem,jo])
 |(refine aa.region ?_;simp only[go_sem])
 |(refine hK _ ?_;clear hK K)
 |refine aa.block ?_
 |refine aa.cond rfl (fun c=>?_) (fun c=>?_)<;>(try simp only[dD] at c)
 |refine aa.skip ?_
 |(refine aa.exit ?_;simp only[go_sem])
 |(refine ak.one (sw d hd0) ae rfl ?_;simp only[go_sem])
 |(refine ak.one (mn d hd0) ae rfl ?_;simp only[go_sem])
 |(refine ak.one (o5 [d.f0.safe,d.f0.tail.take k0.toNat] (by simp;omega) aB) ae rfl ?_;simp only[go_sem])
 |(refine ak.one (o5 [d.f1.safe,d.f1.tail.take k1.toNat] (by simp;omega) aB) ae rfl ?_;simp only[go_sem])
 |((with_reducible refine And.intro ?_ ?_);(focus(first|omega|(simp;done)));(try simp only[hb,go_sem]))
 |(
  refine aa.here 5 17 1 rfl ?_
  refine aa.dR (ι:=Nat) [5,6,7,17,18,19,20,21,22,23,24,25,26,27,28,29,30,31,32,33,34,35,36,37,38,39,40] (fun(i:Nat)=>[(16,i64 i)]) (fun(i:Nat)=>[some [jo d k0 k1 i],some [.agg [i64 k0,i64 k1]],some [.agg [.aw,.aw,.aw,.aw]]]) (fun(i:Nat)=>[]) (fun(i:Nat)=>i≤2) (fun(i:Nat)=>2-i) (0) ?_ ?_ ?_
  ·(try simp only[go_sem]);(try simp only[go_sem,fc,fe,qu]);(repeat'(first|exact KV|exact mY|exact u7|refine And.intro ?_ ?_))
  ·omega
  rintro i h1
  simp only[go_sem])
 |(
  refine⟨1,?_,?_,?_⟩
  ·(try simp only[go_sem]);(try rw[aN ab ab]);(try simp only[go_sem,fc,fe,qu]);(repeat'(first|exact xZ|exact mY|exact u7|refine And.intro ?_ ?_))
  ·omega
  ·(try simp only[]);omega)
 |(
  refine⟨2,?_,?_,?_⟩
  ·(try simp only[go_sem]);(try rw[aN ab ab]);(try simp only[go_sem,fc,fe,qu]);(repeat'(first|exact xZ|exact mY|exact u7|refine And.intro ?_ ?_))
  ·omega
  ·(try simp only[]);omega)
 |(
  refine aa.ret ?_
  refine aM.is ?_;simp only[go_sem,aI,aH,aG,aK,aJ,aL]<;>(first|(rw[Kz af];exact⟨rfl,rfl,rfl,rfl⟩)|(rw[KA af];exact⟨rfl,trivial,rfl,trivial⟩)))
 |refine aa.fin af ?_)
theorem _root_.Go.az.ai.aaF{E:Env}{f:FuncId}{args:List AV}{k n t0:Nat}{es:List AV}{x:Value}(h:ai E f args fun r t=>r= .ax [.sl (some t0) k es,.v x]∧t=[n]):ai E f args fun r t=>r= .ax [.sl none k es,.v x]∧t=[]:=
 fun w im vs h0 hg h1 h2=>(h w im vs h0 hg h1 h2).mono fun _ _ ⟨v,r,tks,im',a,b,d,e,f,g,i,j⟩=>by
  obtain⟨rfl,_⟩:=j
  refine⟨v,_,[],im',a,b,d,e,f,⟨fun i T b h=>by simp at h,fun i j T U b d h=>by simp at h⟩,.base ?_,rfl,rfl⟩
  cases i with
  |base h=>
   cases h with
   |ax cs vs hn h=>
    have h0:vs[0]?=some (vs[0]'(by simp at hn;omega)):=List.getElem?_eq_getElem _
    exact nomatch h 0 _ _ rfl h0
  |ax cs vs hn h=>
   refine .ax _ _ hn fun i y u hy hu=>?_
   match i with
   |0=>cases hy;exact(h 0 _ u rfl hu).fu
   |1=>
    cases hy
    have:=h 1 _ u rfl hu
    cases this with
    |base h=>exact h
   |i+2=>simp at hy
theorem yb(l:List UInt8)(hl:l.length≤1000000):ai E 139 [aU l] (fun r t=>r= .ax [.sl none 1 ((Kp.cB l).1.map aU),i64 (Kp.cB l).2]∧t=[]):=(KD l hl).aaF
abbrev ZW(n:Nat):AV:= .v (.int .u64 (n:Int))
def kj:AV:= .agg [i64 0,.aw,.aw,i64 0]
def nA(c:Kp.Ct):AV:= .agg [i64 c.gen,aU c.snap,.sl none 1 (c.nC.map aU),i64 c.long]
theorem abr{no nt:Nat}:∀e∈[AV.agg [i64 0,.aw,.aw,i64 0]],∀z∈e.leaves,z.br no nt=true:=by
 intro e he z hz
 simp only[List.mem_singleton] at he
 subst he
 simp only[AV.leaves,List.mem_cons,List.not_mem_nil,or_false] at hz
 rcases hz with rfl|rfl|rfl|rfl<;>rfl
theorem abt{no nt:Nat}:some [AV.agg [i64 0,.aw,.aw,i64 0]]=none∨∀es,some [AV.agg [i64 0,.aw,.aw,i64 0]]=some es→∀e∈es,∀z∈e.leaves,z.br no nt=true:= .inr fun es h=>by cases h;exact abr
theorem head_ne{r:List UInt8}{b:UInt8}(h:r[0]?=some b)(h2:¬(b.toNat:Int)=71):¬r.head?=some 71:=by
 intro e
 rw[List.head?_eq_getElem?,h,Option.some.injEq] at e
 rw[e] at h2;exact h2 rfl
theorem head_eq{r:List UInt8}{b:UInt8}(h:r[0]?=some b)(h2:(b.toNat:Int)=71):r.head?=some 71:=by
 rw[List.head?_eq_getElem?,h]
 have:b.toNat=(71:UInt8).toNat:=by have:(71:UInt8).toNat=71:=rfl;omega
 rw[UInt8.toNat_inj.1 this]
def lA:Option Kp.Ct→AV
 |none=> .ax [kj,bl false]
 |some c=> .ax [nA c,bl true]
theorem SZ{b:List UInt8}{n:Nat}(hr:Kp.cB b=([],n)):Kp.dQ b=none:=by unfold Kp.dQ;rw[hr]
theorem sK{b r:List UInt8}{l:List (List UInt8)}{n:Nat}(hr:Kp.cB b=(r::l,n))(h:r.length<9∨¬r.head?=some 71∨Kp.fE ((r.take 9).drop 1)<1∨4611686018427387904<Kp.fE ((r.take 9).drop 1)):Kp.dQ b=none:=by
 unfold Kp.dQ;rw[hr]
 show(if _ then _ else _)=_
 rw[if_neg]
 rintro⟨h1,h2,h3,h4⟩
 have e:(r.drop 1).take 8=(r.take 9).drop 1:=by rw[List.drop_take]
 rw[e] at h3 h4
 rcases h with h|h|h|h
 ·omega
 ·exact h h2
 ·omega
 ·omega
theorem SX{b r:List UInt8}{l:List (List UInt8)}{n:Nat}(hr:Kp.cB b=(r::l,n))(h1:9≤r.length)(h2:r.head?=some 71)(h3:1≤Kp.fE ((r.take 9).drop 1))(h4:Kp.fE ((r.take 9).drop 1)≤4611686018427387904):Kp.dQ b=some ⟨Kp.fE ((r.take 9).drop 1),r.drop 9,l,n⟩:=by
 unfold Kp.dQ;rw[hr]
 have e:(r.drop 1).take 8=(r.take 9).drop 1:=by rw[List.drop_take]
 show(if _ then _ else _)=_
 rw[e,if_pos ⟨h1,h2,h3,h4⟩]
theorem Pe(l:List UInt8)(b:UInt8):Kp.fE (l++[b])=Kp.fE l*256+b.toNat:=by unfold Kp.fE;rw[List.foldl_append];rfl
theorem Pf{l:List UInt8}{i:Nat}{b:UInt8}(h:l[i]?=some b):Kp.fE (l.take (i+1))=Kp.fE (l.take i)*256+b.toNat:=by rw[List.take_add_one,h];exact Pe _ _
theorem Pa(l:List UInt8):∀(n:Nat),l.foldl (fun n b=>n*256+b.toNat) n<(n+1)*256^l.length:=by
 induction l with
 |nil=>intro n;simp
 |cons b l ih=>
  intro n
  rw[List.foldl_cons,List.length_cons,Nat.pow_succ]
  have h1:=ih (n*256+b.toNat)
  have h2:=b.toNat_lt
  have h3:(n*256+b.toNat+1)*256^l.length≤((n+1)*256)*256^l.length:=Nat.mul_le_mul_right _ ab
  rw[Nat.mul_comm (256^l.length) 256,←Nat.mul_assoc]
  omega
theorem Pb(l:List UInt8):Kp.fE l<256^l.length:=by have:=Pa l 0;unfold Kp.fE;omega
theorem Pc{l:List UInt8}{i:Nat}(h:i<8):Kp.fE (l.take i)<72057594037927936:=by
 have h1:=Pb (l.take i)
 have h2:(l.take i).length≤7:=by rw[List.length_take];omega
 exact Nat.lt_of_lt_of_le h1 (Nat.pow_le_pow_right aj h2)
theorem xa(n:Nat)(h:n<2^64):IntKind.u64.wrap (n:Int)=(n:Int):=by
 simp only[IntKind.wrap,IntKind.bits,IntKind.signed,Bool.false_and,Bool.false_eq_true,if_false]
 omega
theorem Pd{g:Nat}(b:UInt8)(h:g<72057594037927936):IntKind.u64.wrap ((BitVec.ofInt 64 (IntKind.u64.wrap ((g:Int)*2^min 8 64)) |||BitVec.ofInt 64 (IntKind.u64.wrap (b.toNat:Int))).toNat:Int)=((g*256+b.toNat:Nat):Int):=by
 have h1:=b.toNat_lt
 have e1:IntKind.u64.wrap ((g:Int)*2^min 8 64)=((g*2^8:Nat):Int):=by
  rw[show min 8 64=8 by rfl,show((g:Int)*2^8)=((g*2^8:Nat):Int) by simp,xa _ ab]
 have ho:∀n:Nat,n<2^64→(BitVec.ofInt 64 (n:Int)).toNat=n:=by intro n hn;simp;omega
 rw[e1,xa b.toNat ab,BitVec.toNat_or,ho _ ab,ho _ ab,vI ab,xa _ ab]
theorem inst64u(x y:BitVec 64):@HOr.hOr (BitVec 64) (BitVec 64) (BitVec 64) (@instHOrOfOrOp (BitVec IntKind.u64.bits) (@BitVec.instOrOp IntKind.u64.bits)) x y=x |||y:=rfl
theorem SR(x:List UInt8)(hl:x.length≤400000)(n:Nat)(hr:Kp.cB x=([],n)):ai E 98 [aU x] (fun r t=>r=lA (Kp.dQ x)∧t=[]):=by
 have hcall:=yb x ab
 rw[hr] at hcall
 dsimp only[List.map_nil] at hcall
 rw[SZ hr]
 show ai E 98 [aU x] (fun r t=>r= .ax [.agg [i64 0,.aw,.aw,i64 0],bl false]∧t=[])
 refine ai.aC (n:=66) (rs:=[.cell 2 165,.tmp 3]) Tryz.func98 rfl Tryz.ntmps98 rfl ?_
 repeat'(first
 |refine aa.ah fun K hK=>?_
 |(refine aa.region ?_;simp only[go_sem])
 |(refine hK _ ?_;clear hK K)
 |refine aa.cond rfl (fun c=>?_) (fun c=>?_)<;>first|exact Bool.noConfusion c|(try simp only[dD] at c)
 |(refine ak.one (hcall) ae rfl ?_;simp only[go_sem])
 |((with_reducible refine And.intro ?_ ?_);(focus((simp;done)));(try simp only[hb,go_sem]))
 |(
  refine aa.ret ?_
  refine aM.is ?_;simp only[go_sem,aI,aH,aG,aK,aJ,aL]<;>(first|fail)))
theorem SS(x:List UInt8)(hl:x.length≤400000)(r:List UInt8)(l:List (List UInt8))(n:Nat)(hr:Kp.cB x=(r::l,n))(hrl:r.length≤400000):ai E 98 [aU x] (fun r t=>r=lA (Kp.dQ x)∧t=[]):=by
 have hcall:=yb x ab
 rw[hr] at hcall
 dsimp only[List.map_cons] at hcall
 refine ai.aC (n:=66) (rs:=[.cell 2 165,.tmp 3]) Tryz.func98 rfl Tryz.ntmps98 rfl ?_
 repeat'(first
 |refine aa.ah fun K hK=>?_
 |(
  refine aa.here 2 15 18 rfl ?_
  refine aa.region ?_;simp only[go_sem,List.map_cons,List.getElem?_cons_zero,List.length_cons])
 |(
  refine aa.here 4 34 4 rfl ?_
  refine aa.region ?_;simp only[go_sem,List.map_cons,List.getElem?_cons_zero])
 |(
  refine aa.here 8 42 3 rfl ?_
  have hi8:i<8:=by simp only[List.length_drop,List.length_take] at c;omega
  refine aa.region ?_;simp only[go_sem])
 |(
  refine aa.here 11 50 6 rfl ?_
  have hi9:((r.take 9).drop 1).take i=(r.take 9).drop 1:=List.take_of_length_le ab
  simp only[hi9]
  refine aa.region ?_;simp only[go_sem])
 |(refine aa.region ?_;simp only[go_sem])
 |(refine aa.here 13 57 11 rfl ?_;refine aa.bA [0,1,2,3,5,6,7,4,8,9,10] [] ae ae rfl ?_;simp only[go_sem])
 |(refine hK _ ?_;clear hK K)
 |refine aa.block ?_
 |refine aa.cond rfl (fun c=>?_) (fun c=>?_)<;>first|exact Bool.noConfusion c|(try simp only[dD] at c)
 |refine aa.skip ?_
 |(refine aa.exit ?_;simp only[go_sem])
 |(refine ak.one (hcall) ae rfl ?_;simp only[go_sem])
 |(refine ak.one (nr (r.drop 9) (by rw[List.length_drop];omega)) ae rfl ?_;simp only[go_sem])
 |(refine aP.dk (fun h=>?_) (fun h=>?_)<;>simp only[h,go_sem]<;>(try simp only[dD] at h))
 |((first|refine aQ.nth ?_ (fun b hb=>?_)|with_reducible refine And.intro ?_ ?_);(focus(first|omega|(simp;done)));(try simp only[hb,go_sem]))
 |(
  refine aa.here 7 41 1 rfl ?_
  refine aa.dY (ι:=Nat) [9,41,42,43,44,45,46,47,48,49] (fun(i:Nat)=>[(7,ZW (Kp.fE (((r.take 9).drop 1).take i))),(40,i64 i)]) (fun(i:Nat)=>i≤8) (fun(i:Nat)=>8-i) (0) ?_ ?_ ?_
  ·(try simp only[go_sem]);(repeat'(first|refine And.intro ?_ ?_|exact .inr rfl|trivial));done
  ·omega
  rintro i h1
  simp only[go_sem])
 |(
  refine⟨i+1,?_,?_,?_⟩
  ·(try simp only[go_sem]);(try rw[aN ab ab]);(try rw[Pf hb]);(try simp only[go_sem,inst64u]);(try rw[Pd b (Pc (i:=i) (l:=(r.take 9).drop 1) hi8)]);(try rw[aN ab ab]);(repeat'(first|refine And.intro ?_ ?_|exact abt|exact .inr rfl))
  ·omega
  ·(try simp only[]);omega)
 |(
  refine aa.ret ?_
  refine aM.is ?_;simp only[go_sem,aI,aH,aG,aK,aJ,aL]<;>(first|(exfalso;omega)|(rw[sK hr (.inl ab)];(simp only[lA,kj,go_sem,aI,aH,aG,aK,aJ,aL]<;>first|fail))|(rw[sK hr (.inr (.inl (head_ne af af)))];(simp only[lA,kj,go_sem,aI,aH,aG,aK,aJ,aL]<;>first|fail))|(rw[sK hr (.inr (.inr (.inl ab)))];(simp only[lA,kj,go_sem,aI,aH,aG,aK,aJ,aL]<;>first|fail))|(rw[sK hr (.inr (.inr (.inr ab)))];(simp only[lA,kj,go_sem,aI,aH,aG,aK,aJ,aL]<;>first|fail))|(rw[SX hr ab (head_eq af af) ab ab];rw[aN ab ab];simp only[lA,nA,go_sem,aI,aH,aG,aK,aJ,aL]<;>first|fail)))
 |refine aa.fin af ?_)
theorem SV(b:List UInt8)(hl:b.length≤400000):ai E 98 [aU b] (fun r t=>r=lA (Kp.dQ b)∧t=[]):=by
 rcases hr:Kp.cB b with⟨rs,n⟩
 rcases rs with _|⟨r,l⟩
 ·exact SR b hl n hr
 ·exact SS b hl r l n hr (by
   have h:=(Kp.tY b.length b (Nat.le_refl _)).1
   rw[hr] at h
   have:=(h r aB).2
   omega)
abbrev fV(j:Kp.Jn):AV:= .agg [aU j.d.f0.safe,aU j.d.f0.tail,aU j.d.f1.safe,aU j.d.f1.tail,i64 j.at',i64 j.gen]
theorem QH{j:Kp.Jn}{no nt:Nat}:∀e∈[fV j],∀z∈e.leaves,z.br no nt=true:=by
 intro e he z hz
 simp only[List.mem_singleton] at he
 subst he
 simp only[AV.leaves,List.mem_cons,List.not_mem_nil,or_false] at hz
 rcases hz with rfl|rfl|rfl|rfl|rfl|rfl<;>rfl
theorem qJ{j:Kp.Jn}{no nt:Nat}:some [fV j]=none∨∀es,some [fV j]=some es→∀e∈es,∀z∈e.leaves,z.br no nt=true:= .inr fun es h=>by cases h;exact QH
abbrev tJ:AV:= .agg [.aw,.aw,.aw,.aw,i64 0,i64 0]
theorem abx{no nt:Nat}:∀e∈[tJ],∀z∈e.leaves,z.br no nt=true:=by
 intro e he z hz
 simp only[List.mem_singleton] at he
 subst he
 simp only[AV.leaves,List.mem_cons,List.not_mem_nil,or_false] at hz
 rcases hz with rfl|rfl|rfl|rfl|rfl|rfl<;>rfl
theorem rC{no nt:Nat}:some [tJ]=none∨∀es,some [tJ]=some es→∀e∈es,∀z∈e.leaves,z.br no nt=true:= .inr fun es h=>by cases h;exact abx
theorem Oy:Kp.cJ.take (8+1)=Kp.cJ:=rfl
theorem yV:Kp.cJ.length=9:=rfl
theorem BX{k:Nat}(h:k≤7):IntKind.i64.wrap (56-8*(k:Int)-8)=56-8*((k+1:Nat):Int):=by rw[aN ab ab];omega
theorem yW{k:Nat}(h:k≤7):(Kp.cJ.take (k+1)).map u8++[AV.v (Value.int IntKind.u8 (IntKind.u8.wrap (Int.fdiv 1 (2^min (56-8*(k:Int)).toNat 64))))]=(Kp.cJ.take (k+1+1)).map u8:=by
 rcases(by omega:k=0∨k=1∨k=2∨k=3∨k=4∨k=5∨k=6∨k=7) with rfl|rfl|rfl|rfl|rfl|rfl|rfl|rfl<;>rfl
theorem kQ{d:Kp.Dk}(h:Kp.b6 d=true):ef d:=by
 have:=lV h
 exact⟨by omega,by omega,by omega,by omega⟩
theorem sO{j:Kp.Jn}(h:Kp.ir j=true):Kp.b6 j.d=true∧Kp.fk j.at'=true:=by
 unfold Kp.ir at h
 simp only[Bool.and_eq_true] at h
 exact⟨h.1.1.1,h.1.1.2⟩
theorem xd{j:Kp.Jn}{e:List UInt8}(h:Kp.ir j=false∨(e.length<1∨4000<e.length)):Kp.dz j e=(j,1):=by
 unfold Kp.dz
 rw[if_neg]
 rintro⟨h1,h2,h3⟩
 rcases h with h|h
 ·rw[h1] at h;cases h
 ·omega
theorem xe{j:Kp.Jn}{e:List UInt8}(h:Kp.ir j=true)(h1:1≤e.length)(h2:e.length≤4000)(h3:(Kp.eJ j.d j.at' (Kp.recC e)).2=0):Kp.dz j e=(⟨(Kp.eJ j.d j.at' (Kp.recC e)).1,j.at',j.gen⟩,0):=by unfold Kp.dz;rw[if_pos ⟨h,h1,h2⟩,if_pos h3]
theorem CV{j:Kp.Jn}{e:List UInt8}(h:Kp.ir j=true)(h1:1≤e.length)(h2:e.length≤4000)(h3:¬(Kp.eJ j.d j.at' (Kp.recC e)).2=0):Kp.dz j e=(j,(Kp.eJ j.d j.at' (Kp.recC e)).2):=by
 unfold Kp.dz;rw[if_pos ⟨h,h1,h2⟩,if_neg h3]
 revert h3
 unfold Kp.eJ
 rw[if_pos (gT (sO h).1 (sO h).2)]
 split
 ·intro h;exact absurd rfl h
 ·intro _;rfl
theorem Yj{j:Kp.Jn}(h:Kp.ir j=true):(Kp.iB j.d j.at').2=0:=by unfold Kp.iB;rw[if_pos (gT (sO h).1 (sO h).2)]
theorem QM{j:Kp.Jn}(h:Kp.ir j=false):Kp.ia j=(j,1):=by unfold Kp.ia;rw[h];rfl
theorem QN{j:Kp.Jn}(h:Kp.ir j=true):Kp.ia j=(⟨(Kp.iB j.d j.at').1,j.at',j.gen⟩,0):=by unfold Kp.ia;rw[if_pos h]
theorem BB{d:Kp.Dk}{a b:List UInt8}(h:Kp.b6 d=true)(h2:a.length+b.length≤65536):Kp.b6 ⟨⟨a,b⟩,d.f1⟩=true:=rk (sX h2) (sX (lV h).2)
theorem KI{d:Kp.Dk}(h:Kp.b6 d=true):Kp.gO d 0 0=(⟨⟨[],[]⟩,d.f1⟩,0):=by rw[uB h ab ab];rfl
theorem abk{d:Kp.Dk}(h:Kp.b6 d=true):Kp.eJ ⟨⟨[],[]⟩,d.f1⟩ 0 (Kp.recC Kp.cJ)=(⟨⟨[],Kp.recC Kp.cJ⟩,d.f1⟩,0):=by rw[w9 (BB h aB) (by show 0+0+_≤_;rw[Kp.eC];decide)];rfl
theorem Yg{d:Kp.Dk}(h:Kp.b6 d=true):Kp.iB ⟨⟨[],Kp.recC Kp.cJ⟩,d.f1⟩ 0=(Kp.oX d 0 1 [],0):=by
 have hr:=BB (a:=[]) (b:=Kp.recC Kp.cJ) h aj
 rw[Cd hr,Bm hr]
 show _=(Kp.eD d 0 ⟨Kp.recC (Kp.uP 1 []),[]⟩,0)
 rw[Kp.yU]
 simp[Kp.eD]
theorem zA(j:Kp.Jn)(hd:ef j.d):ai E 91 [fV j] (fun r t=>r=bl (Kp.ir j)∧t=[]):=by
 refine ai.aC (n:=26) (rs:=[.tmp 2]) Tryz.func91 rfl Tryz.ntmps91 rfl ?_
 repeat'(first
 |refine aa.ah fun K hK=>?_
 |(refine aa.region ?_;simp only[go_sem])
 |(refine hK _ ?_;clear hK K)
 |(refine ak.one (mn j.d hd) ae rfl ?_;simp only[go_sem])
 |(refine aP.dk (fun h=>?_) (fun h=>?_)<;>simp only[h,go_sem]<;>(try simp only[dD] at h))
 |(refine aP.split (fun h=>?_) (fun h=>?_)<;>simp only[h,go_sem]<;>(try simp only[dD] at h))
 |(
  refine aa.ret ?_
  refine aM.is ?_;simp only[go_sem,aI,aH,aG,aK,aJ,aL]<;>((unfold Kp.ir Kp.fk Kp.maxD;simp[*];done))))
theorem zD(j:Kp.Jn)(hd:ef j.d):ai E 92 [fV j] (fun r t=>r=fV j∧t=[]):=by
 obtain⟨s0,s1,s2,s3⟩:=hd
 refine ai.aC (n:=25) (rs:=[.cell 2 51]) Tryz.func92 rfl Tryz.ntmps92 rfl ?_
 repeat'(first
 |refine aa.ah fun K hK=>?_
 |(
  refine aa.here 3 10 5 rfl ?_
  obtain rfl|rfl:i=0∨i=1:=by omega
  refine aa.region ?_;simp only[go_sem])
 |(refine aa.region ?_;simp only[go_sem])
 |(refine aa.here 4 12 12 rfl ?_;refine aa.bA [0,1,2,4,5,8,9,3,6,7,10,11] [] ae ae rfl ?_;simp only[go_sem])
 |(refine hK _ ?_;clear hK K)
 |refine aa.block ?_
 |refine aa.cond rfl (fun c=>?_) (fun c=>?_)<;>(try simp only[dD] at c)
 |refine aa.skip ?_
 |(refine aa.exit ?_;simp only[go_sem])
 |(refine ak.one (nr _ ab) ae rfl ?_;simp only[go_sem])
 |(
  refine aa.here 2 9 1 rfl ?_
  refine aa.dR (ι:=Nat) [3,4,9,10,11,12,13,14,15,16,17,18,19,20,21,22,23] (fun(i:Nat)=>[(8,i64 i),(7,cE j.d)]) (fun(i:Nat)=>[some [fV j],some [.agg [.aw,.aw,.aw,.aw,i64 0,i64 0]]]) (fun(i:Nat)=>[]) (fun(i:Nat)=>i≤2) (fun(i:Nat)=>2-i) (0) ?_ ?_ ?_
  ·(try simp only[go_sem]);(try simp only[go_sem,fc,fe]);(repeat'(first|exact qJ|exact rC|refine And.intro ?_ ?_))
  ·omega
  rintro i h1
  simp only[go_sem])
 |(
  refine⟨1,?_,?_,?_⟩
  ·(try simp only[go_sem]);(try rw[aN ab ab]);(try simp only[go_sem,fc,fe]);(repeat'(first|exact qJ|exact rC|refine And.intro ?_ ?_))
  ·omega
  ·(try simp only[]);omega)
 |(
  refine⟨2,?_,?_,?_⟩
  ·(try simp only[go_sem]);(try rw[aN ab ab]);(try simp only[go_sem,fc,fe]);(repeat'(first|exact qJ|exact rC|refine And.intro ?_ ?_))
  ·omega
  ·(try simp only[]);omega)
 |(
  refine aa.ret ?_
  refine aM.is ?_;simp only[go_sem,aI,aH,aG,aK,aJ,aL]<;>(first|fail))
 |refine aa.fin af ?_)
theorem QE(j:Kp.Jn)(e:List UInt8)(hd:ef j.d)(he:e.length≤1000000):ai E 39 [fV j,aU e] (fun r t=>r= .ax [fV (Kp.dz j e).1,i64 (Kp.dz j e).2]∧t=[]):=by
 have hd0:=hd
 refine ai.aC (n:=51) (rs:=[.cell 4 51,.tmp 5]) Tryz.func39 rfl Tryz.ntmps39 rfl ?_
 repeat'(first
 |refine aa.ah fun K hK=>?_
 |(refine aa.region ?_;simp only[go_sem])
 |(refine hK _ ?_;clear hK K)
 |refine aa.cond rfl (fun c=>?_) (fun c=>?_)<;>first|exact Bool.noConfusion c|(try simp only[dD] at c)
 |refine aa.skip ?_
 |(refine ak.one (zA j hd0) ae rfl ?_;simp only[go_sem])
 |(refine ak.one (zD j hd0) ae rfl ?_;simp only[go_sem])
 |(refine ak.one (yc e ab ab) ae rfl ?_;simp only[go_sem])
 |(refine ak.one (yG j.d j.at' (Kp.recC e) hd0 (by rw[Kp.eC];omega)) ae rfl ?_;simp only[go_sem])
 |(refine aP.dk (fun h=>?_) (fun h=>?_)<;>simp only[h,go_sem]<;>(try simp only[dD] at h))
 |(refine aP.split (fun h=>?_) (fun h=>?_)<;>simp only[h,go_sem]<;>(try simp only[dD] at h))
 |((with_reducible refine And.intro ?_ ?_);(focus((simp;done)));(try simp only[hb,go_sem]))
 |(
  refine aa.ret ?_
  refine aM.is ?_;simp only[go_sem,aI,aH,aG,aK,aJ,aL]<;>(first|(rw[xd (.inl af)];exact⟨⟨rfl,rfl,rfl,rfl,rfl,rfl⟩,rfl⟩)|(rw[xd (.inr ab)];exact⟨⟨rfl,rfl,rfl,rfl,rfl,rfl⟩,rfl⟩)|(rw[xe af ab ab af];exact⟨⟨rfl,rfl,rfl,rfl,rfl,rfl⟩,rfl⟩)|(rw[CV af ab ab af];exact⟨⟨rfl,rfl,rfl,rfl,rfl,rfl⟩,rfl⟩))))
theorem QL(j:Kp.Jn)(hd:ef j.d):ai E 41 [fV j] (fun r t=>r= .ax [fV (Kp.ia j).1,i64 (Kp.ia j).2]∧t=[]):=by
 have hd0:=hd
 refine ai.aC (n:=27) (rs:=[.cell 2 51,.tmp 3]) Tryz.func41 rfl Tryz.ntmps41 rfl ?_
 repeat'(first
 |refine aa.ah fun K hK=>?_
 |(refine aa.region ?_;simp only[go_sem])
 |(refine hK _ ?_;clear hK K)
 |refine aa.cond rfl (fun c=>?_) (fun c=>?_)<;>(try simp only[dD] at c)
 |refine aa.skip ?_
 |(refine ak.one (zA j hd0) ae rfl ?_;simp only[go_sem])
 |(refine ak.one (zD j hd0) ae rfl ?_;simp only[go_sem])
 |(refine ak.one (yF j.d j.at' hd0) ae rfl ?_;simp only[go_sem])
 |(
  refine aa.ret ?_
  refine aM.is ?_;simp only[go_sem,aI,aH,aG,aK,aJ,aL]<;>(first|(rw[QM af];exact⟨⟨rfl,rfl,rfl,rfl,rfl,rfl⟩,rfl⟩)|(exfalso;exact absurd (Yj af) af)|(rw[QN af];exact⟨⟨rfl,rfl,rfl,rfl,rfl,rfl⟩,rfl⟩))))
theorem QG(j:Kp.Jn)(k0 k1:Int)(hd:ef j.d):ai E 19 [fV j,.agg [i64 k0,i64 k1]] (fun r t=>r=cE (Kp.iJ j k0 k1)∧t=[]):=by
 refine ai.aC (n:=9) (rs:=[.cell 4 49]) Tryz.func19 rfl Tryz.ntmps19 rfl ?_
 repeat'(first
 |refine aa.ah fun K hK=>?_
 |(refine aa.region ?_;simp only[go_sem])
 |(refine hK _ ?_;clear hK K)
 |(refine ak.one (KM j.d k0 k1 hd) ae rfl ?_;simp only[go_sem])
 |(
  refine aa.ret ?_
  refine aM.is ?_;simp only[go_sem,aI,aH,aG,aK,aJ,aL]<;>(exact⟨rfl,rfl,rfl,rfl⟩)))
theorem QF(d:Kp.Dk)(hd:Kp.b6 d=true):ai E 100 [cE d,i64 0,i64 1,.aw] (fun r t=>r= .ax [cE (Kp.oX d 0 1 []),i64 0]∧t=[]):=by
 have hsm:=kQ hd
 have hc1:=yi d 0 0 hsm
 rw[KI hd] at hc1
 have hc2:=yG ⟨⟨[],[]⟩,d.f1⟩ 0 (Kp.recC Kp.cJ) ⟨by simp,by simp,hsm.2.2.1,hsm.2.2.2⟩ (by rw[Kp.eC];decide)
 rw[abk hd] at hc2
 have hc3:=yF ⟨⟨[],Kp.recC Kp.cJ⟩,d.f1⟩ 0 ⟨by simp,by show(Kp.recC Kp.cJ).length≤_;rw[Kp.eC];decide,hsm.2.2.1,hsm.2.2.2⟩
 rw[Yg hd] at hc3
 refine ai.aC (n:=64) (rs:=[.cell 8 49,.tmp 9]) Tryz.func100 rfl Tryz.ntmps100 rfl ?_
 repeat'(first
 |refine aa.ah fun K hK=>?_
 |(
  refine aa.here 5 19 8 rfl ?_
  have hlk:(Kp.cJ.take (k+1)).length=k+1:=by rw[List.length_take];show min (k+1) 9=k+1;omega
  refine aa.region ?_;simp only[go_sem,hlk])
 |(
  refine aa.here 6 26 4 rfl ?_
  obtain rfl:k=8:=by omega
  simp only[Oy]
  refine aa.region ?_;simp only[go_sem,yV])
 |(
  refine aa.here 7 30 7 rfl ?_
  refine aa.region ?_;simp only[go_sem,yV])
 |(refine aa.region ?_;simp only[go_sem])
 |(refine hK _ ?_;clear hK K)
 |refine aa.block ?_
 |refine aa.cond rfl (fun c=>?_) (fun c=>?_)<;>first|exact Bool.noConfusion c|(try simp only[dD] at c)
 |refine aa.skip ?_
 |(refine aa.exit ?_;simp only[go_sem])
 |(refine ak.one (yc Kp.cJ aj aj) ae rfl ?_;simp only[go_sem])
 |(refine ak.one (hc1) ae rfl ?_;simp only[go_sem])
 |(refine ak.one (hc2) ae rfl ?_;simp only[go_sem])
 |(refine ak.one (hc3) ae rfl ?_;simp only[go_sem])
 |((with_reducible refine And.intro ?_ ?_);(focus(omega));(try simp only[hb,go_sem]))
 |(
  refine aa.here 3 15 2 rfl ?_
  refine aa.dR (ι:=Nat) [15,16,17,18,19,20,21,22,23,24,25] (fun(k:Nat)=>[(11,i64 (56-8*(k:Int))),(10,.sl (some 0) 1 ((Kp.cJ.take (k+1)).map u8))]) (fun(k:Nat)=>[some [cE d],some [.agg [.aw,.aw,.aw,.aw]]]) (fun(k:Nat)=>[k+1]) (fun(k:Nat)=>k≤8) (fun(k:Nat)=>8-k) (0) ?_ ?_ ?_
  ·(try simp only[go_sem]);(try rw[yW (k:=k) ab,BX (k:=k) ab]);(repeat'(first|refine And.intro ?_ ?_|exact gP|exact mY|exact .inr rfl))
  ·omega
  rintro k h1
  simp only[go_sem])
 |(
  refine⟨k+1,⟨⟨.inr ?_,.inr ?_⟩,⟨gP,mY⟩,rfl⟩,by omega,by omega⟩
  ·rw[yW (k:=k) ab]
  ·rw[BX (k:=k) ab])
 |(
  refine aa.ret ?_
  refine aM.is ?_;simp only[go_sem,aI,aH,aG,aK,aJ,aL]<;>(first|fail))
 |refine aa.fin af ?_)
def sZ(x:Kp.Jn×List UInt8×List (List UInt8)×Int):AV:= .ax [fV x.1,aU x.2.1,.sl none 1 (x.2.2.1.map aU),i64 x.2.2.2]
theorem UP{d:Kp.Dk}(h:Kp.b6 d=false):Kp.b9 d=(⟨⟨⟨[],[]⟩,⟨[],[]⟩⟩,0,0⟩,[],[],1):=by unfold Kp.b9;rw[h];rfl
def lz:Option Kp.Ct→AV
 |none=>kj
 |some c=>nA c
def nI:Option Kp.Ct→Int
 |none=>0
 |some c=>c.gen
def lY(s:Int×Option Kp.Ct)(n:Nat):Option Kp.Ct→Int×Option Kp.Ct
 |none=>s
 |some c=>if s.1<0∨nI s.2<c.gen then((n:Int),some c) else s
def gG(d:Kp.Dk):Nat→Int×Option Kp.Ct
 |0=>(-1,none)
 |n+1=>lY (gG d n) n (Kp.dQ (Kp.db d (n:Int)))
theorem XX{d:Kp.Dk}{i:Nat}{s:Int×Option Kp.Ct}(hq:Kp.dQ (Kp.db d (i:Int))=none)(hs:gG d i=s):gG d (i+1)=s:=by rw[gG,hq,hs];rfl
theorem XY{d:Kp.Dk}{i:Nat}{s:Int×Option Kp.Ct}{c:Kp.Ct}(hq:Kp.dQ (Kp.db d (i:Int))=some c)(hs:gG d i=s)(h:s.1<0∨nI s.2<c.gen):gG d (i+1)=((i:Int),some c):=by rw[gG,hq,hs];exact if_pos h
theorem XW{d:Kp.Dk}{i:Nat}{s:Int×Option Kp.Ct}{c:Kp.Ct}(hq:Kp.dQ (Kp.db d (i:Int))=some c)(hs:gG d i=s)(h:¬(s.1<0∨nI s.2<c.gen)):gG d (i+1)=s:=by rw[gG,hq,hs];exact if_neg h
theorem sL{b:List UInt8}{c:Kp.Ct}(h:Kp.dQ b=some c):c.long≤b.length:=by
 have h1:=(Kp.SY h).1
 have h2:=Kp.tY b.length b (Nat.le_refl _)
 have h3:=congrArg List.length h2.2.2.1
 rw[List.length_append] at h3
 omega
theorem KF{o:Option Kp.Ct}{no nt:Nat}:∀e∈[lz o],∀z∈e.leaves,z.br no nt=true:=by
 intro e he z hz
 simp only[List.mem_singleton] at he
 subst he
 cases o<;>(simp only[lz,kj,nA,AV.leaves,List.mem_cons,List.not_mem_nil,or_false] at hz;rcases hz with rfl|rfl|rfl|rfl<;>rfl)
theorem yd{o:Option Kp.Ct}{no nt:Nat}:some [lz o]=none∨some [lz o]=some [lz o]∧∀es,some [lz o]=some es→∀e∈es,∀z∈e.leaves,z.br no nt=true:= .inr ⟨rfl,fun es h=>by cases h;exact KF⟩
theorem XZ{d:Kp.Dk}(hr:Kp.b6 d=true):(gG d 2=(-1,none)∧Kp.b9 d=(⟨Kp.oX d 0 1 [],0,1⟩,[],[],0))∨
 ∃(n:Int) (c:Kp.Ct),(n=0∨n=1)∧gG d 2=(n,some c)∧c.long≤(Kp.db d n).length∧(Kp.gO d n c.long).2=0∧Kp.b9 d=(⟨(Kp.gO d n c.long).1,n,c.gen⟩,c.snap,c.nC,0):=by
 have r0:Kp.db d ((0:Nat):Int)=Kp.bL d.f0:=pK hr rfl
 have r1:Kp.db d ((1:Nat):Int)=Kp.bL d.f1:=pK hr rfl
 have r0':Kp.db d 0=Kp.bL d.f0:=pK hr rfl
 have r1':Kp.db d 1=Kp.bL d.f1:=pK hr rfl
 have e2:gG d 2=lY (lY (-1,none) 0 (Kp.dQ (Kp.bL d.f0))) 1 (Kp.dQ (Kp.bL d.f1)):=by show lY (lY (-1,none) 0 (Kp.dQ (Kp.db d ((0:Nat):Int)))) 1 (Kp.dQ (Kp.db d ((1:Nat):Int)))=_;rw[r0,r1]
 have c0:∀c:Kp.Ct,c.long≤(Kp.bL d.f0).length→Kp.gO d 0 c.long=(Kp.eD d 0 ⟨(Kp.bL d.f0).take c.long,[]⟩,0):=by
  intro c hc;rw[uB hr ab (by rw[r0'];omega),r0'];simp[Kp.eD]
 have c1:∀c:Kp.Ct,c.long≤(Kp.bL d.f1).length→Kp.gO d 1 c.long=(Kp.eD d 1 ⟨(Kp.bL d.f1).take c.long,[]⟩,0):=by
  intro c hc;rw[yf hr ab (by rw[r1'];omega),r1'];simp[Kp.eD]
 rw[e2]
 unfold Kp.b9
 rw[if_pos hr]
 rcases h0:Kp.dQ (Kp.bL d.f0) with _|a<;>rcases h1:Kp.dQ (Kp.bL d.f1) with _|b
 ·exact .inl ⟨rfl,rfl⟩
 ·have:=sL h1
  exact .inr ⟨1,b,.inr rfl,by simp[lY],by rw[r1'];exact this,by rw[c1 b this],by rw[c1 b this]⟩
 ·have:=sL h0
  exact .inr ⟨0,a,.inl rfl,by simp[lY],by rw[r0'];exact this,by rw[c0 a this],by rw[c0 a this]⟩
 ·have l1:=sL h1
  have l0:=sL h0
  by_cases hg:a.gen<b.gen
  ·exact .inr ⟨1,b,.inr rfl,by simp[lY,nI,hg],by rw[r1'];exact l1,by rw[c1 b l1],by rw[c1 b l1];simp[hg]⟩
  ·exact .inr ⟨0,a,.inl rfl,by simp[lY,nI,hg],by rw[r0'];exact l0,by rw[c0 a l0],by rw[c0 a l0];simp[hg]⟩
theorem QJ(d:Kp.Dk)(hd:ef d)(hr:Kp.b6 d=false):ai E 45 [cE d] (fun r t=>r=sZ (Kp.b9 d)∧t=[]):=by
 rw[UP hr]
 refine ai.aC (n:=73) (rs:=[.cell 2 51,.tmp 3,.tmp 4,.tmp 5]) Tryz.func45 rfl Tryz.ntmps45 rfl ?_
 repeat'(first
 |refine aa.ah fun K hK=>?_
 |(refine aa.region ?_;simp only[go_sem])
 |(refine hK _ ?_;clear hK K)
 |refine aa.block ?_
 |refine aa.cond rfl (fun c=>?_) (fun c=>?_)<;>(try simp only[dD] at c)
 |refine aa.skip ?_
 |(refine ak.one (mn d hd) ae rfl ?_;simp only[go_sem])
 |(
  refine aa.ret ?_
  refine aM.is ?_;simp only[go_sem,aI,aH,aG,aK,aJ,aL,sZ]<;>(trivial))
 |(exact Bool.noConfusion (hr.symm.trans c)))
theorem QK(d:Kp.Dk)(hr:Kp.b6 d=true):ai E 45 [cE d] (fun r t=>r=sZ (Kp.b9 d)∧t=[]):=by
 have hd:=kQ hr
 refine ai.aC (n:=73) (rs:=[.cell 2 51,.tmp 3,.tmp 4,.tmp 5]) Tryz.func45 rfl Tryz.ntmps45 rfl ?_
 repeat'(first
 |refine aa.ah fun K hK=>?_
 |(
  refine aa.here 8 20 10 rfl ?_
  have hl:=SV (Kp.db d (i:Int)) (vW hd)
  generalize hq:Kp.dQ (Kp.db d (i:Int))=q at hl
  generalize hs:gG d i=s
  obtain⟨at1,o⟩:=s
  rcases q with _|cq<;>rcases o with _|co<;>simp only[lA,kj,nA] at hl<;>(try simp only[lz,kj,nA])
  all_goals(refine aa.region ?_;simp only[go_sem]))
 |(
  refine aa.here 12 11 1 rfl ?_
  obtain rfl:i=2:=by omega
  rcases XZ hr with⟨e1,e2⟩|⟨n,cc,hn,e1,e3,hz,e2⟩
  rotate_left
  have hcut:=yi d n cc.long hd
  rw[hz] at hcut
  rotate_right
  all_goals(simp only[e1,lz,kj,nA])
  all_goals(refine aa.region ?_;simp only[go_sem]))
 |(refine aa.region ?_;simp only[go_sem])
 |(refine aa.here 10 38 4 rfl ?_;refine aa.bA [0,1,2,3] [] ae ae rfl ?_;simp only[go_sem])
 |(refine aa.here 19 64 13 rfl ?_;apply aa.ov (.take 0 (.take 1 (.take 2 (.take 3 (.take 4 (.take 5 (.take 7 (.fork (.alt 6 (.fork (.alt 8 (.take 9 (.take 10 (.take 11 (.take 12 .done)))) (.alt 9 (.take 8 (.take 10 (.take 11 (.take 12 .done)))) .ends))) (.alt 8 (.fork (.alt 6 (.take 9 (.take 10 (.take 11 (.take 12 .done)))) (.alt 9 (.take 6 (.take 10 (.take 11 (.take 12 .done)))) .ends))) (.alt 9 (.take 6 (.take 8 (.take 10 (.take 11 (.take 12 .done))))) .ends))))))))))) [[],[],[],[2],[0,1,2,3],[],[5],[],[7],[0,1,2,3,4],[0,1,2,3,4,5,6,9],[0,1,2,3,4,5,6,7,8,9,10],[0,1,2,3,4,5,6,7,8,9,10,11]] [] ae ae aj;simp only[go_sem])
 |(refine hK _ ?_;clear hK K)
 |refine aa.block ?_
 |refine aa.cond rfl (fun c=>?_) (fun c=>?_)<;>first|exact Bool.noConfusion c|(try simp only[dD] at c)
 |refine aa.skip ?_
 |(refine aa.exit ?_;simp only[go_sem])
 |(refine ak.one (mn d hd) ae rfl ?_;simp only[go_sem])
 |(refine ak.one (uF d (i:Int) hd) ae rfl ?_;simp only[go_sem])
 |(refine ak.one (hl) ae rfl ?_;simp only[go_sem])
 |(refine ak.one (QF d hr) ae rfl ?_;simp only[go_sem])
 |(refine ak.one (hcut) ae rfl ?_;simp only[go_sem])
 |(refine aP.dk (fun h=>?_) (fun h=>?_)<;>simp only[h,go_sem]<;>(try simp only[dD] at h))
 |((with_reducible refine And.intro ?_ ?_);(focus(omega));(try simp only[hb,go_sem]))
 |exact rfl
 |(
  refine aa.here 6 17 1 rfl ?_
  refine aa.dR (ι:=Nat) [8,9,10,17,18,19,20,21,22,23,24,25,26,27,28,29,30,31,32,33,34,35,36,37,38,39,40] (fun(i:Nat)=>[(16,i64 i),(6,i64 (gG d i).1)]) (fun(i:Nat)=>[some [cE d],some [tJ],some [lz (gG d i).2]]) (fun(i:Nat)=>[]) (fun(i:Nat)=>i≤2) (fun(i:Nat)=>2-i) (0) ?_ ?_ ?_
  ·(try simp only[go_sem]);(try simp only[go_sem,fc,fe]);(repeat'(first|exact gP|exact rC|exact yd|refine And.intro ?_ ?_|exact .inr rfl))
  ·omega
  rintro i h1
  simp only[go_sem])
 |(
  refine⟨i+1,?_,?_,?_⟩
  ·(try simp only[go_sem]);(try rw[aN ab ab]);(first|rw[XX hq hs]|rw[XY hq hs (by dsimp only[nI];omega)]|rw[XW hq hs (by dsimp only[nI];omega)]);(try simp only[go_sem,fc,fe]);(repeat'(first|exact gP|exact rC|exact yd|refine And.intro ?_ ?_|exact .inr rfl))
  ·omega
  ·(try simp only[]);omega)
 |(
  refine aa.ret ?_
  refine aM.is ?_;simp only[go_sem,aI,aH,aG,aK,aJ,aL,sZ]<;>(first|(rw[e2];(trivial))|skip))
 |(exact Bool.noConfusion (hr.symm.trans c))
 |(exfalso;omega)
 |refine aa.fin af ?_)
end Go.Proofs.YthoonfpkfdjhiaaGreatDoor
end
section
namespace Go.Proofs.YthoonfpkfdjhiaaGreatDoor
open Go Go.az Go.RowKit Go.Bk
noncomputable def ED:Env:={ P:=Tryz.prog,ok:=okW,mono:=fun _ _ hb h=>AE hb h,gl:=fun _=>none,dr:=True }
@[go_sem] theorem abP:ED.P=Tryz.prog:=rfl
@[go_sem] theorem abQ:ED.gl=fun _=>none:=rfl
@[go_sem] theorem abS:E.gl=fun _=>none:=rfl
abbrev cF(f:Dn):AV:= .agg [str f.id,str f.ord,str f.acc,str f.sym,bl f.aD,i64 f.au,i64 f.aE,i64 f.time,bl f.live]
abbrev bu(l:List Od):AV:= .sl none 8 (l.map bd)
abbrev dn(l:List Dn):AV:= .sl none 9 (l.map cF)
theorem xO(s:Bs):∀x∈(AV.agg [str s]).leaves,x.dN=some x:=by
 intro x hx
 simp only[AV.leaves,List.mem_cons,List.not_mem_nil,or_false] at hx
 subst hx;rfl
theorem jl(l:List Od):∀e∈l.map bd,∀x∈e.leaves,x.dN=some x:=by
 intro e he x hx
 obtain⟨o,_,rfl⟩:=List.mem_map.1 he
 simp only[AV.leaves,List.mem_cons,List.not_mem_nil,or_false] at hx
 rcases hx with rfl|rfl|rfl|rfl|rfl|rfl|rfl|rfl<;>rfl
theorem sf(l:List Dn):∀e∈l.map cF,∀x∈e.leaves,x.dN=some x:=by
 intro e he x hx
 obtain⟨o,_,rfl⟩:=List.mem_map.1 he
 simp only[AV.leaves,List.mem_cons,List.not_mem_nil,or_false] at hx
 rcases hx with rfl|rfl|rfl|rfl|rfl|rfl|rfl|rfl|rfl<;>rfl
theorem JZ(x:Ex):∀y∈(ao x).leaves,y.dN=some y:=by
 intro y hx
 simp only[AV.leaves,List.mem_cons,List.not_mem_nil,or_false] at hx
 rcases hx with rfl|rfl|rfl|rfl|rfl|rfl|rfl|rfl|rfl|rfl<;>rfl
theorem s9(l:List Od):∀e∈l.map bd,e.leaves.length=8∧∀y∈e.leaves,∃z,y= .v z:=by
 intro e he
 obtain⟨o,_,rfl⟩:=List.mem_map.1 he
 refine⟨rfl,fun x hx=>?_⟩
 simp only[AV.leaves,List.mem_cons,List.not_mem_nil,or_false] at hx
 rcases hx with rfl|rfl|rfl|rfl|rfl|rfl|rfl|rfl<;>exact⟨_,rfl⟩
theorem sT{l:List Od}{n:Nat}{o:Od}(h:l[n]?=some o)(sp:List AV):(l.map bd++sp)[n]?=some (bd o):=by
 have hn:n<l.length:=by
  rcases Nat.lt_or_ge n l.length with h'|h'
  ·exact h'
  ·rw[List.getElem?_eq_none h'] at h;simp at h
 rw[List.getElem?_append_left (by simpa using hn),List.getElem?_map,h];rfl
theorem sU{l:List Od}{n:Nat}{o o':Od}(h:l[n]?=some o)(sp:List AV):(l.map bd++sp).set n (bd o')=(l.set n o').map bd++sp:=by
 have hn:n<l.length:=by
  rcases Nat.lt_or_ge n l.length with h'|h'
  ·exact h'
  ·rw[List.getElem?_eq_none h'] at h;simp at h
 rw[List.set_append_left _ _ (by simpa using hn),List.map_set]
theorem SC{o:Od}(h1:bU o=true)(h2:o.bW=true):IntKind.i64.wrap (o.au-o.done)=eG o:=by
 have h:=h1
 simp only[bU,ca,Bool.and_eq_true,decide_eq_true_eq] at h
 rw[aN ab ab]
 simp[eG,h1,h2]
theorem Tt(n:Int):ai E 112 [i64 n] (fun r t=>r=bl (ca n)∧t=[]):=by
 refine ai.aC (n:=9) (rs:=[.tmp 2]) Tryz.func112 rfl Tryz.ntmps112 rfl ?_
 refine aa.ah fun K1 hK1=>?_
 refine aa.region ?_
 simp only[go_sem]
 refine hK1 _ ?_;clear hK1 K1
 refine aa.ah fun K2 hK2=>?_
 refine aa.region ?_
 simp only[go_sem]
 repeat'((refine aP.split (fun h=>?_) (fun h=>?_)<;>simp only[h,go_sem]<;>try simp only[dD] at h))
 all_goals(
  refine hK2 _ ?_;clear hK2 K2
  refine aa.ret ?_
  try simp only[go_sem]
  exact⟨[],.v _,rfl,rfl,by simp_all[ca]<;>omega,rfl⟩)
theorem TA(n:Int):ai E 113 [i64 n] (fun r t=>r=bl (cj n)∧t=[]):=by
 refine ai.aC (n:=9) (rs:=[.tmp 2]) Tryz.func113 rfl Tryz.ntmps113 rfl ?_
 refine aa.ah fun K1 hK1=>?_
 refine aa.region ?_
 simp only[go_sem]
 refine hK1 _ ?_;clear hK1 K1
 refine aa.ah fun K2 hK2=>?_
 refine aa.region ?_
 simp only[go_sem]
 repeat'((refine aP.split (fun h=>?_) (fun h=>?_)<;>simp only[h,go_sem]<;>try simp only[dD] at h))
 all_goals(
  refine hK2 _ ?_;clear hK2 K2
  refine aa.ret ?_
  try simp only[go_sem]
  exact⟨[],.v _,rfl,rfl,by simp_all[cj]<;>omega,rfl⟩)
theorem UK(s:Bs):ai E 166 [str s] (fun r t=>r=bl (lQ s)∧t=[]):=by
 refine ai.aC (n:=10) (rs:=[.tmp 2]) Tryz.func166 rfl Tryz.ntmps166 rfl ?_
 refine aa.ah fun K1 hK1=>?_
 refine aa.region ?_
 simp only[go_sem]
 refine hK1 _ ?_;clear hK1 K1
 refine aa.ah fun K2 hK2=>?_
 refine aa.region ?_
 simp only[go_sem]
 repeat'((refine aP.dk (fun h=>?_) (fun h=>?_)<;>simp only[h,go_sem]<;>try simp only[dD] at h))
 all_goals(
  refine hK2 _ ?_;clear hK2 K2
  refine aa.ret ?_
  try simp only[go_sem]
  exact⟨[],.v _,rfl,rfl,by simp_all[lQ]<;>omega,rfl⟩)
theorem Ax(n:Int):ai E 167 [i64 n] (fun r t=>r=bl (ca n)∧t=[]):=by
 refine ai.aC (n:=9) (rs:=[.tmp 2]) Tryz.func167 rfl Tryz.ntmps167 rfl ?_
 refine aa.ah fun K1 hK1=>?_
 refine aa.region ?_
 simp only[go_sem]
 refine hK1 _ ?_;clear hK1 K1
 refine aa.ah fun K2 hK2=>?_
 refine aa.region ?_
 simp only[go_sem]
 repeat'((refine aP.split (fun h=>?_) (fun h=>?_)<;>simp only[h,go_sem]<;>try simp only[dD] at h))
 all_goals(
  refine hK2 _ ?_;clear hK2 K2
  refine aa.ret ?_
  try simp only[go_sem]
  exact⟨[],.v _,rfl,rfl,by simp_all[ca]<;>omega,rfl⟩)
theorem ui(n:Int):ai E 147 [i64 n] (fun r t=>r=bl (ca n)∧t=[]):=by
 refine ai.aC (n:=9) (rs:=[.tmp 2]) Tryz.func147 rfl Tryz.ntmps147 rfl ?_
 refine aa.ah fun K1 hK1=>?_
 refine aa.region ?_
 simp only[go_sem]
 refine hK1 _ ?_;clear hK1 K1
 refine aa.ah fun K2 hK2=>?_
 refine aa.region ?_
 simp only[go_sem]
 repeat'((refine aP.split (fun h=>?_) (fun h=>?_)<;>simp only[h,go_sem]<;>try simp only[dD] at h))
 all_goals(
  refine hK2 _ ?_;clear hK2 K2
  refine aa.ret ?_
  try simp only[go_sem]
  exact⟨[],.v _,rfl,rfl,by simp_all[ca]<;>omega,rfl⟩)
theorem Tq(s:Bs):ai E 111 [str s] (fun r t=>r=bl (cg s)∧t=[]):=by
 refine ai.aC (n:=45) (rs:=[.tmp 2]) Tryz.func111 rfl Tryz.ntmps111 rfl ?_
 refine aa.ah fun K1 hK1=>?_
 refine aa.region ?_
 simp only[go_sem]
 refine hK1 _ ?_;clear hK1 K1
 refine aa.ah fun K2 hK2=>?_
 refine aa.ah fun K3 hK3=>?_
 refine aa.region ?_
 simp only[go_sem]
 repeat'((refine aP.dk (fun h=>?_) (fun h=>?_)<;>simp only[h,go_sem]<;>try simp only[dD] at h))
 all_goals(
  refine hK3 _ ?_;clear hK3 K3
  refine aa.cond rfl (fun c12=>?_) (fun c12=>?_)
  ·(
    try simp only[dD] at c12
    refine aa.ah fun K4 hK4=>?_
    refine aa.region ?_
    simp only[go_sem]
    refine hK4 _ ?_;clear hK4 K4
    refine aa.ret ?_
    try simp only[go_sem]
    clear hK2 K2
    (exact⟨[],.v _,rfl,rfl,congrArg bl (vy ab).symm,rfl⟩))
  ·first|exact Bool.noConfusion c12|(
    try simp only[dD] at c12
    refine aa.skip ?_
    refine hK2 _ ?_;clear hK2 K2
    refine aa.ah fun K5 hK5=>?_
    refine aa.ah fun K6 hK6=>?_
    refine aa.region ?_
    simp only[go_sem]
    refine hK6 _ ?_;clear hK6 K6
    refine aa.block ?_
    refine aa.mE (ι:=Nat) [2,3,4,16,17,18,19,20,21,22,23,24,25,26,27,28,29,30,31,32,33,34,35,36,37,38,39,40,41,42,43,44] (fun(i:Nat)=>[(15,i64 i)]) (fun(i:Nat)=>i≤s.length∧s.length≤16∧(s.take i).all isName=true) (fun(i:Nat)=>s.length-i) (0) ?_ ?_ ?_
    ·(try simp only[go_sem]);try(simp;done)
    ·exact⟨by omega,by omega,by simp⟩
    rintro i ⟨h1,h2,h3⟩
    simp only[go_sem]
    refine aa.ah fun K7 hK7=>?_
    refine aa.region ?_
    simp only[go_sem]
    refine hK7 _ ?_;clear hK7 K7
    refine aa.ah fun K8 hK8=>?_
    refine aa.cond rfl (fun c16=>?_) (fun c16=>?_)
    ·(
      try simp only[dD] at c16
      refine aa.skip ?_
      refine hK8 _ ?_;clear hK8 K8
      refine aa.ah fun K9 hK9=>?_
      refine aa.block ?_
      refine aa.ah fun K10 hK10=>?_
      refine aa.region ?_
      simp only[go_sem]
      refine hK10 _ ?_;clear hK10 K10
      refine aa.ah fun K11 hK11=>?_
      refine aa.region ?_
      simp only[go_sem]
      repeat'(((refine aQ.mH ?_ (fun b hb=>?_));(focus((omega)));(try simp only[hb,go_sem])))
      refine hK11 _ ?_;clear hK11 K11
      refine aa.ah fun K12 hK12=>?_
      refine aa.region ?_
      simp only[go_sem]
      repeat'(first|(refine aP.dk (fun h=>?_) (fun h=>?_)<;>simp only[h,go_sem]<;>try simp only[dD] at h)|(refine aP.split (fun h=>?_) (fun h=>?_)<;>simp only[h,go_sem]<;>try simp only[dD] at h))
      all_goals(
       refine hK12 _ ?_;clear hK12 K12
       refine aa.cond rfl (fun c43=>?_) (fun c43=>?_)
       ·first|exact Bool.noConfusion c43|(
         try simp only[dD] at c43
         refine aa.ah fun K13 hK13=>?_
         refine aa.region ?_
         simp only[go_sem]
         refine hK13 _ ?_;clear hK13 K13
         refine aa.ret ?_
         try simp only[go_sem]
         clear hK9 K9 hK5 K5
         first
         |exact⟨[],.v _,rfl,rfl,congrArg bl (vy ab).symm,rfl⟩
         |exact⟨[],.v _,rfl,rfl,congrArg bl (Al hb (by simp only[isName];simp;omega)).symm,rfl⟩)
       ·first|exact Bool.noConfusion c43|(
         try simp only[dD] at c43
         refine aa.skip ?_
         refine hK9 _ ?_;clear hK9 K9
         refine aa.region ?_
         simp only[go_sem]
         clear hK5 K5
         refine⟨i+1,?_,?_,?_⟩
         ·(try simp only[go_sem]);(try rw[aN ab ab]);simp
         ·exact⟨by omega,by omega,jM hb h3 (by simp only[isName];simp;omega)⟩
         ·omega)))
    ·(
      try simp only[dD] at c16
      refine aa.exit ?_
      simp only[go_sem]
      clear hK8 K8
      refine hK5 _ ?_;clear hK5 K5
      refine aa.ah fun K14 hK14=>?_
      refine aa.region ?_
      simp only[go_sem]
      refine hK14 _ ?_;clear hK14 K14
      refine aa.ret ?_
      try simp only[go_sem]
      (exact⟨[],.v _,rfl,rfl,congrArg bl (Am ab ab h3).symm,rfl⟩))))
theorem oe(o:Od):ai E 129 [bd o] (fun r t=>r=bl (bU o)∧t=[]):=by
 refine ai.aC (n:=38) (rs:=[.tmp 2]) Tryz.func129 rfl Tryz.ntmps129 rfl ?_
 refine aa.ah fun K1 hK1=>?_
 refine aa.region ?_
 simp only[go_sem]
 refine hK1 _ ?_;clear hK1 K1
 refine aa.ah fun K2 hK2=>?_
 refine aa.region ?_
 simp only[go_sem]
 repeat'(first|(refine ak.one (UK _) ae rfl ?_;simp only[go_sem])|(refine ak.one (Ax _) ae rfl ?_;simp only[go_sem])|(refine aP.split (fun h=>?_) (fun h=>?_)<;>simp only[h,go_sem]<;>try simp only[dD] at h))
 all_goals(
  refine hK2 _ ?_;clear hK2 K2
  refine aa.ret ?_
  try simp only[go_sem]
  exact⟨[],.v _,rfl,rfl,by(simp_all[bU]<;>(intros;omega)),rfl⟩)
theorem AG(o:Od):ai E 251 [bd o] (fun r t=>r=i64 (eG o)∧t=[]):=by
 refine ai.aC (n:=16) (rs:=[.tmp 2]) Tryz.func251 rfl Tryz.ntmps251 rfl ?_
 refine aa.ah fun K1 hK1=>?_
 refine aa.region ?_
 simp only[go_sem]
 refine hK1 _ ?_;clear hK1 K1
 refine aa.ah fun K2 hK2=>?_
 refine aa.ah fun K3 hK3=>?_
 refine aa.region ?_
 simp only[go_sem]
 repeat'(first|(refine ak.one (oe _) ae rfl ?_;simp only[go_sem])|(refine aP.split (fun h=>?_) (fun h=>?_)<;>simp only[h,go_sem]<;>try simp only[dD] at h))
 all_goals(
  refine hK3 _ ?_;clear hK3 K3
  refine aa.cond rfl (fun c10=>?_) (fun c10=>?_)
  ·(
    try simp only[dD] at c10
    refine aa.ah fun K4 hK4=>?_
    refine aa.region ?_
    simp only[go_sem]
    refine hK4 _ ?_;clear hK4 K4
    refine aa.ret ?_
    try simp only[go_sem]
    clear hK2 K2
    exact⟨[],.v _,rfl,rfl,by((simp_all[eG];done)),rfl⟩)
  ·first|exact Bool.noConfusion c10|(
    try simp only[dD] at c10
    refine aa.skip ?_
    refine hK2 _ ?_;clear hK2 K2
    refine aa.ah fun K5 hK5=>?_
    refine aa.region ?_
    simp only[go_sem]
    refine hK5 _ ?_;clear hK5 K5
    refine aa.ret ?_
    try simp only[go_sem]
    exact⟨[],.v _,rfl,rfl,by((rw[SC af af])),rfl⟩))
theorem Ux(o:Od)(p:Int):ai E 287 [bd o,i64 p] (fun r t=>r=bl (il o p)∧t=[]):=by
 refine ai.aC (n:=18) (rs:=[.tmp 4]) Tryz.func287 rfl Tryz.ntmps287 rfl ?_
 refine aa.ah fun K1 hK1=>?_
 refine aa.region ?_
 simp only[go_sem]
 refine hK1 _ ?_;clear hK1 K1
 refine aa.ah fun K2 hK2=>?_
 refine aa.ah fun K3 hK3=>?_
 refine aa.region ?_
 simp only[go_sem]
 repeat'((refine ak.one (Ax _) ae rfl ?_;simp only[go_sem]))
 refine hK3 _ ?_;clear hK3 K3
 refine aa.cond rfl (fun c7=>?_) (fun c7=>?_)
 ·(
   try simp only[dD] at c7
   refine aa.ah fun K4 hK4=>?_
   refine aa.region ?_
   simp only[go_sem]
   refine hK4 _ ?_;clear hK4 K4
   refine aa.ret ?_
   try simp only[go_sem]
   clear hK2 K2
   exact⟨[],.v _,rfl,rfl,by simp_all[il],rfl⟩)
 ·(
   try simp only[dD] at c7
   refine aa.skip ?_
   refine hK2 _ ?_;clear hK2 K2
   refine aa.ah fun K5 hK5=>?_
   refine aa.ah fun K6 hK6=>?_
   refine aa.region ?_
   simp only[go_sem]
   refine hK6 _ ?_;clear hK6 K6
   refine aa.cond rfl (fun c9=>?_) (fun c9=>?_)
   ·(
     try simp only[dD] at c9
     refine aa.ah fun K7 hK7=>?_
     refine aa.region ?_
     simp only[go_sem]
     refine hK7 _ ?_;clear hK7 K7
     refine aa.ret ?_
     try simp only[go_sem]
     clear hK5 K5
     exact⟨[],.v _,rfl,rfl,by simp_all[il],rfl⟩)
   ·(
     try simp only[dD] at c9
     refine aa.skip ?_
     refine hK5 _ ?_;clear hK5 K5
     refine aa.ah fun K8 hK8=>?_
     refine aa.region ?_
     simp only[go_sem]
     refine hK8 _ ?_;clear hK8 K8
     refine aa.ret ?_
     try simp only[go_sem]
     exact⟨[],.v _,rfl,rfl,by simp_all[il],rfl⟩))
theorem ES(o:Od)(b:Bool)(p:Int):ai E 276 [bd o,bl b,i64 p] (fun r t=>r=bl (il { o with aD:=b } p)∧t=[]):=by
 refine ai.aC (n:=24) (rs:=[.tmp 6]) Tryz.func276 rfl Tryz.ntmps276 rfl ?_
 refine aa.ah fun K1 hK1=>?_
 refine aa.region ?_
 simp only[go_sem]
 refine hK1 _ ?_;clear hK1 K1
 refine aa.ah fun K2 hK2=>?_
 refine aa.ah fun K3 hK3=>?_
 refine aa.region ?_
 simp only[go_sem]
 refine hK3 _ ?_;clear hK3 K3
 refine aa.cond rfl (fun c7=>?_) (fun c7=>?_)
 ·(
   try simp only[dD] at c7
   refine aa.ah fun K4 hK4=>?_
   refine aa.region ?_
   simp only[go_sem]
   repeat'(first|(refine ak.one (ui _) ae rfl ?_;simp only[go_sem])|(refine aP.split (fun h=>?_) (fun h=>?_)<;>simp only[h,go_sem]<;>try simp only[dD] at h))
   all_goals(
    refine hK4 _ ?_;clear hK4 K4
    refine aa.ret ?_
    try simp only[go_sem]
    clear hK2 K2
    exact⟨[],.v _,rfl,rfl,by simp_all[il],rfl⟩))
 ·(
   try simp only[dD] at c7
   refine aa.skip ?_
   refine hK2 _ ?_;clear hK2 K2
   refine aa.ah fun K5 hK5=>?_
   refine aa.region ?_
   simp only[go_sem]
   repeat'(first|(refine ak.one (ui _) ae rfl ?_;simp only[go_sem])|(refine aP.split (fun h=>?_) (fun h=>?_)<;>simp only[h,go_sem]<;>try simp only[dD] at h))
   all_goals(
    refine hK5 _ ?_;clear hK5 K5
    refine aa.ret ?_
    try simp only[go_sem]
    exact⟨[],.v _,rfl,rfl,by simp_all[il],rfl⟩))
theorem Vo(o:Od)(id:Bs):ai E 187 [bd o,.bQ [str id]] (fun r t=>r=bl (decide (o.id=id))∧t=[]):=by
 refine ai.aC (n:=8) (rs:=[.tmp 3]) Tryz.func187 rfl Tryz.ntmps187 rfl ?_
 refine aa.ah fun K1 hK1=>?_
 refine aa.region ?_
 simp only[go_sem]
 refine hK1 _ ?_;clear hK1 K1
 refine aa.ah fun K2 hK2=>?_
 refine aa.region ?_
 simp only[go_sem]
 refine hK2 _ ?_;clear hK2 K2
 refine aa.ret ?_
 try simp only[go_sem]
 exact⟨[],.v _,rfl,rfl,by simp_all,rfl⟩
theorem UB(l:List Od)(id:Bs)(hl:l.length≤9223372036854775807):ai E 174 [bu l,.fn 187 [.bQ [str id]]] (fun r t=>r=i64 (ee l id)∧t=[]):=by
 refine ai.aC (n:=19) (rs:=[.tmp 4]) Tryz.func174 rfl Tryz.ntmps174 rfl ?_
 refine aa.ah fun K1 hK1=>?_
 refine aa.region ?_
 simp only[go_sem]
 refine hK1 _ ?_;clear hK1 K1
 refine aa.ah fun K2 hK2=>?_
 refine aa.ah fun K3 hK3=>?_
 refine aa.region ?_
 simp only[go_sem]
 repeat'(((with_reducible refine And.intro ?_ ?_);(focus(((simp;done))));(try simp only[hb,go_sem])))
 refine hK3 _ ?_;clear hK3 K3
 refine aa.block ?_
 refine aa.mE (ι:=Nat) [4,5,9,10,11,12,13,14,15,16,17,18] (fun(i:Nat)=>[(8,i64 i)]) (fun(i:Nat)=>i≤l.length∧(l.take i).all (fun o=>!decide (o.id=id))=true) (fun(i:Nat)=>l.length-i) (0) ?_ ?_ ?_
 ·(try simp only[go_sem]);try(simp;done)
 ·exact⟨by omega,by simp⟩
 rintro i ⟨h1,h2⟩
 simp only[go_sem]
 refine aa.ah fun K4 hK4=>?_
 refine aa.region ?_
 simp only[go_sem]
 refine hK4 _ ?_;clear hK4 K4
 refine aa.ah fun K5 hK5=>?_
 refine aa.cond rfl (fun c9=>?_) (fun c9=>?_)
 ·(
   try simp only[dD] at c9
   refine aa.skip ?_
   refine hK5 _ ?_;clear hK5 K5
   refine aa.ah fun K6 hK6=>?_
   refine aa.block ?_
   refine aa.ah fun K7 hK7=>?_
   refine aa.region ?_
   simp only[go_sem]
   refine hK7 _ ?_;clear hK7 K7
   refine aa.ah fun K8 hK8=>?_
   refine aa.region ?_
   simp only[go_sem]
   repeat'(first|(refine ak.one (Vo _ _) ae rfl ?_;simp only[go_sem])|((refine aQ.nth ?_ (fun b hb=>?_));(focus((omega)));(try simp only[hb,go_sem])))
   refine hK8 _ ?_;clear hK8 K8
   refine aa.cond rfl (fun c16=>?_) (fun c16=>?_)
   ·(
     try simp only[dD] at c16
     refine aa.ah fun K9 hK9=>?_
     refine aa.region ?_
     simp only[go_sem]
     refine hK9 _ ?_;clear hK9 K9
     refine aa.ret ?_
     try simp only[go_sem]
     clear hK6 K6 hK2 K2
     (exact⟨[],.v _,rfl,rfl,by rw[Vt hb af h2],rfl⟩))
   ·(
     try simp only[dD] at c16
     refine aa.skip ?_
     refine hK6 _ ?_;clear hK6 K6
     refine aa.region ?_
     simp only[go_sem]
     clear hK2 K2
     refine⟨i+1,?_,?_,?_⟩
     ·(try simp only[go_sem]);(try rw[aN ab ab]);simp
     ·exact⟨by omega,jM hb h2 (by simp;assumption)⟩
     ·omega))
 ·(
   try simp only[dD] at c9
   refine aa.exit ?_
   simp only[go_sem]
   clear hK5 K5
   refine hK2 _ ?_;clear hK2 K2
   refine aa.ah fun K10 hK10=>?_
   refine aa.region ?_
   simp only[go_sem]
   refine hK10 _ ?_;clear hK10 K10
   refine aa.ret ?_
   try simp only[go_sem]
   (exact⟨[],.v _,rfl,rfl,by rw[Vr ab h2],rfl⟩))
theorem qV(l:List Od)(id:Bs)(hl:l.length≤9223372036854775807):ai E 150 [bu l,str id] (fun r t=>r=i64 (ee l id)∧t=[]):=by
 refine ai.aC (n:=8) (rs:=[.tmp 4]) Tryz.func150 rfl Tryz.ntmps150 rfl ?_
 refine aa.ah fun K1 hK1=>?_
 refine aa.region ?_
 simp only[go_sem]
 refine hK1 _ ?_;clear hK1 K1
 refine aa.ah fun K2 hK2=>?_
 refine aa.region ?_
 simp only[go_sem]
 repeat'((refine ak.hP (UB l id hl) ae rfl (.cons (.one (.clean rfl)) (.cons (.fn (.cons (.ptr (e:= .agg [str id]) rfl (xO id)) .nil)) .nil)) ?_;simp only[go_sem]))
 refine hK2 _ ?_;clear hK2 K2
 refine aa.ret ?_
 try simp only[go_sem]
 exact⟨[],.v _,rfl,rfl,rfl,rfl⟩
theorem mK(l:List Od)(hl:l.length≤9223372036854775807):ai E 107 [bu l] (fun r t=>r=bl (bF l)∧t=[]):=by
 refine ai.aC (n:=28) (rs:=[.tmp 2]) Tryz.func107 rfl Tryz.ntmps107 rfl ?_
 refine aa.ah fun K1 hK1=>?_
 refine aa.region ?_
 simp only[go_sem]
 refine hK1 _ ?_;clear hK1 K1
 refine aa.ah fun K2 hK2=>?_
 refine aa.ah fun K3 hK3=>?_
 refine aa.region ?_
 simp only[go_sem]
 repeat'(((with_reducible refine And.intro ?_ ?_);(focus(((simp;done))));(try simp only[hb,go_sem])))
 refine hK3 _ ?_;clear hK3 K3
 refine aa.cond rfl (fun c7=>?_) (fun c7=>?_)
 ·(
   try simp only[dD] at c7
   refine aa.ah fun K4 hK4=>?_
   refine aa.region ?_
   simp only[go_sem]
   refine hK4 _ ?_;clear hK4 K4
   refine aa.ret ?_
   try simp only[go_sem]
   clear hK2 K2
   (exact⟨[],.v _,rfl,rfl,by rw[BE ab],rfl⟩))
 ·(
   try simp only[dD] at c7
   refine aa.skip ?_
   refine hK2 _ ?_;clear hK2 K2
   refine aa.ah fun K5 hK5=>?_
   refine aa.ah fun K6 hK6=>?_
   refine aa.region ?_
   simp only[go_sem]
   repeat'(((with_reducible refine And.intro ?_ ?_);(focus(((simp;done))));(try simp only[hb,go_sem])))
   refine hK6 _ ?_;clear hK6 K6
   refine aa.block ?_
   refine aa.mE (ι:=Nat) [2,3,4,11,12,13,14,15,16,17,18,19,20,21,22,23,24,25,26,27] (fun(i:Nat)=>[(10,i64 i)]) (fun(i:Nat)=>i≤l.length∧l.length≤64∧kP l i=true) (fun(i:Nat)=>l.length-i) (0) ?_ ?_ ?_
   ·(try simp only[go_sem]);try(simp;done)
   ·exact⟨by omega,by omega,rfl⟩
   rintro i ⟨h1,h2,h3⟩
   simp only[go_sem]
   refine aa.ah fun K7 hK7=>?_
   refine aa.region ?_
   simp only[go_sem]
   refine hK7 _ ?_;clear hK7 K7
   refine aa.ah fun K8 hK8=>?_
   refine aa.cond rfl (fun c11=>?_) (fun c11=>?_)
   ·(
     try simp only[dD] at c11
     refine aa.skip ?_
     refine hK8 _ ?_;clear hK8 K8
     refine aa.ah fun K9 hK9=>?_
     refine aa.block ?_
     refine aa.ah fun K10 hK10=>?_
     refine aa.region ?_
     simp only[go_sem]
     repeat'(((refine aQ.nth ?_ (fun b hb=>?_));(focus((omega)));(try simp only[hb,go_sem])))
     refine hK10 _ ?_;clear hK10 K10
     refine aa.ah fun K11 hK11=>?_
     refine aa.bA [0,1,2,3,4,5,6,7,8,9,10,11] [] ae ae rfl ?_
     simp only[go_sem]
     repeat'(first|(refine ak.one (oe _) ae rfl ?_;simp only[go_sem])|(refine ak.one (qV _ _ (by first|omega|(simp only[List.length_take];omega))) ae rfl ?_;simp only[go_sem])|(refine aP.split (fun h=>?_) (fun h=>?_)<;>simp only[h,go_sem]<;>try simp only[dD] at h)|((with_reducible refine And.intro ?_ ?_);(focus((omega)));(try simp only[hb,go_sem])))
     all_goals(
      refine hK11 _ ?_;clear hK11 K11
      refine aa.cond rfl (fun c26=>?_) (fun c26=>?_)
      ·(
        try simp only[dD] at c26
        refine aa.ah fun K12 hK12=>?_
        refine aa.region ?_
        simp only[go_sem]
        refine hK12 _ ?_;clear hK12 K12
        refine aa.ret ?_
        try simp only[go_sem]
        clear hK9 K9 hK5 K5
        first
        |exact⟨[],.v _,rfl,rfl,by rw[wh ab (UC hb af)],rfl⟩
        |exact⟨[],.v _,rfl,rfl,by rw[wh ab (UD hb af)],rfl⟩)
      ·first|exact Bool.noConfusion c26|(
        try simp only[dD] at c26
        refine aa.skip ?_
        refine hK9 _ ?_;clear hK9 K9
        refine aa.region ?_
        simp only[go_sem]
        clear hK5 K5
        refine⟨i+1,?_,?_,?_⟩
        ·(try simp only[go_sem]);(try rw[aN ab ab]);simp
        ·exact⟨by omega,by omega,WH h3 (UE hb af af)⟩
        ·omega)))
   ·(
     try simp only[dD] at c11
     refine aa.exit ?_
     simp only[go_sem]
     clear hK8 K8
     refine hK5 _ ?_;clear hK5 K5
     refine aa.ah fun K13 hK13=>?_
     refine aa.region ?_
     simp only[go_sem]
     refine hK13 _ ?_;clear hK13 K13
     refine aa.ret ?_
     try simp only[go_sem]
     (exact⟨[],.v _,rfl,rfl,by rw[Go.Bk.rk h2 ab h3],rfl⟩)))
theorem gD{r:List Od×Int}{e:Int}(h:r.2=e)(he:e≠0):∃x,AV.ax [.any,i64 e]= .ax [x,i64 r.2]∧(r.2=0→x=bu r.1):=⟨.any,by rw[h],fun h0=>absurd (h.symm.trans h0) he⟩
theorem kO{r:List Od×Int}{l:List Od}(h:r=(l,0)):∃x,AV.ax [bu l,i64 0]= .ax [x,i64 r.2]∧(r.2=0→x=bu r.1):=⟨bu l,by rw[h],fun _=>by rw[h]⟩
theorem vE(l:List Od)(id:Bs)(hl:l.length≤9223372036854775807):ai E 279 [bu l,str id] (fun r t=>r=i64 (ga l id)∧t=[]):=by
 refine ai.aC (n:=20) (rs:=[.tmp 4]) Tryz.func279 rfl Tryz.ntmps279 rfl ?_
 refine aa.ah fun K1 hK1=>?_
 refine aa.region ?_
 simp only[go_sem]
 refine hK1 _ ?_;clear hK1 K1
 refine aa.ah fun K2 hK2=>?_
 refine aa.region ?_
 simp only[go_sem]
 repeat'((refine ak.one (qV _ _ (by(omega))) ae rfl ?_;simp only[go_sem]))
 refine hK2 _ ?_;clear hK2 K2
 refine aa.ah fun K3 hK3=>?_
 refine aa.ah fun K4 hK4=>?_
 rcases kM l id with⟨e,e2⟩|⟨n,o,e,e2,hb⟩<;>simp only[e]
 all_goals(
  refine aa.region ?_
  simp only[go_sem]
  repeat'((refine aQ.en af ?_;(try simp only[go_sem])))
  all_goals(
   refine hK4 _ ?_;clear hK4 K4
   refine aa.cond rfl (fun c18=>?_) (fun c18=>?_)
   ·first|exact Bool.noConfusion c18|(
     try simp only[dD] at c18
     refine aa.ah fun K5 hK5=>?_
     refine aa.region ?_
     simp only[go_sem]
     refine hK5 _ ?_;clear hK5 K5
     refine aa.ret ?_
     try simp only[go_sem]
     clear hK3 K3
     (exact⟨[],.v _,rfl,rfl,by rw[UM e hb af],rfl⟩))
   ·(
     try simp only[dD] at c18
     refine aa.skip ?_
     refine hK3 _ ?_;clear hK3 K3
     refine aa.ah fun K6 hK6=>?_
     refine aa.region ?_
     simp only[go_sem]
     refine hK6 _ ?_;clear hK6 K6
     refine aa.ret ?_
     try simp only[go_sem]
     first
     |exact⟨[],.v _,rfl,rfl,by rw[UO e hb af],rfl⟩
     |exact⟨[],.v _,rfl,rfl,by rw[UN ab,e],rfl⟩)))
theorem sW(l:List Od)(id:Bs)(hl:l.length≤9223372036854775807):ai E 132 [bu l,str id] (fun r t=>r= .ax [bd (findF l id).1,bl (findF l id).2]∧t=[]):=by
 refine ai.aC (n:=21) (rs:=[.cell 4 23,.tmp 5]) Tryz.func132 rfl Tryz.ntmps132 rfl ?_
 refine aa.ah fun K1 hK1=>?_
 refine aa.region ?_
 simp only[go_sem]
 refine hK1 _ ?_;clear hK1 K1
 refine aa.ah fun K2 hK2=>?_
 refine aa.ah fun K3 hK3=>?_
 refine aa.region ?_
 simp only[go_sem]
 repeat'((refine ak.one (mK _ ab) ae rfl ?_;simp only[go_sem]))
 refine hK3 _ ?_;clear hK3 K3
 refine aa.cond rfl (fun c9=>?_) (fun c9=>?_)
 ·(
   try simp only[dD] at c9
   refine aa.ah fun K4 hK4=>?_
   refine aa.region ?_
   simp only[go_sem]
   refine hK4 _ ?_;clear hK4 K4
   refine aa.ret ?_
   try simp only[go_sem]
   clear hK2 K2
   (exact⟨[],.ax [bd bq,.v _],rfl,⟨⟨rfl,rfl,rfl,rfl,rfl,rfl,rfl,rfl,trivial⟩,rfl,trivial⟩,by rw[Ou af],rfl⟩))
 ·(
   try simp only[dD] at c9
   refine aa.skip ?_
   refine hK2 _ ?_;clear hK2 K2
   refine aa.ah fun K5 hK5=>?_
   refine aa.region ?_
   simp only[go_sem]
   repeat'((refine ak.one (qV _ _ (by(omega))) ae rfl ?_;simp only[go_sem]))
   refine hK5 _ ?_;clear hK5 K5
   refine aa.ah fun K6 hK6=>?_
   refine aa.ah fun K7 hK7=>?_
   refine aa.region ?_
   simp only[go_sem]
   refine hK7 _ ?_;clear hK7 K7
   refine aa.cond rfl (fun c15=>?_) (fun c15=>?_)
   ·(
     try simp only[dD] at c15
     refine aa.ah fun K8 hK8=>?_
     refine aa.region ?_
     simp only[go_sem]
     refine hK8 _ ?_;clear hK8 K8
     refine aa.ret ?_
     try simp only[go_sem]
     clear hK6 K6
     (exact⟨[],.ax [bd bq,.v _],rfl,⟨⟨rfl,rfl,rfl,rfl,rfl,rfl,rfl,rfl,trivial⟩,rfl,trivial⟩,by rw[Ov af ab],rfl⟩))
   ·(
     try simp only[dD] at c15
     refine aa.skip ?_
     refine hK6 _ ?_;clear hK6 K6
     refine aa.ah fun K9 hK9=>?_
     obtain⟨n,o,e,e2,hb⟩:∃n o,ee l id=(n:Nat)∧cT l id=some n∧l[n]?=some o:=by
      rcases kM l id with⟨e,e2⟩|h
      ·exact absurd (show ee l id<0 by omega) af
      ·exact h
     simp only[e]
     refine aa.region ?_
     simp only[go_sem]
     repeat'((refine aQ.en af ?_;(try simp only[go_sem])))
     refine hK9 _ ?_;clear hK9 K9
     refine aa.ret ?_
     try simp only[go_sem]
     (exact⟨[],.ax [bd o,.v _],rfl,⟨⟨rfl,rfl,rfl,rfl,rfl,rfl,rfl,rfl,trivial⟩,rfl,trivial⟩,by rw[Ox af e hb],rfl⟩)))
theorem oc(l:List Od)(hl:l.length≤1000000):ai E 79 [bu l] (fun r t=>r= .sl (some 0) 8 (l.map bd)∧t=[l.length]):=by
 refine ai.aC (n:=8) (rs:=[.tmp 2]) Tryz.func79 rfl Tryz.ntmps79 rfl ?_
 refine aa.ah fun K1 hK1=>?_
 refine aa.region ?_
 simp only[go_sem]
 refine hK1 _ ?_;clear hK1 K1
 refine aa.ah fun K2 hK2=>?_
 refine aa.ah fun K3 hK3=>?_
 refine aa.region ?_
 simp only[go_sem]
 repeat'(((with_reducible refine And.intro ?_ ?_);(focus(((simp;done))));(try simp only[hb,go_sem])))
 intro bb hbb
 refine hK3 _ ?_;clear hK3 K3
 refine aa.cond rfl (fun c4=>?_) (fun c4=>?_)
 ·(
   try simp only[dD] at c4
   refine aa.ah fun K4 hK4=>?_
   refine aa.region ?_
   simp only[go_sem]
   refine hK4 _ ?_;clear hK4 K4
   refine aa.ret ?_
   try simp only[go_sem]
   clear hK2 K2
   first
   |(have he:l=[]:=by
      apply Classical.byContradiction;intro hne
      have:=hbb (by simpa using hne)
      rw[this] at c4;exact absurd c4 aB
     exact⟨[(false,8)],.sl (some 0) 8 [],rfl,rfl,by rw[he];rfl,by rw[he];rfl⟩))
 ·(
   try simp only[dD] at c4
   refine aa.skip ?_
   refine hK2 _ ?_;clear hK2 K2
   refine aa.ah fun K5 hK5=>?_
   refine aa.region ?_
   simp only[go_sem]
   repeat'(((with_reducible refine And.intro ?_ ?_);(focus((omega)));(try simp only[hb,go_sem])))
   refine hK5 _ ?_;clear hK5 K5
   refine aa.ret ?_
   try simp only[go_sem]
   (exact⟨[(true,0)],.sl (some 0) 8 _,rfl,⟨rfl,rfl,rfl⟩,by simp,by simp[iW]⟩))
theorem UL(l:List Od)(o:Od)(hl:l.length≤1000000):ai E 253 [bu l,bd o] (fun r t=>(∃x,r= .ax [x,i64 (dT l o).2]∧((dT l o).2=0→x=bu (dT l o).1))∧t=[]):=by
 refine ai.aC (n:=36) (rs:=[.tmp 4,.tmp 5]) Tryz.func253 rfl Tryz.ntmps253 rfl ?_
 refine aa.ah fun K1 hK1=>?_
 refine aa.region ?_
 simp only[go_sem]
 refine hK1 _ ?_;clear hK1 K1
 refine aa.ah fun K2 hK2=>?_
 refine aa.region ?_
 simp only[go_sem]
 repeat'((refine ak.of (oc l hl) ae rfl ?_;rintro r t ⟨rfl,rfl⟩<;>simp only[go_sem]))
 refine hK2 _ ?_;clear hK2 K2
 refine aa.ah fun K3 hK3=>?_
 refine aa.region ?_
 simp only[go_sem]
 refine hK3 _ ?_;clear hK3 K3
 refine aa.ah fun K4 hK4=>?_
 refine aa.region ?_
 simp only[go_sem]
 refine hK4 _ ?_;clear hK4 K4
 refine aa.ah fun K5 hK5=>?_
 refine aa.block ?_
 refine aa.ah fun K6 hK6=>?_
 refine aa.region ?_
 simp only[go_sem]
 repeat'(first|(refine ak.one (mK _ ab) ae rfl ?_;simp only[go_sem])|(refine ak.one (oe ⟨o.id,o.acc,o.sym,o.aD,o.au,o.aE,0,true⟩) ae rfl ?_;simp only[go_sem])|(refine aP.split (fun h=>?_) (fun h=>?_)<;>simp only[h,go_sem]<;>try simp only[dD] at h))
 all_goals(
  refine hK6 _ ?_;clear hK6 K6
  refine aa.cond rfl (fun c10=>?_) (fun c10=>?_)
  ·(
    try simp only[dD] at c10
    refine aa.ah fun K7 hK7=>?_
    refine aa.region ?_
    simp only[go_sem]
    refine hK7 _ ?_;clear hK7 K7
    refine aa.ret ?_
    try simp only[go_sem]
    clear hK5 K5
    first
    |exact⟨[],.ax [.any,.v _],rfl,⟨trivial,rfl,trivial⟩,gD (TE af) aj,rfl⟩
    |exact⟨[],.ax [.any,.v _],rfl,⟨trivial,rfl,trivial⟩,gD (TF af) aj,rfl⟩)
  ·first|exact Bool.noConfusion c10|(
    try simp only[dD] at c10
    refine aa.ah fun K8 hK8=>?_
    refine aa.region ?_
    simp only[go_sem]
    repeat'((refine ak.one (qV _ _ (by(omega))) ae rfl ?_;simp only[go_sem]))
    refine hK8 _ ?_;clear hK8 K8
    refine aa.cond rfl (fun c20=>?_) (fun c20=>?_)
    ·(
      try simp only[dD] at c20
      refine aa.ah fun K9 hK9=>?_
      refine aa.region ?_
      simp only[go_sem]
      refine hK9 _ ?_;clear hK9 K9
      refine aa.ret ?_
      try simp only[go_sem]
      clear hK5 K5
      (exact⟨[],.ax [.any,.v _],rfl,⟨trivial,rfl,trivial⟩,gD (TH af af af) aj,rfl⟩))
    ·(
      try simp only[dD] at c20
      refine aa.ah fun K10 hK10=>?_
      refine aa.region ?_
      simp only[go_sem]
      repeat'(((with_reducible refine And.intro ?_ ?_);(focus(((simp;done))));(try simp only[hb,go_sem])))
      refine hK10 _ ?_;clear hK10 K10
      refine aa.cond rfl (fun eV=>?_) (fun eV=>?_)
      ·(
        try simp only[dD] at eV
        refine aa.ah fun K11 hK11=>?_
        refine aa.region ?_
        simp only[go_sem]
        refine hK11 _ ?_;clear hK11 K11
        refine aa.ret ?_
        try simp only[go_sem]
        clear hK5 K5
        (exact⟨[],.ax [.any,.v _],rfl,⟨trivial,rfl,trivial⟩,gD (TG af af af ab) aj,rfl⟩))
      ·(
        try simp only[dD] at eV
        refine aa.skip ?_
        refine hK5 _ ?_;clear hK5 K5
        refine aa.ah fun K12 hK12=>?_
        refine aa.region ?_
        simp only[go_sem]
        repeat'(((with_reducible refine And.intro ?_ ?_);(focus((omega)));(try simp only[hb,go_sem])))
        refine hK12 _ ?_;clear hK12 K12
        refine aa.ret ?_
        try simp only[go_sem]
        (exact⟨[],.ax [.sl none 8 _,.v _],rfl,⟨⟨rfl,by rw[List.map_append];rfl⟩,rfl,trivial⟩,kO (TJ af af af ab),rfl⟩)))))
end Go.Proofs.YthoonfpkfdjhiaaGreatDoor
end
