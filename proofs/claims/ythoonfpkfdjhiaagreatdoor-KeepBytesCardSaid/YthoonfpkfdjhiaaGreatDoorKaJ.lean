/- Texts of one chain, put together (Shelf2, ShelfM, N13, D1, D2, D3, J1, J2, J2b, J3, BN0, BN1, BN2, BN3, BN4, BN5, BN6, BN7, BN8, BN9, BN10, BN1b, Vs, BShelf, Q21). -/
import Derived.Shelf.Small.Strs
import Derived.Shelf.Small.Wraps
import Derived.Shelf.Strconv.Itoa0
import Derived.Shelf.Strconv.Itoa1
import Derived.Shelf.LaysM
import Derived.Shelf.Strconv.Itoa2
import Derived.Shelf.Strconv.Itoa3
import Derived.Shelf.Strconv.Itoa4
import Derived.Ground.MpProg
import Derived.Shelf.Pu.ParseUintPublic10
import Derived.Shelf.Pu.ErrVarParseUint
import Derived.Shelf.Strings.Search1
import Derived.Shelf.Strings.Search2
import Derived.Shelf.Strings.Cut
import Derived.Shelf.Strings.Shaped
import Derived.Shelf.Strings.Prefix
import Derived.Shelf.Bytes.SlIndexAt
import Derived.Shelf.Bytes.Small
import Derived.Shelf.Bytes.IndexByte
import Derived.Test.YthoonfpkfdjhiaaGreatDoorKaG
import Derived.Test.YthoonfpkfdjhiaaGreatDoorRows
import Derived.Test.YthoonfpkfdjhiaaGreatDoorKaH
import Derived.Test.YthoonfpkfdjhiaaGreatDoorKaI
import Derived.ProofKit
import Derived.LaidMore
import Derived.OpenShut
import Derived.Stop.Joined
import Derived.HandedShaped
import Derived.Lib.SmallJoins
import Derived.Lay
import Derived.Test.YthoonfpkfdjhiaaGreatDoorKaD
import Derived.Test.YthoonfpkfdjhiaaGreatDoorKaF
import Derived.Shelf.Bits.Mul64
import Derived.Shelf.SlIter.Sorted
import Derived.Shelf.SortM.Plain
import Derived.Shelf.SortM.SortNone
import Derived.Ground.GgzProg
import Derived.Ground.SlgmProg
import Derived.Test.YthoonfpkfdjhiaaGreatDoorProg
import Derived.Test.YthoonfpkfdjhiaaGreatDoorKaE
set_option linter.unusedVariables false
set_option linter.unusedSimpArgs false
set_option maxHeartbeats 16000000
set_option maxRecDepth 8000
section
namespace Go.Proofs
open Go.Shelf
def Tryz.lays145_ren:Go.Shelf.Ren:=⟨fun|145=>124|220=>162|219=>197|217=>155|225=>237|224=>234|267=>238|266=>188|314=>270|n=>n,fun|9=>9|4=>4|59=>183|3=>3|5=>5|46=>202|146=>328|51=>203|n=>n,fun|1=>0|n=>n⟩
theorem Tryz.lays145:Go.Proofs.Lays.n145 Tryz.prog Tryz.lays145_ren:={
 mixed:=by kernel_rfl
 f145:=Tryz.func124.trans (congrArg some (by kernel_rfl))
 f217:=Tryz.func155.trans (congrArg some (by kernel_rfl))
 f219:=Tryz.func197.trans (congrArg some (by kernel_rfl))
 f220:=Tryz.func162.trans (congrArg some (by kernel_rfl))
 f224:=Tryz.func234.trans (congrArg some (by kernel_rfl))
 f225:=Tryz.func237.trans (congrArg some (by kernel_rfl))
 f266:=Tryz.func188.trans (congrArg some (by kernel_rfl))
 f267:=Tryz.func238.trans (congrArg some (by kernel_rfl))
 f314:=Tryz.func270.trans (congrArg some (by kernel_rfl))
 t3:=Tryz.underlying3
 a3:=Tryz.isAgg3
 z3:=Tryz.sizeOf3
 v3:=Tryz.zeroValue3
 t4:=Tryz.underlying4
 a4:=Tryz.isAgg4
 z4:=Tryz.sizeOf4
 v4:=Tryz.zeroValue4
 t5:=Tryz.underlying5
 a5:=Tryz.isAgg5
 z5:=Tryz.sizeOf5
 v5:=Tryz.zeroValue5
 t9:=Tryz.underlying9
 a9:=Tryz.isAgg9
 z9:=Tryz.sizeOf9
 v9:=Tryz.zeroValue9
 t46:=Tryz.underlying202
 a46:=Tryz.isAgg202
 z46:=Tryz.sizeOf202
 v46:=Tryz.zeroValue202
 t51:=Tryz.underlying203
 a51:=Tryz.isAgg203
 z51:=Tryz.sizeOf203
 v51:=Tryz.zeroValue203
 t59:=Tryz.underlying183
 a59:=Tryz.isAgg183
 z59:=Tryz.sizeOf183
 v59:=Tryz.zeroValue183
 t146:=Tryz.underlying328
 a146:=Tryz.isAgg328
 z146:=Tryz.sizeOf328
 v146:=Tryz.zeroValue328
 g1:=by kernel_rfl }
open Go.RowKit Go.Lib in
theorem Tryz.strings_Cut(s sep:ByteArray)(m:Int)(w:World)(hs:s.size<4294967281)(hm:w.cell? ⟨0,0,none⟩=some (.int .i64 m)):
 Calls Tryz.prog 124 #[.string s,.string sep] w fun e w'=>e= .returned (.tuple #[.string ⟨(Lib.cut s.data.toList sep.data.toList).1.toArray⟩,.string ⟨(Lib.cut s.data.toList sep.data.toList).2.1.toArray⟩,.bool (Lib.cut s.data.toList sep.data.toList).2.2])∧∃n,w'=w.drewN n:=Any.strings_Cut Tryz.lays145 s sep m w hs hm
def Tryz.lays187_ren:Go.Shelf.Ren:=⟨fun|187=>70|255=>123|n=>n,fun|37=>30|5=>5|3=>3|n=>n,fun|n=>n⟩
theorem Tryz.lays187:Go.Proofs.Lays.n187 Tryz.prog Tryz.lays187_ren:={
 mixed:=by kernel_rfl
 f187:=Tryz.func70.trans (congrArg some (by kernel_rfl))
 f255:=Tryz.func123.trans (congrArg some (by kernel_rfl))
 t3:=Tryz.underlying3
 a3:=Tryz.isAgg3
 z3:=Tryz.sizeOf3
 v3:=Tryz.zeroValue3
 t5:=Tryz.underlying5
 a5:=Tryz.isAgg5
 z5:=Tryz.sizeOf5
 v5:=Tryz.zeroValue5
 t37:=Tryz.underlying30
 a37:=Tryz.isAgg30
 z37:=Tryz.sizeOf30
 v37:=Tryz.zeroValue30 }
open Go.RowKit Go.Lib in
theorem Tryz.bytes_IndexByte_at(a:Addr)(n c:Nat)(xs:List Int)(cv:Int)(w:World)(hx:xs.length=n)(hc:∀i,i<n→w.cell? (a.add i)=some (.int .u8 (xs.getD i 0))):
 Calls Tryz.prog 70 #[.slice (some a) n c,.int .u8 cv] w fun e w'=>e= .returned (.int .i64 (Lib.indexByte (Lib.bytesOf xs) cv.toNat.toUInt8))∧w'=w:=Any.bytes_IndexByte_at Tryz.lays187 a n c xs cv w hx hc
def Tryz.laysM145_ren:Go.Shelf.Ren:=⟨fun|145=>124|220=>162|219=>197|217=>155|225=>237|224=>234|267=>238|266=>188|314=>270|n=>n,fun|9=>9|4=>4|59=>183|3=>3|5=>5|46=>202|146=>328|51=>203|n=>n,fun|1=>0|n=>n⟩
theorem Tryz.laysM145:Go.Proofs.LaysM.n145 Tryz.prog Tryz.laysM145_ren:={
 mixed:=by kernel_rfl
 f145:=Tryz.func124.trans (congrArg some (by kernel_rfl))
 f217:=Tryz.func155.trans (congrArg some (by kernel_rfl))
 f219:=Tryz.func197.trans (congrArg some (by kernel_rfl))
 f220:=Tryz.func162.trans (congrArg some (by kernel_rfl))
 f224:=Tryz.func234.trans (congrArg some (by kernel_rfl))
 f225:=Tryz.func237.trans (congrArg some (by kernel_rfl))
 f266:=Tryz.func188.trans (congrArg some (by kernel_rfl))
 f267:=Tryz.func238.trans (congrArg some (by kernel_rfl))
 f314:=Tryz.func270.trans (congrArg some (by kernel_rfl))
 t3:=Tryz.underlying3
 a3:=Tryz.isAgg3
 z3:=Tryz.sizeOf3
 v3:=Tryz.zeroValue3
 t4:=Tryz.underlying4
 a4:=Tryz.isAgg4
 z4:=Tryz.sizeOf4
 v4:=Tryz.zeroValue4
 t5:=Tryz.underlying5
 a5:=Tryz.isAgg5
 z5:=Tryz.sizeOf5
 v5:=Tryz.zeroValue5
 t9:=Tryz.underlying9
 a9:=Tryz.isAgg9
 z9:=Tryz.sizeOf9
 v9:=Tryz.zeroValue9
 t46:=Tryz.underlying202
 a46:=Tryz.isAgg202
 z46:=Tryz.sizeOf202
 v46:=Tryz.zeroValue202
 t51:=Tryz.underlying203
 a51:=Tryz.isAgg203
 z51:=Tryz.sizeOf203
 v51:=Tryz.zeroValue203
 t59:=Tryz.underlying183
 a59:=Tryz.isAgg183
 z59:=Tryz.sizeOf183
 v59:=Tryz.zeroValue183
 t146:=Tryz.underlying328
 a146:=Tryz.isAgg328
 z146:=Tryz.sizeOf328
 v146:=Tryz.zeroValue328
 g1:=by kernel_rfl
 i3:=by kernel_rfl
 i4:=by kernel_rfl
 i5:=by kernel_rfl
 i9:=by kernel_rfl
 i46:=by kernel_rfl
 i51:=by kernel_rfl
 i59:=by kernel_rfl
 i146:=by kernel_rfl
 m1:=by kernel_rfl
 s1_3:=fun w h=>Go.Proofs.cell_of_shapedOpen_int (zero:=#[.int .i64 0]) (t:=3) h (of_decide_eq_true (by kernel_rfl)) (by kernel_rfl) rfl (by kernel_rfl) (by kernel_rfl) Tryz.underlying3 }
end Go.Proofs
end
section
namespace Go.Proofs.YthoonfpkfdjhiaaGreatDoor
open Go.ChangeShapes Go.WideShapes Go.ChangeAt Go.RowKit Go.Joins Go.Abs Go.Fld Go.Msg Go.Txt
theorem own:ownKnob Tryz.prog.godebug=none:=by kernel_rfl
theorem laidOut:laidOutB Tryz.prog=true:=by kernel_rfl
abbrev laidL:List (String×DataW Unit):=[("math/bits.deBruijn32tab",Rows.laid_math_bits_deBruijn32tab),("math/bits.deBruijn64tab",Rows.laid_math_bits_deBruijn64tab),("internal/strconv.uint64pow10",Rows.laid_internal_strconv_uint64pow10),("unicode/utf8.acceptRanges",Rows.laid_unicode_utf8_acceptRanges),("strconv.ErrRange",Rows.laid_strconv_ErrRange),("strconv.ErrSyntax",Rows.laid_strconv_ErrSyntax),("unicode/utf8.first",Rows.laid_unicode_utf8_first)]
theorem gPow:Tryz.prog.globalNamed "internal/strconv.uint64pow10" =some 1:=by kernel_rfl
set_option maxRecDepth 100000 in
theorem door_met(os:Os)(args:Array Value):laidMetH Tryz.prog laidL ((World.laidAll Tryz.prog os laidL).forCall (fun _ _=>0) ⟨#[],args,[]⟩).memory:=by
 rw[MakeChecks.laidMetH_plain _ _ _ (by kernel_rfl)];exact laidMet_laidAll _ (by kernel_rfl) (by kernel_rfl)
theorem tPow:(Tryz.prog.globals[1]?).map (·.type)=some 300:=by kernel_rfl
theorem uPow:Tryz.prog.underlying 300=some (.array 20 208):=by kernel_rfl
theorem u68:Tryz.prog.underlying 208=some (.int .u64):=by kernel_rfl
theorem c68:Tryz.prog.cellsOf 208=1:=by kernel_rfl
theorem cPow:Tryz.prog.cellsOf 300=20:=by kernel_rfl
theorem gErr:∃g,Tryz.prog.globalNamed "strconv.ErrRange" =some g∧(Tryz.prog.globals[g]?).map (·.type)=some 230:=⟨5,by kernel_rfl,by kernel_rfl⟩
theorem u84:Tryz.prog.underlying 230=some (.interface #[("Error",373)]):=by kernel_rfl
theorem pow_eq:Rows.laid_internal_strconv_uint64pow10 (H:=Unit)=Lib.tabData .u64 Lib.pow10Tab:=by kernel_rfl
set_option maxRecDepth 100000 in
theorem okW_of{W:World}(h:laidMetH Tryz.prog laidL W)(hsh:W.ShapedOpen Tryz.prog):okW W:=by
 rw[MakeChecks.laidMetH_plain _ _ _ (by kernel_rfl)] at h
 obtain⟨ps,⟨g0,t0,cs0,f0,p0,q0,hg0,ht0,hv0,hd0,⟨g1,t1,cs1,f1,p1,q1,hg1,ht1,hv1,hd1,⟨g2,t2,cs2,f2,p2,q2,hg2,ht2,hv2,hd2,⟨g3,t3,cs3,f3,p3,q3,hg3,ht3,hv3,hd3,⟨g4,t4,cs4,f4,p4,q4,hg4,ht4,hv4,hd4,_,_⟩,_⟩,_⟩,_⟩,_⟩,_,_⟩:=h
 refine⟨?_,?_,Tryz.laysM145.s1_3 W hsh⟩
 ·obtain rfl:=Option.some.inj (gPow.symm.trans hg2)
  obtain rfl:=Option.some.inj (tPow.symm.trans ht2)
  rw[pow_eq] at hd2
  unfold Lib.TabIs
  rw[hv2,←Lib.cells_of_tab uPow u68 c68 cPow hd2]
 ·obtain⟨g,hg,ht⟩:=gErr
  obtain rfl:=Option.some.inj (hg.symm.trans hg4)
  obtain rfl:=Option.some.inj (ht.symm.trans ht4)
  obtain⟨f',u,v,e,_,_⟩:=iface_of_trod u84 hd4
  refine⟨u,v,?_⟩
  rw[hv4]
  congr 1
  apply Array.ext'
  simpa using e
section
variable{H:Type}{enc:TypeId×Value→H}
theorem returns_laid{a:Assume}{C:Checked}{os:Os}{f:FuncId}{fn:Func}{s:ChangeSpec}{conds:List PathCond}{apart fresh handsOn again:Bool}{X:World→Array Value→Prop}
 (hX:∀(w w':World) (args:Array Value),w.heap=w'.heap→X w args→X w' args)
 (own:ownKnob C.prog.godebug=none) (started:os.Started) (noInit:C.prog.inits.idxOf? f=none) (hfn:C.prog.funcs[f]?=some fn)
 (witness:∃(w:World) (tape:Tape) (i:Input),w.os=os∧(w.forCall tape i).Shaped C.prog∧i.vars=[]∧Input.okWide C.prog (w.forCall tape i) .any w.heap.size f i∧
   ((s.pre enc C.prog fn conds apart (w.forCall tape i).memory i.args∧X (w.forCall tape i).memory i.args)∧sizedMet enc C.prog fn (OpenSpec.ofChange s) apart (w.forCall tape i).memory i.args)∧a.holds C.prog (lone (Frame.enter C.prog f i.args .normal) [] (w.forCall tape i)))
 (contract:∀(W:World) (base:Nat) (args:Array Value) (ds gs:List (DataW H)) (before:List MemPlace),
   (∀(j:Nat) t v,fn.params[j]?=some t→args[j]?=some v→Value.okWide C.prog W .any base t v)→
   DataW.Whole enc C.prog fn.params.toList s.vars apart W args.toList ds gs before→W.ShapedOpen C.prog→X W args→
   Calls C.prog f args W fun e W'=>∃v,e= .returned v∧s.post enc C.prog fn apart fresh handsOn again W args v W'):
 ReturnsInHanded a C os f .any (fun w args=>(s.pre enc C.prog fn conds apart w args∧X w args)∧sizedMet enc C.prog fn (OpenSpec.ofChange s) apart w args) (s.post enc C.prog fn apart fresh handsOn again):=by
 refine returnsInHanded_of_calls own started noInit witness ?_
 intro w tape i _ hsh _ hok hpre hholds
 obtain⟨_,_,_,fn',hfn',_,_,_,_,hval⟩:=hok
 have e:fn'=fn:=Option.some.inj (hfn'.symm.trans hfn)
 subst e
 obtain⟨⟨⟨ds,gs,before,hw,hc⟩,hx⟩,hz⟩:=hpre
 have hw':=DataW.Whole.of_heap (w':=w.forCall tape i) (by rfl) hw
 refine(contract (w.forCall tape i) w.heap.size i.args ds gs before hval hw' hsh (hX _ _ _ (by rfl) hx)).mono fun e W' ⟨v,he,hp⟩=>?_
 subst he
 exact ChangeSpec.post_blind hp
end
end Go.Proofs.YthoonfpkfdjhiaaGreatDoor
end
section
namespace Go.Proofs.YthoonfpkfdjhiaaGreatDoor
open Go Go.Abs Go.RowKit
theorem dsync_c(d:Kp.Dk)(n:Int)(hd:smD d):ACalls E 96 [dkV d,i64 n] (fun r t=>r= .tup [dkV (Kp.syncD d n).1,i64 (Kp.syncD d n).2]∧t=[]):=by
 have hd0:=hd
 obtain⟨s0,s1,s2,s3⟩:=hd
 refine ACalls.of_awp (n:=26) (rs:=[.cell 4 49,.tmp 5]) Tryz.func96 rfl Tryz.ntmps96 rfl ?_
 repeat'(first
 |refine AWP.seqk fun K hK=>?_
 |(
  refine AWP.here 4 18 8 rfl ?_
  obtain rfl|rfl:=has_or (n:=n) (by assumption)
  refine AWP.region ?_;simp only[go_sem])
 |(refine AWP.region ?_;simp only[go_sem])
 |(refine hK _ ?_;clear hK K)
 |refine AWP.cond rfl (fun c=>?_) (fun c=>?_)<;>first|exact Bool.noConfusion c|(try simp only[dD] at c)
 |refine AWP.skip ?_
 |(refine ACall.one (down_c d hd0) (by kernel_rfl) rfl ?_;simp only[go_sem])
 |(refine ACall.one (dright_c d hd0) (by kernel_rfl) rfl ?_;simp only[go_sem])
 |(refine ACall.one (dhas_c d n) (by kernel_rfl) rfl ?_;simp only[go_sem])
 |(refine ACall.one (dread_c d _ hd0) (by kernel_rfl) rfl ?_;simp only[go_sem])
 |(refine AGuard.split (fun h=>?_) (fun h=>?_)<;>simp only[h,go_sem]<;>(try simp only[dD] at h))
 |(
  refine AWP.ret ?_
  refine AEnd.is ?_;simp only[go_sem,out_v,out_s,out_n,v_int,v_bool,v_str]<;>(first|(rw[sync_no (.inl (by assumption))];exact⟨⟨rfl,rfl,rfl,rfl⟩,rfl⟩)|(rw[sync_no (.inr (by assumption))];exact⟨⟨rfl,rfl,rfl,rfl⟩,rfl⟩)|(rw[sync_0 (by assumption)];exact⟨⟨rfl,trivial,rfl,rfl⟩,rfl⟩)|(rw[sync_1 (by assumption)];exact⟨⟨rfl,rfl,rfl,trivial⟩,rfl⟩))))
theorem dcut_c(d:Kp.Dk)(n k:Int)(hd:smD d):ACalls E 101 [dkV d,i64 n,i64 k] (fun r t=>r= .tup [dkV (Kp.cutD d n k).1,i64 (Kp.cutD d n k).2]∧t=[]):=by
 have hd0:=hd
 obtain⟨s0,s1,s2,s3⟩:=hd
 refine ACalls.of_awp (n:=42) (rs:=[.cell 6 49,.tmp 7]) Tryz.func101 rfl Tryz.ntmps101 rfl ?_
 repeat'(first
 |refine AWP.seqk fun K hK=>?_
 |(
  refine AWP.here 7 33 9 rfl ?_
  obtain rfl|rfl:=has_or (n:=n) (by assumption)
  refine AWP.region ?_;simp only[go_sem])
 |(refine AWP.region ?_;simp only[go_sem])
 |(refine hK _ ?_;clear hK K)
 |refine AWP.cond rfl (fun c=>?_) (fun c=>?_)<;>first|exact Bool.noConfusion c|(try simp only[dD] at c)
 |refine AWP.skip ?_
 |(refine ACall.one (down_c d hd0) (by kernel_rfl) rfl ?_;simp only[go_sem])
 |(refine ACall.one (dright_c d hd0) (by kernel_rfl) rfl ?_;simp only[go_sem])
 |(refine ACall.one (dhas_c d n) (by kernel_rfl) rfl ?_;simp only[go_sem])
 |(refine ACall.one (dread_c d n hd0) (by kernel_rfl) rfl ?_;simp only[go_sem])
 |(refine ACall.one (bclone_c ((Kp.readD d 0).take k.toNat) (by rw[List.length_take];have:=read_len (n:=0) hd0;omega)) (by kernel_rfl) rfl ?_;simp only[go_sem])
 |(refine ACall.one (bclone_c ((Kp.readD d 1).take k.toNat) (by rw[List.length_take];have:=read_len (n:=1) hd0;omega)) (by kernel_rfl) rfl ?_;simp only[go_sem])
 |(refine AGuard.splitN (fun h=>?_) (fun h=>?_)<;>simp only[h,go_sem]<;>(try simp only[dD] at h))
 |(refine AGuard.split (fun h=>?_) (fun h=>?_)<;>simp only[h,go_sem]<;>(try simp only[dD] at h))
 |((with_reducible refine And.intro ?_ ?_);(focus(first|omega|(simp;done)));(try simp only[hb,go_sem]))
 |(
  refine AWP.ret ?_
  refine AEnd.is ?_;simp only[go_sem,out_v,out_s,out_n,v_int,v_bool,v_str]<;>(first|(rw[cut_no (.inl (by assumption))];exact⟨⟨rfl,rfl,rfl,rfl⟩,rfl⟩)|(rw[cut_no (.inr (by assumption))];exact⟨⟨rfl,rfl,rfl,rfl⟩,rfl⟩)|(rw[cut_n (by omega)];exact⟨⟨rfl,rfl,rfl,rfl⟩,rfl⟩)|(rw[cut_0 (by assumption) (by omega) (by omega)];exact⟨⟨rfl,trivial,rfl,rfl⟩,rfl⟩)|(rw[cut_1 (by assumption) (by omega) (by omega)];exact⟨⟨rfl,rfl,rfl,trivial⟩,rfl⟩))))
def crA(d:Kp.Dk)(k0 k1:Int):Nat→AV
 |0=>dkV d
 |1=> .agg [bytesV [d.f0.safe,d.f0.tail.take k0.toNat].flatten,.nilS,bytesV d.f1.safe,bytesV d.f1.tail]
 |_=> .agg [bytesV [d.f0.safe,d.f0.tail.take k0.toNat].flatten,.nilS,bytesV [d.f1.safe,d.f1.tail.take k1.toNat].flatten,.nilS]
theorem cr_cl{d:Kp.Dk}{k0 k1:Int}:∀{i no nt:Nat},∀e∈[crA d k0 k1 i],∀z∈e.leaves,z.bel no nt=true:=by
 intro i no nt e he z hz
 simp only[List.mem_singleton] at he
 subst he
 match i with
 |0=>exact dk_cl (d:=d) (dkV d) (by simp) z hz
 |1=>
  simp only[crA,AV.leaves,List.mem_cons,List.not_mem_nil,or_false] at hz
  rcases hz with rfl|rfl|rfl|rfl<;>rfl
 |i+2=>
  simp only[crA,AV.leaves,List.mem_cons,List.not_mem_nil,or_false] at hz
  rcases hz with rfl|rfl|rfl|rfl<;>rfl
theorem cr_bel{d:Kp.Dk}{k0 k1:Int}{i no nt:Nat}:some [crA d k0 k1 i]=none∨some [crA d k0 k1 i]=some [crA d k0 k1 i]∧∀es,some [crA d k0 k1 i]=some es→∀e∈es,∀z∈e.leaves,z.bel no nt=true:= .inr ⟨rfl,fun es h=>by cases h;exact cr_cl⟩
theorem kk_cl{k0 k1:Int}{no nt:Nat}:∀e∈[AV.agg [i64 k0,i64 k1]],∀z∈e.leaves,z.bel no nt=true:=by
 intro e he z hz
 simp only[List.mem_singleton] at he
 subst he
 simp only[AV.leaves,List.mem_cons,List.not_mem_nil,or_false] at hz
 rcases hz with rfl|rfl<;>rfl
theorem kk_wk{k0 k1:Int}{no nt:Nat}:some [AV.agg [i64 k0,i64 k1]]=none∨∀es,some [AV.agg [i64 k0,i64 k1]]=some es→∀e∈es,∀z∈e.leaves,z.bel no nt=true:= .inr fun es h=>by cases h;exact kk_cl
theorem cr_min{α:Type}{l:List α}{k:Int}:l.take (min (max k 0) (l.length:Int)).toNat=l.take k.toNat:=by
 rcases(by omega:(l.length:Int)≤max k 0∨max k 0≤(l.length:Int)) with h|h
 ·rw[List.take_of_length_le (by omega),List.take_of_length_le (by omega)]
 ·rw[show(min (max k 0) (l.length:Int)).toNat=k.toNat by omega]
theorem crash_no{d:Kp.Dk}{k0 k1:Int}(h:Kp.rightD d=false):Kp.crashD d k0 k1=d:=by unfold Kp.crashD;rw[h];rfl
theorem crash_yes{d:Kp.Dk}{k0 k1:Int}(h:Kp.rightD d=true):Kp.crashD d k0 k1=⟨⟨[d.f0.safe,d.f0.tail.take k0.toNat].flatten,[]⟩,⟨[d.f1.safe,d.f1.tail.take k1.toNat].flatten,[]⟩⟩:=by
 unfold Kp.crashD Kp.keepN;rw[if_pos h];simp
theorem dcrash_c(d:Kp.Dk)(k0 k1:Int)(hd:smD d):ACalls E 46 [dkV d,.agg [i64 k0,i64 k1]] (fun r t=>r=dkV (Kp.crashD d k0 k1)∧t=[]):=by
 have hd0:=hd
 obtain⟨s0,s1,s2,s3⟩:=hd
 refine ACalls.of_awp (n:=42) (rs:=[.cell 4 49]) Tryz.func46 rfl Tryz.ntmps46 rfl ?_
 repeat'(first
 |refine AWP.seqk fun K hK=>?_
 |(
  refine AWP.here 6 18 5 rfl ?_
  obtain rfl|rfl:i=0∨i=1:=by omega
  refine AWP.region ?_;simp only[go_sem,crA])
 |(
  refine AWP.here 7 20 9 rfl ?_
  refine AWP.regionO [0,1,2,3,4,5,6,7,8] [] (by kernel_rfl) (by kernel_rfl) rfl ?_;simp only[go_sem,crA,cr_min])
 |(
  refine AWP.here 8 28 13 rfl ?_
  refine AWP.regionO [0,1,2,3,4,5,6,10,7,8,9,11,12] [] (by kernel_rfl) (by kernel_rfl) rfl ?_;simp only[go_sem,crA,cr_min])
 |(
  refine AWP.here 10 41 2 rfl ?_
  obtain rfl:i=2:=by omega
  refine AWP.region ?_;simp only[go_sem,crA])
 |(refine AWP.region ?_;simp only[go_sem])
 |(refine hK _ ?_;clear hK K)
 |refine AWP.block ?_
 |refine AWP.cond rfl (fun c=>?_) (fun c=>?_)<;>(try simp only[dD] at c)
 |refine AWP.skip ?_
 |(refine AWP.exit ?_;simp only[go_sem])
 |(refine ACall.one (down_c d hd0) (by kernel_rfl) rfl ?_;simp only[go_sem])
 |(refine ACall.one (dright_c d hd0) (by kernel_rfl) rfl ?_;simp only[go_sem])
 |(refine ACall.one (concat_c [d.f0.safe,d.f0.tail.take k0.toNat] (by simp;omega) (by simp)) (by kernel_rfl) rfl ?_;simp only[go_sem])
 |(refine ACall.one (concat_c [d.f1.safe,d.f1.tail.take k1.toNat] (by simp;omega) (by simp)) (by kernel_rfl) rfl ?_;simp only[go_sem])
 |((with_reducible refine And.intro ?_ ?_);(focus(first|omega|(simp;done)));(try simp only[hb,go_sem]))
 |(
  refine AWP.here 5 17 1 rfl ?_
  refine AWP.loopM (ι:=Nat) [5,6,7,17,18,19,20,21,22,23,24,25,26,27,28,29,30,31,32,33,34,35,36,37,38,39,40] (fun(i:Nat)=>[(16,i64 i)]) (fun(i:Nat)=>[some [crA d k0 k1 i],some [.agg [i64 k0,i64 k1]],some [.agg [.nilS,.nilS,.nilS,.nilS]]]) (fun(i:Nat)=>[]) (fun(i:Nat)=>i≤2) (fun(i:Nat)=>2-i) (0) ?_ ?_ ?_
  ·(try simp only[go_sem]);(try simp only[go_sem,w641,w642,cr_min]);(repeat'(first|exact dk_bel|exact zd_wk|exact kk_wk|refine And.intro ?_ ?_))
  ·omega
  rintro i h1
  simp only[go_sem])
 |(
  refine⟨1,?_,?_,?_⟩
  ·(try simp only[go_sem]);(try rw[wrap64_id (by omega) (by omega)]);(try simp only[go_sem,w641,w642,cr_min]);(repeat'(first|exact cr_bel|exact zd_wk|exact kk_wk|refine And.intro ?_ ?_))
  ·omega
  ·(try simp only[]);omega)
 |(
  refine⟨2,?_,?_,?_⟩
  ·(try simp only[go_sem]);(try rw[wrap64_id (by omega) (by omega)]);(try simp only[go_sem,w641,w642,cr_min]);(repeat'(first|exact cr_bel|exact zd_wk|exact kk_wk|refine And.intro ?_ ?_))
  ·omega
  ·(try simp only[]);omega)
 |(
  refine AWP.ret ?_
  refine AEnd.is ?_;simp only[go_sem,out_v,out_s,out_n,v_int,v_bool,v_str]<;>(first|(rw[crash_no (by assumption)];exact⟨rfl,rfl,rfl,rfl⟩)|(rw[crash_yes (by assumption)];exact⟨rfl,trivial,rfl,trivial⟩)))
 |refine AWP.fin (by assumption) ?_)
theorem _root_.Go.Abs.ACalls.untokT{E:Env}{f:FuncId}{args:List AV}{k n t0:Nat}{es:List AV}{x:Value}(h:ACalls E f args fun r t=>r= .tup [.sl (some t0) k es,.v x]∧t=[n]):ACalls E f args fun r t=>r= .tup [.sl none k es,.v x]∧t=[]:=
 fun w im vs h0 hg h1 h2=>(h w im vs h0 hg h1 h2).mono fun _ _ ⟨v,r,tks,im',a,b,d,e,f,g,i,j⟩=>by
  obtain⟨rfl,_⟩:=j
  refine⟨v,_,[],im',a,b,d,e,f,⟨fun i T b h=>by simp at h,fun i j T U b d h=>by simp at h⟩,.base ?_,rfl,rfl⟩
  cases i with
  |base h=>
   cases h with
   |tup cs vs hn h=>
    have h0:vs[0]?=some (vs[0]'(by simp at hn;omega)):=List.getElem?_eq_getElem _
    exact nomatch h 0 _ _ rfl h0
  |tup cs vs hn h=>
   refine .tup _ _ hn fun i y u hy hu=>?_
   match i with
   |0=>cases hy;exact(h 0 _ u rfl hu).sl_base
   |1=>
    cases hy
    have:=h 1 _ u rfl hu
    cases this with
    |base h=>exact h
   |i+2=>simp at hy
theorem crcall_p(l:List UInt8)(hl:l.length≤1000000):ACalls E 139 [bytesV l] (fun r t=>r= .tup [.sl none 1 ((Kp.allC l).1.map bytesV),i64 (Kp.allC l).2]∧t=[]):=(crcall_c l hl).untokT
abbrev u64V(n:Nat):AV:= .v (.int .u64 (n:Int))
def ct0:AV:= .agg [i64 0,.nilS,.nilS,i64 0]
def ctV(c:Kp.Ct):AV:= .agg [i64 c.gen,bytesV c.snap,.sl none 1 (c.ents.map bytesV),i64 c.long]
theorem zc_cl{no nt:Nat}:∀e∈[AV.agg [i64 0,.nilS,.nilS,i64 0]],∀z∈e.leaves,z.bel no nt=true:=by
 intro e he z hz
 simp only[List.mem_singleton] at he
 subst he
 simp only[AV.leaves,List.mem_cons,List.not_mem_nil,or_false] at hz
 rcases hz with rfl|rfl|rfl|rfl<;>rfl
theorem zc_wk{no nt:Nat}:some [AV.agg [i64 0,.nilS,.nilS,i64 0]]=none∨∀es,some [AV.agg [i64 0,.nilS,.nilS,i64 0]]=some es→∀e∈es,∀z∈e.leaves,z.bel no nt=true:= .inr fun es h=>by cases h;exact zc_cl
theorem head_ne{r:List UInt8}{b:UInt8}(h:r[0]?=some b)(h2:¬(b.toNat:Int)=71):¬r.head?=some 71:=by
 intro e
 rw[List.head?_eq_getElem?,h,Option.some.injEq] at e
 rw[e] at h2;exact h2 rfl
theorem head_eq{r:List UInt8}{b:UInt8}(h:r[0]?=some b)(h2:(b.toNat:Int)=71):r.head?=some 71:=by
 rw[List.head?_eq_getElem?,h]
 have:b.toNat=(71:UInt8).toNat:=by have:(71:UInt8).toNat=71:=rfl;omega
 rw[UInt8.toNat_inj.1 this]
def ctR:Option Kp.Ct→AV
 |none=> .tup [ct0,bl false]
 |some c=> .tup [ctV c,bl true]
theorem look_nil0{b:List UInt8}{n:Nat}(hr:Kp.allC b=([],n)):Kp.lookJ b=none:=by unfold Kp.lookJ;rw[hr]
theorem look_bad{b r:List UInt8}{l:List (List UInt8)}{n:Nat}(hr:Kp.allC b=(r::l,n))(h:r.length<9∨¬r.head?=some 71∨Kp.genN ((r.take 9).drop 1)<1∨4611686018427387904<Kp.genN ((r.take 9).drop 1)):Kp.lookJ b=none:=by
 unfold Kp.lookJ;rw[hr]
 show(if _ then _ else _)=_
 rw[if_neg]
 rintro⟨h1,h2,h3,h4⟩
 have e:(r.drop 1).take 8=(r.take 9).drop 1:=by rw[List.drop_take]
 rw[e] at h3 h4
 rcases h with h|h|h|h
 ·omega
 ·exact h h2
 ·omega
 ·omega
theorem look_good{b r:List UInt8}{l:List (List UInt8)}{n:Nat}(hr:Kp.allC b=(r::l,n))(h1:9≤r.length)(h2:r.head?=some 71)(h3:1≤Kp.genN ((r.take 9).drop 1))(h4:Kp.genN ((r.take 9).drop 1)≤4611686018427387904):Kp.lookJ b=some ⟨Kp.genN ((r.take 9).drop 1),r.drop 9,l,n⟩:=by
 unfold Kp.lookJ;rw[hr]
 have e:(r.drop 1).take 8=(r.take 9).drop 1:=by rw[List.drop_take]
 show(if _ then _ else _)=_
 rw[e,if_pos ⟨h1,h2,h3,h4⟩]
theorem gen_snoc(l:List UInt8)(b:UInt8):Kp.genN (l++[b])=Kp.genN l*256+b.toNat:=by unfold Kp.genN;rw[List.foldl_append];rfl
theorem gen_step{l:List UInt8}{i:Nat}{b:UInt8}(h:l[i]?=some b):Kp.genN (l.take (i+1))=Kp.genN (l.take i)*256+b.toNat:=by rw[List.take_add_one,h];exact gen_snoc _ _
theorem gen_go(l:List UInt8):∀(n:Nat),l.foldl (fun n b=>n*256+b.toNat) n<(n+1)*256^l.length:=by
 induction l with
 |nil=>intro n;simp
 |cons b l ih=>
  intro n
  rw[List.foldl_cons,List.length_cons,Nat.pow_succ]
  have h1:=ih (n*256+b.toNat)
  have h2:=b.toNat_lt
  have h3:(n*256+b.toNat+1)*256^l.length≤((n+1)*256)*256^l.length:=Nat.mul_le_mul_right _ (by omega)
  rw[Nat.mul_comm (256^l.length) 256,←Nat.mul_assoc]
  omega
theorem gen_lt(l:List UInt8):Kp.genN l<256^l.length:=by have:=gen_go l 0;unfold Kp.genN;omega
theorem gen_lt56{l:List UInt8}{i:Nat}(h:i<8):Kp.genN (l.take i)<72057594037927936:=by
 have h1:=gen_lt (l.take i)
 have h2:(l.take i).length≤7:=by rw[List.length_take];omega
 exact Nat.lt_of_lt_of_le h1 (Nat.pow_le_pow_right (by decide) h2)
theorem wru64(n:Nat)(h:n<2^64):IntKind.u64.wrap (n:Int)=(n:Int):=by
 simp only[IntKind.wrap,IntKind.bits,IntKind.signed,Bool.false_and,Bool.false_eq_true,if_false]
 omega
theorem gen_or{g:Nat}(b:UInt8)(h:g<72057594037927936):IntKind.u64.wrap ((BitVec.ofInt 64 (IntKind.u64.wrap ((g:Int)*2^min 8 64)) |||BitVec.ofInt 64 (IntKind.u64.wrap (b.toNat:Int))).toNat:Int)=((g*256+b.toNat:Nat):Int):=by
 have h1:=b.toNat_lt
 have e1:IntKind.u64.wrap ((g:Int)*2^min 8 64)=((g*2^8:Nat):Int):=by
  rw[show min 8 64=8 by rfl,show((g:Int)*2^8)=((g*2^8:Nat):Int) by simp,wru64 _ (by omega)]
 have ho:∀n:Nat,n<2^64→(BitVec.ofInt 64 (n:Int)).toNat=n:=by intro n hn;simp;omega
 rw[e1,wru64 b.toNat (by omega),BitVec.toNat_or,ho _ (by omega),ho _ (by omega),or_add (by omega),wru64 _ (by omega)]
theorem inst64u(x y:BitVec 64):@HOr.hOr (BitVec 64) (BitVec 64) (BitVec 64) (@instHOrOfOrOp (BitVec IntKind.u64.bits) (@BitVec.instOrOp IntKind.u64.bits)) x y=x |||y:=rfl
theorem look0_c(x:List UInt8)(hl:x.length≤400000)(n:Nat)(hr:Kp.allC x=([],n)):ACalls E 98 [bytesV x] (fun r t=>r=ctR (Kp.lookJ x)∧t=[]):=by
 have hcall:=crcall_p x (by omega)
 rw[hr] at hcall
 dsimp only[List.map_nil] at hcall
 rw[look_nil0 hr]
 show ACalls E 98 [bytesV x] (fun r t=>r= .tup [.agg [i64 0,.nilS,.nilS,i64 0],bl false]∧t=[])
 refine ACalls.of_awp (n:=66) (rs:=[.cell 2 165,.tmp 3]) Tryz.func98 rfl Tryz.ntmps98 rfl ?_
 repeat'(first
 |refine AWP.seqk fun K hK=>?_
 |(refine AWP.region ?_;simp only[go_sem])
 |(refine hK _ ?_;clear hK K)
 |refine AWP.cond rfl (fun c=>?_) (fun c=>?_)<;>first|exact Bool.noConfusion c|(try simp only[dD] at c)
 |(refine ACall.one (hcall) (by kernel_rfl) rfl ?_;simp only[go_sem])
 |((with_reducible refine And.intro ?_ ?_);(focus((simp;done)));(try simp only[hb,go_sem]))
 |(
  refine AWP.ret ?_
  refine AEnd.is ?_;simp only[go_sem,out_v,out_s,out_n,v_int,v_bool,v_str]<;>(first|fail)))
theorem look1_c(x:List UInt8)(hl:x.length≤400000)(r:List UInt8)(l:List (List UInt8))(n:Nat)(hr:Kp.allC x=(r::l,n))(hrl:r.length≤400000):ACalls E 98 [bytesV x] (fun r t=>r=ctR (Kp.lookJ x)∧t=[]):=by
 have hcall:=crcall_p x (by omega)
 rw[hr] at hcall
 dsimp only[List.map_cons] at hcall
 refine ACalls.of_awp (n:=66) (rs:=[.cell 2 165,.tmp 3]) Tryz.func98 rfl Tryz.ntmps98 rfl ?_
 repeat'(first
 |refine AWP.seqk fun K hK=>?_
 |(
  refine AWP.here 2 15 18 rfl ?_
  refine AWP.region ?_;simp only[go_sem,List.map_cons,List.getElem?_cons_zero,List.length_cons])
 |(
  refine AWP.here 4 34 4 rfl ?_
  refine AWP.region ?_;simp only[go_sem,List.map_cons,List.getElem?_cons_zero])
 |(
  refine AWP.here 8 42 3 rfl ?_
  have hi8:i<8:=by simp only[List.length_drop,List.length_take] at c;omega
  refine AWP.region ?_;simp only[go_sem])
 |(
  refine AWP.here 11 50 6 rfl ?_
  have hi9:((r.take 9).drop 1).take i=(r.take 9).drop 1:=List.take_of_length_le (by omega)
  simp only[hi9]
  refine AWP.region ?_;simp only[go_sem])
 |(refine AWP.region ?_;simp only[go_sem])
 |(refine AWP.here 13 57 11 rfl ?_;refine AWP.regionO [0,1,2,3,5,6,7,4,8,9,10] [] (by kernel_rfl) (by kernel_rfl) rfl ?_;simp only[go_sem])
 |(refine hK _ ?_;clear hK K)
 |refine AWP.block ?_
 |refine AWP.cond rfl (fun c=>?_) (fun c=>?_)<;>first|exact Bool.noConfusion c|(try simp only[dD] at c)
 |refine AWP.skip ?_
 |(refine AWP.exit ?_;simp only[go_sem])
 |(refine ACall.one (hcall) (by kernel_rfl) rfl ?_;simp only[go_sem])
 |(refine ACall.one (bclone_c (r.drop 9) (by rw[List.length_drop];omega)) (by kernel_rfl) rfl ?_;simp only[go_sem])
 |(refine AGuard.splitN (fun h=>?_) (fun h=>?_)<;>simp only[h,go_sem]<;>(try simp only[dD] at h))
 |((first|refine AGet.nth ?_ (fun b hb=>?_)|with_reducible refine And.intro ?_ ?_);(focus(first|omega|(simp;done)));(try simp only[hb,go_sem]))
 |(
  refine AWP.here 7 41 1 rfl ?_
  refine AWP.loopN (ι:=Nat) [9,41,42,43,44,45,46,47,48,49] (fun(i:Nat)=>[(7,u64V (Kp.genN (((r.take 9).drop 1).take i))),(40,i64 i)]) (fun(i:Nat)=>i≤8) (fun(i:Nat)=>8-i) (0) ?_ ?_ ?_
  ·(try simp only[go_sem]);(repeat'(first|refine And.intro ?_ ?_|exact .inr rfl|trivial));done
  ·omega
  rintro i h1
  simp only[go_sem])
 |(
  refine⟨i+1,?_,?_,?_⟩
  ·(try simp only[go_sem]);(try rw[wrap64_id (by omega) (by omega)]);(try rw[gen_step hb]);(try simp only[go_sem,inst64u]);(try rw[gen_or b (gen_lt56 (i:=i) (l:=(r.take 9).drop 1) hi8)]);(try rw[wrap64_id (by omega) (by omega)]);(repeat'(first|refine And.intro ?_ ?_|exact zc_wk|exact .inr rfl))
  ·omega
  ·(try simp only[]);omega)
 |(
  refine AWP.ret ?_
  refine AEnd.is ?_;simp only[go_sem,out_v,out_s,out_n,v_int,v_bool,v_str]<;>(first|(exfalso;omega)|(rw[look_bad hr (.inl (by omega))];(simp only[ctR,ct0,go_sem,out_v,out_s,out_n,v_int,v_bool,v_str]<;>first|fail))|(rw[look_bad hr (.inr (.inl (head_ne (by assumption) (by assumption))))];(simp only[ctR,ct0,go_sem,out_v,out_s,out_n,v_int,v_bool,v_str]<;>first|fail))|(rw[look_bad hr (.inr (.inr (.inl (by omega))))];(simp only[ctR,ct0,go_sem,out_v,out_s,out_n,v_int,v_bool,v_str]<;>first|fail))|(rw[look_bad hr (.inr (.inr (.inr (by omega))))];(simp only[ctR,ct0,go_sem,out_v,out_s,out_n,v_int,v_bool,v_str]<;>first|fail))|(rw[look_good hr (by omega) (head_eq (by assumption) (by assumption)) (by omega) (by omega)];rw[wrap64_id (by omega) (by omega)];simp only[ctR,ctV,go_sem,out_v,out_s,out_n,v_int,v_bool,v_str]<;>first|fail)))
 |refine AWP.fin (by assumption) ?_)
theorem look_c(b:List UInt8)(hl:b.length≤400000):ACalls E 98 [bytesV b] (fun r t=>r=ctR (Kp.lookJ b)∧t=[]):=by
 rcases hr:Kp.allC b with⟨rs,n⟩
 rcases rs with _|⟨r,l⟩
 ·exact look0_c b hl n hr
 ·exact look1_c b hl r l n hr (by
   have h:=(Kp.all_inv b.length b (Nat.le_refl _)).1
   rw[hr] at h
   have:=(h r (by simp)).2
   omega)
abbrev jnV(j:Kp.Jn):AV:= .agg [bytesV j.d.f0.safe,bytesV j.d.f0.tail,bytesV j.d.f1.safe,bytesV j.d.f1.tail,i64 j.at',i64 j.gen]
theorem jn_cl{j:Kp.Jn}{no nt:Nat}:∀e∈[jnV j],∀z∈e.leaves,z.bel no nt=true:=by
 intro e he z hz
 simp only[List.mem_singleton] at he
 subst he
 simp only[AV.leaves,List.mem_cons,List.not_mem_nil,or_false] at hz
 rcases hz with rfl|rfl|rfl|rfl|rfl|rfl<;>rfl
theorem jn_wk{j:Kp.Jn}{no nt:Nat}:some [jnV j]=none∨∀es,some [jnV j]=some es→∀e∈es,∀z∈e.leaves,z.bel no nt=true:= .inr fun es h=>by cases h;exact jn_cl
abbrev zjV:AV:= .agg [.nilS,.nilS,.nilS,.nilS,i64 0,i64 0]
theorem zj_cl{no nt:Nat}:∀e∈[zjV],∀z∈e.leaves,z.bel no nt=true:=by
 intro e he z hz
 simp only[List.mem_singleton] at he
 subst he
 simp only[AV.leaves,List.mem_cons,List.not_mem_nil,or_false] at hz
 rcases hz with rfl|rfl|rfl|rfl|rfl|rfl<;>rfl
theorem zj_wk{no nt:Nat}:some [zjV]=none∨∀es,some [zjV]=some es→∀e∈es,∀z∈e.leaves,z.bel no nt=true:= .inr fun es h=>by cases h;exact zj_cl
theorem first_all:Kp.firstR.take (8+1)=Kp.firstR:=rfl
theorem first_len:Kp.firstR.length=9:=rfl
theorem shv{k:Nat}(h:k≤7):IntKind.i64.wrap (56-8*(k:Int)-8)=56-8*((k+1:Nat):Int):=by rw[wrap64_id (by omega) (by omega)];omega
theorem first_next{k:Nat}(h:k≤7):(Kp.firstR.take (k+1)).map u8++[AV.v (Value.int IntKind.u8 (IntKind.u8.wrap (Int.fdiv 1 (2^min (56-8*(k:Int)).toNat 64))))]=(Kp.firstR.take (k+1+1)).map u8:=by
 rcases(by omega:k=0∨k=1∨k=2∨k=3∨k=4∨k=5∨k=6∨k=7) with rfl|rfl|rfl|rfl|rfl|rfl|rfl|rfl<;>rfl
theorem right_sm{d:Kp.Dk}(h:Kp.rightD d=true):smD d:=by
 have:=right_len h
 exact⟨by omega,by omega,by omega,by omega⟩
theorem may_j{j:Kp.Jn}(h:Kp.mayJ j=true):Kp.rightD j.d=true∧Kp.hasD j.at'=true:=by
 unfold Kp.mayJ at h
 simp only[Bool.and_eq_true] at h
 exact⟨h.1.1.1,h.1.1.2⟩
theorem add_no{j:Kp.Jn}{e:List UInt8}(h:Kp.mayJ j=false∨(e.length<1∨4000<e.length)):Kp.addJ j e=(j,1):=by
 unfold Kp.addJ
 rw[if_neg]
 rintro⟨h1,h2,h3⟩
 rcases h with h|h
 ·rw[h1] at h;cases h
 ·omega
theorem add_ok{j:Kp.Jn}{e:List UInt8}(h:Kp.mayJ j=true)(h1:1≤e.length)(h2:e.length≤4000)(h3:(Kp.writeD j.d j.at' (Kp.recC e)).2=0):Kp.addJ j e=(⟨(Kp.writeD j.d j.at' (Kp.recC e)).1,j.at',j.gen⟩,0):=by unfold Kp.addJ;rw[if_pos ⟨h,h1,h2⟩,if_pos h3]
theorem add_full{j:Kp.Jn}{e:List UInt8}(h:Kp.mayJ j=true)(h1:1≤e.length)(h2:e.length≤4000)(h3:¬(Kp.writeD j.d j.at' (Kp.recC e)).2=0):Kp.addJ j e=(j,(Kp.writeD j.d j.at' (Kp.recC e)).2):=by
 unfold Kp.addJ;rw[if_pos ⟨h,h1,h2⟩,if_neg h3]
 revert h3
 unfold Kp.writeD
 rw[if_pos (may_yes (may_j h).1 (may_j h).2)]
 split
 ·intro h;exact absurd rfl h
 ·intro _;rfl
theorem sync_zero{j:Kp.Jn}(h:Kp.mayJ j=true):(Kp.syncD j.d j.at').2=0:=by unfold Kp.syncD;rw[if_pos (may_yes (may_j h).1 (may_j h).2)]
theorem jsync_no{j:Kp.Jn}(h:Kp.mayJ j=false):Kp.syncJ j=(j,1):=by unfold Kp.syncJ;rw[h];rfl
theorem jsync_ok{j:Kp.Jn}(h:Kp.mayJ j=true):Kp.syncJ j=(⟨(Kp.syncD j.d j.at').1,j.at',j.gen⟩,0):=by unfold Kp.syncJ;rw[if_pos h]
theorem right_1{d:Kp.Dk}{a b:List UInt8}(h:Kp.rightD d=true)(h2:a.length+b.length≤65536):Kp.rightD ⟨⟨a,b⟩,d.f1⟩=true:=right_yes (okF_yes h2) (okF_yes (right_len h).2)
theorem cut_00{d:Kp.Dk}(h:Kp.rightD d=true):Kp.cutD d 0 0=(⟨⟨[],[]⟩,d.f1⟩,0):=by rw[cut_0 h (by omega) (by omega)];rfl
theorem write_00{d:Kp.Dk}(h:Kp.rightD d=true):Kp.writeD ⟨⟨[],[]⟩,d.f1⟩ 0 (Kp.recC Kp.firstR)=(⟨⟨[],Kp.recC Kp.firstR⟩,d.f1⟩,0):=by rw[write_0 (right_1 h (by simp)) (by show 0+0+_≤_;rw[Kp.rec_len];decide)];rfl
theorem sync_00{d:Kp.Dk}(h:Kp.rightD d=true):Kp.syncD ⟨⟨[],Kp.recC Kp.firstR⟩,d.f1⟩ 0=(Kp.beginJ d 0 1 [],0):=by
 have hr:=right_1 (a:=[]) (b:=Kp.recC Kp.firstR) h (by decide)
 rw[sync_0 hr,read_0 hr]
 show _=(Kp.setD d 0 ⟨Kp.recC (Kp.firstJ 1 []),[]⟩,0)
 rw[Kp.first_eq]
 simp[Kp.setD]
theorem jmay_c(j:Kp.Jn)(hd:smD j.d):ACalls E 91 [jnV j] (fun r t=>r=bl (Kp.mayJ j)∧t=[]):=by
 refine ACalls.of_awp (n:=26) (rs:=[.tmp 2]) Tryz.func91 rfl Tryz.ntmps91 rfl ?_
 repeat'(first
 |refine AWP.seqk fun K hK=>?_
 |(refine AWP.region ?_;simp only[go_sem])
 |(refine hK _ ?_;clear hK K)
 |(refine ACall.one (dright_c j.d hd) (by kernel_rfl) rfl ?_;simp only[go_sem])
 |(refine AGuard.splitN (fun h=>?_) (fun h=>?_)<;>simp only[h,go_sem]<;>(try simp only[dD] at h))
 |(refine AGuard.split (fun h=>?_) (fun h=>?_)<;>simp only[h,go_sem]<;>(try simp only[dD] at h))
 |(
  refine AWP.ret ?_
  refine AEnd.is ?_;simp only[go_sem,out_v,out_s,out_n,v_int,v_bool,v_str]<;>((unfold Kp.mayJ Kp.hasD Kp.maxD;simp[*];done))))
theorem jown_c(j:Kp.Jn)(hd:smD j.d):ACalls E 92 [jnV j] (fun r t=>r=jnV j∧t=[]):=by
 obtain⟨s0,s1,s2,s3⟩:=hd
 refine ACalls.of_awp (n:=25) (rs:=[.cell 2 51]) Tryz.func92 rfl Tryz.ntmps92 rfl ?_
 repeat'(first
 |refine AWP.seqk fun K hK=>?_
 |(
  refine AWP.here 3 10 5 rfl ?_
  obtain rfl|rfl:i=0∨i=1:=by omega
  refine AWP.region ?_;simp only[go_sem])
 |(refine AWP.region ?_;simp only[go_sem])
 |(refine AWP.here 4 12 12 rfl ?_;refine AWP.regionO [0,1,2,4,5,8,9,3,6,7,10,11] [] (by kernel_rfl) (by kernel_rfl) rfl ?_;simp only[go_sem])
 |(refine hK _ ?_;clear hK K)
 |refine AWP.block ?_
 |refine AWP.cond rfl (fun c=>?_) (fun c=>?_)<;>(try simp only[dD] at c)
 |refine AWP.skip ?_
 |(refine AWP.exit ?_;simp only[go_sem])
 |(refine ACall.one (bclone_c _ (by omega)) (by kernel_rfl) rfl ?_;simp only[go_sem])
 |(
  refine AWP.here 2 9 1 rfl ?_
  refine AWP.loopM (ι:=Nat) [3,4,9,10,11,12,13,14,15,16,17,18,19,20,21,22,23] (fun(i:Nat)=>[(8,i64 i),(7,dkV j.d)]) (fun(i:Nat)=>[some [jnV j],some [.agg [.nilS,.nilS,.nilS,.nilS,i64 0,i64 0]]]) (fun(i:Nat)=>[]) (fun(i:Nat)=>i≤2) (fun(i:Nat)=>2-i) (0) ?_ ?_ ?_
  ·(try simp only[go_sem]);(try simp only[go_sem,w641,w642]);(repeat'(first|exact jn_wk|exact zj_wk|refine And.intro ?_ ?_))
  ·omega
  rintro i h1
  simp only[go_sem])
 |(
  refine⟨1,?_,?_,?_⟩
  ·(try simp only[go_sem]);(try rw[wrap64_id (by omega) (by omega)]);(try simp only[go_sem,w641,w642]);(repeat'(first|exact jn_wk|exact zj_wk|refine And.intro ?_ ?_))
  ·omega
  ·(try simp only[]);omega)
 |(
  refine⟨2,?_,?_,?_⟩
  ·(try simp only[go_sem]);(try rw[wrap64_id (by omega) (by omega)]);(try simp only[go_sem,w641,w642]);(repeat'(first|exact jn_wk|exact zj_wk|refine And.intro ?_ ?_))
  ·omega
  ·(try simp only[]);omega)
 |(
  refine AWP.ret ?_
  refine AEnd.is ?_;simp only[go_sem,out_v,out_s,out_n,v_int,v_bool,v_str]<;>(first|fail))
 |refine AWP.fin (by assumption) ?_)
theorem jadd_c(j:Kp.Jn)(e:List UInt8)(hd:smD j.d)(he:e.length≤1000000):ACalls E 39 [jnV j,bytesV e] (fun r t=>r= .tup [jnV (Kp.addJ j e).1,i64 (Kp.addJ j e).2]∧t=[]):=by
 have hd0:=hd
 refine ACalls.of_awp (n:=51) (rs:=[.cell 4 51,.tmp 5]) Tryz.func39 rfl Tryz.ntmps39 rfl ?_
 repeat'(first
 |refine AWP.seqk fun K hK=>?_
 |(refine AWP.region ?_;simp only[go_sem])
 |(refine hK _ ?_;clear hK K)
 |refine AWP.cond rfl (fun c=>?_) (fun c=>?_)<;>first|exact Bool.noConfusion c|(try simp only[dD] at c)
 |refine AWP.skip ?_
 |(refine ACall.one (jmay_c j hd0) (by kernel_rfl) rfl ?_;simp only[go_sem])
 |(refine ACall.one (jown_c j hd0) (by kernel_rfl) rfl ?_;simp only[go_sem])
 |(refine ACall.one (crcput_c e (by omega) (by omega)) (by kernel_rfl) rfl ?_;simp only[go_sem])
 |(refine ACall.one (dwrite_c j.d j.at' (Kp.recC e) hd0 (by rw[Kp.rec_len];omega)) (by kernel_rfl) rfl ?_;simp only[go_sem])
 |(refine AGuard.splitN (fun h=>?_) (fun h=>?_)<;>simp only[h,go_sem]<;>(try simp only[dD] at h))
 |(refine AGuard.split (fun h=>?_) (fun h=>?_)<;>simp only[h,go_sem]<;>(try simp only[dD] at h))
 |((with_reducible refine And.intro ?_ ?_);(focus((simp;done)));(try simp only[hb,go_sem]))
 |(
  refine AWP.ret ?_
  refine AEnd.is ?_;simp only[go_sem,out_v,out_s,out_n,v_int,v_bool,v_str]<;>(first|(rw[add_no (.inl (by assumption))];exact⟨⟨rfl,rfl,rfl,rfl,rfl,rfl⟩,rfl⟩)|(rw[add_no (.inr (by omega))];exact⟨⟨rfl,rfl,rfl,rfl,rfl,rfl⟩,rfl⟩)|(rw[add_ok (by assumption) (by omega) (by omega) (by assumption)];exact⟨⟨rfl,rfl,rfl,rfl,rfl,rfl⟩,rfl⟩)|(rw[add_full (by assumption) (by omega) (by omega) (by assumption)];exact⟨⟨rfl,rfl,rfl,rfl,rfl,rfl⟩,rfl⟩))))
theorem jsync_c(j:Kp.Jn)(hd:smD j.d):ACalls E 41 [jnV j] (fun r t=>r= .tup [jnV (Kp.syncJ j).1,i64 (Kp.syncJ j).2]∧t=[]):=by
 have hd0:=hd
 refine ACalls.of_awp (n:=27) (rs:=[.cell 2 51,.tmp 3]) Tryz.func41 rfl Tryz.ntmps41 rfl ?_
 repeat'(first
 |refine AWP.seqk fun K hK=>?_
 |(refine AWP.region ?_;simp only[go_sem])
 |(refine hK _ ?_;clear hK K)
 |refine AWP.cond rfl (fun c=>?_) (fun c=>?_)<;>(try simp only[dD] at c)
 |refine AWP.skip ?_
 |(refine ACall.one (jmay_c j hd0) (by kernel_rfl) rfl ?_;simp only[go_sem])
 |(refine ACall.one (jown_c j hd0) (by kernel_rfl) rfl ?_;simp only[go_sem])
 |(refine ACall.one (dsync_c j.d j.at' hd0) (by kernel_rfl) rfl ?_;simp only[go_sem])
 |(
  refine AWP.ret ?_
  refine AEnd.is ?_;simp only[go_sem,out_v,out_s,out_n,v_int,v_bool,v_str]<;>(first|(rw[jsync_no (by assumption)];exact⟨⟨rfl,rfl,rfl,rfl,rfl,rfl⟩,rfl⟩)|(exfalso;exact absurd (sync_zero (by assumption)) (by assumption))|(rw[jsync_ok (by assumption)];exact⟨⟨rfl,rfl,rfl,rfl,rfl,rfl⟩,rfl⟩))))
theorem jcrash_c(j:Kp.Jn)(k0 k1:Int)(hd:smD j.d):ACalls E 19 [jnV j,.agg [i64 k0,i64 k1]] (fun r t=>r=dkV (Kp.crashJ j k0 k1)∧t=[]):=by
 refine ACalls.of_awp (n:=9) (rs:=[.cell 4 49]) Tryz.func19 rfl Tryz.ntmps19 rfl ?_
 repeat'(first
 |refine AWP.seqk fun K hK=>?_
 |(refine AWP.region ?_;simp only[go_sem])
 |(refine hK _ ?_;clear hK K)
 |(refine ACall.one (dcrash_c j.d k0 k1 hd) (by kernel_rfl) rfl ?_;simp only[go_sem])
 |(
  refine AWP.ret ?_
  refine AEnd.is ?_;simp only[go_sem,out_v,out_s,out_n,v_int,v_bool,v_str]<;>(exact⟨rfl,rfl,rfl,rfl⟩)))
theorem jbegin_c(d:Kp.Dk)(hd:Kp.rightD d=true):ACalls E 100 [dkV d,i64 0,i64 1,.nilS] (fun r t=>r= .tup [dkV (Kp.beginJ d 0 1 []),i64 0]∧t=[]):=by
 have hsm:=right_sm hd
 have hc1:=dcut_c d 0 0 hsm
 rw[cut_00 hd] at hc1
 have hc2:=dwrite_c ⟨⟨[],[]⟩,d.f1⟩ 0 (Kp.recC Kp.firstR) ⟨by simp,by simp,hsm.2.2.1,hsm.2.2.2⟩ (by rw[Kp.rec_len];decide)
 rw[write_00 hd] at hc2
 have hc3:=dsync_c ⟨⟨[],Kp.recC Kp.firstR⟩,d.f1⟩ 0 ⟨by simp,by show(Kp.recC Kp.firstR).length≤_;rw[Kp.rec_len];decide,hsm.2.2.1,hsm.2.2.2⟩
 rw[sync_00 hd] at hc3
 refine ACalls.of_awp (n:=64) (rs:=[.cell 8 49,.tmp 9]) Tryz.func100 rfl Tryz.ntmps100 rfl ?_
 repeat'(first
 |refine AWP.seqk fun K hK=>?_
 |(
  refine AWP.here 5 19 8 rfl ?_
  have hlk:(Kp.firstR.take (k+1)).length=k+1:=by rw[List.length_take];show min (k+1) 9=k+1;omega
  refine AWP.region ?_;simp only[go_sem,hlk])
 |(
  refine AWP.here 6 26 4 rfl ?_
  obtain rfl:k=8:=by omega
  simp only[first_all]
  refine AWP.region ?_;simp only[go_sem,first_len])
 |(
  refine AWP.here 7 30 7 rfl ?_
  refine AWP.region ?_;simp only[go_sem,first_len])
 |(refine AWP.region ?_;simp only[go_sem])
 |(refine hK _ ?_;clear hK K)
 |refine AWP.block ?_
 |refine AWP.cond rfl (fun c=>?_) (fun c=>?_)<;>first|exact Bool.noConfusion c|(try simp only[dD] at c)
 |refine AWP.skip ?_
 |(refine AWP.exit ?_;simp only[go_sem])
 |(refine ACall.one (crcput_c Kp.firstR (by decide) (by decide)) (by kernel_rfl) rfl ?_;simp only[go_sem])
 |(refine ACall.one (hc1) (by kernel_rfl) rfl ?_;simp only[go_sem])
 |(refine ACall.one (hc2) (by kernel_rfl) rfl ?_;simp only[go_sem])
 |(refine ACall.one (hc3) (by kernel_rfl) rfl ?_;simp only[go_sem])
 |((with_reducible refine And.intro ?_ ?_);(focus(omega));(try simp only[hb,go_sem]))
 |(
  refine AWP.here 3 15 2 rfl ?_
  refine AWP.loopM (ι:=Nat) [15,16,17,18,19,20,21,22,23,24,25] (fun(k:Nat)=>[(11,i64 (56-8*(k:Int))),(10,.sl (some 0) 1 ((Kp.firstR.take (k+1)).map u8))]) (fun(k:Nat)=>[some [dkV d],some [.agg [.nilS,.nilS,.nilS,.nilS]]]) (fun(k:Nat)=>[k+1]) (fun(k:Nat)=>k≤8) (fun(k:Nat)=>8-k) (0) ?_ ?_ ?_
  ·(try simp only[go_sem]);(try rw[first_next (k:=k) (by omega),shv (k:=k) (by omega)]);(repeat'(first|refine And.intro ?_ ?_|exact dk_wk|exact zd_wk|exact .inr rfl))
  ·omega
  rintro k h1
  simp only[go_sem])
 |(
  refine⟨k+1,⟨⟨.inr ?_,.inr ?_⟩,⟨dk_wk,zd_wk⟩,rfl⟩,by omega,by omega⟩
  ·rw[first_next (k:=k) (by omega)]
  ·rw[shv (k:=k) (by omega)])
 |(
  refine AWP.ret ?_
  refine AEnd.is ?_;simp only[go_sem,out_v,out_s,out_n,v_int,v_bool,v_str]<;>(first|fail))
 |refine AWP.fin (by assumption) ?_)
def opV(x:Kp.Jn×List UInt8×List (List UInt8)×Int):AV:= .tup [jnV x.1,bytesV x.2.1,.sl none 1 (x.2.2.1.map bytesV),i64 x.2.2.2]
theorem open_bad{d:Kp.Dk}(h:Kp.rightD d=false):Kp.openJ d=(⟨⟨⟨[],[]⟩,⟨[],[]⟩⟩,0,0⟩,[],[],1):=by unfold Kp.openJ;rw[h];rfl
def ctO:Option Kp.Ct→AV
 |none=>ct0
 |some c=>ctV c
def genO:Option Kp.Ct→Int
 |none=>0
 |some c=>c.gen
def stepJ(s:Int×Option Kp.Ct)(n:Nat):Option Kp.Ct→Int×Option Kp.Ct
 |none=>s
 |some c=>if s.1<0∨genO s.2<c.gen then((n:Int),some c) else s
def stJ(d:Kp.Dk):Nat→Int×Option Kp.Ct
 |0=>(-1,none)
 |n+1=>stepJ (stJ d n) n (Kp.lookJ (Kp.readD d (n:Int)))
theorem st_N{d:Kp.Dk}{i:Nat}{s:Int×Option Kp.Ct}(hq:Kp.lookJ (Kp.readD d (i:Int))=none)(hs:stJ d i=s):stJ d (i+1)=s:=by rw[stJ,hq,hs];rfl
theorem st_T{d:Kp.Dk}{i:Nat}{s:Int×Option Kp.Ct}{c:Kp.Ct}(hq:Kp.lookJ (Kp.readD d (i:Int))=some c)(hs:stJ d i=s)(h:s.1<0∨genO s.2<c.gen):stJ d (i+1)=((i:Int),some c):=by rw[stJ,hq,hs];exact if_pos h
theorem st_F{d:Kp.Dk}{i:Nat}{s:Int×Option Kp.Ct}{c:Kp.Ct}(hq:Kp.lookJ (Kp.readD d (i:Int))=some c)(hs:stJ d i=s)(h:¬(s.1<0∨genO s.2<c.gen)):stJ d (i+1)=s:=by rw[stJ,hq,hs];exact if_neg h
theorem look_long{b:List UInt8}{c:Kp.Ct}(h:Kp.lookJ b=some c):c.long≤b.length:=by
 have h1:=(Kp.look_inv h).1
 have h2:=Kp.all_inv b.length b (Nat.le_refl _)
 have h3:=congrArg List.length h2.2.2.1
 rw[List.length_append] at h3
 omega
theorem ct_cl{o:Option Kp.Ct}{no nt:Nat}:∀e∈[ctO o],∀z∈e.leaves,z.bel no nt=true:=by
 intro e he z hz
 simp only[List.mem_singleton] at he
 subst he
 cases o<;>(simp only[ctO,ct0,ctV,AV.leaves,List.mem_cons,List.not_mem_nil,or_false] at hz;rcases hz with rfl|rfl|rfl|rfl<;>rfl)
theorem ct_bel{o:Option Kp.Ct}{no nt:Nat}:some [ctO o]=none∨some [ctO o]=some [ctO o]∧∀es,some [ctO o]=some es→∀e∈es,∀z∈e.leaves,z.bel no nt=true:= .inr ⟨rfl,fun es h=>by cases h;exact ct_cl⟩
theorem st_end{d:Kp.Dk}(hr:Kp.rightD d=true):(stJ d 2=(-1,none)∧Kp.openJ d=(⟨Kp.beginJ d 0 1 [],0,1⟩,[],[],0))∨
 ∃(n:Int) (c:Kp.Ct),(n=0∨n=1)∧stJ d 2=(n,some c)∧c.long≤(Kp.readD d n).length∧(Kp.cutD d n c.long).2=0∧Kp.openJ d=(⟨(Kp.cutD d n c.long).1,n,c.gen⟩,c.snap,c.ents,0):=by
 have r0:Kp.readD d ((0:Nat):Int)=Kp.allF d.f0:=read_all hr rfl
 have r1:Kp.readD d ((1:Nat):Int)=Kp.allF d.f1:=read_all hr rfl
 have r0':Kp.readD d 0=Kp.allF d.f0:=read_all hr rfl
 have r1':Kp.readD d 1=Kp.allF d.f1:=read_all hr rfl
 have e2:stJ d 2=stepJ (stepJ (-1,none) 0 (Kp.lookJ (Kp.allF d.f0))) 1 (Kp.lookJ (Kp.allF d.f1)):=by show stepJ (stepJ (-1,none) 0 (Kp.lookJ (Kp.readD d ((0:Nat):Int)))) 1 (Kp.lookJ (Kp.readD d ((1:Nat):Int)))=_;rw[r0,r1]
 have c0:∀c:Kp.Ct,c.long≤(Kp.allF d.f0).length→Kp.cutD d 0 c.long=(Kp.setD d 0 ⟨(Kp.allF d.f0).take c.long,[]⟩,0):=by
  intro c hc;rw[cut_0 hr (by omega) (by rw[r0'];omega),r0'];simp[Kp.setD]
 have c1:∀c:Kp.Ct,c.long≤(Kp.allF d.f1).length→Kp.cutD d 1 c.long=(Kp.setD d 1 ⟨(Kp.allF d.f1).take c.long,[]⟩,0):=by
  intro c hc;rw[cut_1 hr (by omega) (by rw[r1'];omega),r1'];simp[Kp.setD]
 rw[e2]
 unfold Kp.openJ
 rw[if_pos hr]
 rcases h0:Kp.lookJ (Kp.allF d.f0) with _|a<;>rcases h1:Kp.lookJ (Kp.allF d.f1) with _|b
 ·exact .inl ⟨rfl,rfl⟩
 ·have:=look_long h1
  exact .inr ⟨1,b,.inr rfl,by simp[stepJ],by rw[r1'];exact this,by rw[c1 b this],by rw[c1 b this]⟩
 ·have:=look_long h0
  exact .inr ⟨0,a,.inl rfl,by simp[stepJ],by rw[r0'];exact this,by rw[c0 a this],by rw[c0 a this]⟩
 ·have l1:=look_long h1
  have l0:=look_long h0
  by_cases hg:a.gen<b.gen
  ·exact .inr ⟨1,b,.inr rfl,by simp[stepJ,genO,hg],by rw[r1'];exact l1,by rw[c1 b l1],by rw[c1 b l1];simp[hg]⟩
  ·exact .inr ⟨0,a,.inl rfl,by simp[stepJ,genO,hg],by rw[r0'];exact l0,by rw[c0 a l0],by rw[c0 a l0];simp[hg]⟩
theorem jopen_no(d:Kp.Dk)(hd:smD d)(hr:Kp.rightD d=false):ACalls E 45 [dkV d] (fun r t=>r=opV (Kp.openJ d)∧t=[]):=by
 rw[open_bad hr]
 refine ACalls.of_awp (n:=73) (rs:=[.cell 2 51,.tmp 3,.tmp 4,.tmp 5]) Tryz.func45 rfl Tryz.ntmps45 rfl ?_
 repeat'(first
 |refine AWP.seqk fun K hK=>?_
 |(refine AWP.region ?_;simp only[go_sem])
 |(refine hK _ ?_;clear hK K)
 |refine AWP.block ?_
 |refine AWP.cond rfl (fun c=>?_) (fun c=>?_)<;>(try simp only[dD] at c)
 |refine AWP.skip ?_
 |(refine ACall.one (dright_c d hd) (by kernel_rfl) rfl ?_;simp only[go_sem])
 |(
  refine AWP.ret ?_
  refine AEnd.is ?_;simp only[go_sem,out_v,out_s,out_n,v_int,v_bool,v_str,opV]<;>(trivial))
 |(exact Bool.noConfusion (hr.symm.trans c)))
theorem jopen_yes(d:Kp.Dk)(hr:Kp.rightD d=true):ACalls E 45 [dkV d] (fun r t=>r=opV (Kp.openJ d)∧t=[]):=by
 have hd:=right_sm hr
 refine ACalls.of_awp (n:=73) (rs:=[.cell 2 51,.tmp 3,.tmp 4,.tmp 5]) Tryz.func45 rfl Tryz.ntmps45 rfl ?_
 repeat'(first
 |refine AWP.seqk fun K hK=>?_
 |(
  refine AWP.here 8 20 10 rfl ?_
  have hl:=look_c (Kp.readD d (i:Int)) (read_len hd)
  generalize hq:Kp.lookJ (Kp.readD d (i:Int))=q at hl
  generalize hs:stJ d i=s
  obtain⟨at1,o⟩:=s
  rcases q with _|cq<;>rcases o with _|co<;>simp only[ctR,ct0,ctV] at hl<;>(try simp only[ctO,ct0,ctV])
  all_goals(refine AWP.region ?_;simp only[go_sem]))
 |(
  refine AWP.here 12 11 1 rfl ?_
  obtain rfl:i=2:=by omega
  rcases st_end hr with⟨e1,e2⟩|⟨n,cc,hn,e1,e3,hz,e2⟩
  rotate_left
  have hcut:=dcut_c d n cc.long hd
  rw[hz] at hcut
  rotate_right
  all_goals(simp only[e1,ctO,ct0,ctV])
  all_goals(refine AWP.region ?_;simp only[go_sem]))
 |(refine AWP.region ?_;simp only[go_sem])
 |(refine AWP.here 10 38 4 rfl ?_;refine AWP.regionO [0,1,2,3] [] (by kernel_rfl) (by kernel_rfl) rfl ?_;simp only[go_sem])
 |(refine AWP.here 19 64 13 rfl ?_;apply AWP.regionAnyJ (.take 0 (.take 1 (.take 2 (.take 3 (.take 4 (.take 5 (.take 7 (.fork (.alt 6 (.fork (.alt 8 (.take 9 (.take 10 (.take 11 (.take 12 .done)))) (.alt 9 (.take 8 (.take 10 (.take 11 (.take 12 .done)))) .ends))) (.alt 8 (.fork (.alt 6 (.take 9 (.take 10 (.take 11 (.take 12 .done)))) (.alt 9 (.take 6 (.take 10 (.take 11 (.take 12 .done)))) .ends))) (.alt 9 (.take 6 (.take 8 (.take 10 (.take 11 (.take 12 .done))))) .ends))))))))))) [[],[],[],[2],[0,1,2,3],[],[5],[],[7],[0,1,2,3,4],[0,1,2,3,4,5,6,9],[0,1,2,3,4,5,6,7,8,9,10],[0,1,2,3,4,5,6,7,8,9,10,11]] [] (by kernel_rfl) (by kernel_rfl) (by decide);simp only[go_sem])
 |(refine hK _ ?_;clear hK K)
 |refine AWP.block ?_
 |refine AWP.cond rfl (fun c=>?_) (fun c=>?_)<;>first|exact Bool.noConfusion c|(try simp only[dD] at c)
 |refine AWP.skip ?_
 |(refine AWP.exit ?_;simp only[go_sem])
 |(refine ACall.one (dright_c d hd) (by kernel_rfl) rfl ?_;simp only[go_sem])
 |(refine ACall.one (dread_c d (i:Int) hd) (by kernel_rfl) rfl ?_;simp only[go_sem])
 |(refine ACall.one (hl) (by kernel_rfl) rfl ?_;simp only[go_sem])
 |(refine ACall.one (jbegin_c d hr) (by kernel_rfl) rfl ?_;simp only[go_sem])
 |(refine ACall.one (hcut) (by kernel_rfl) rfl ?_;simp only[go_sem])
 |(refine AGuard.splitN (fun h=>?_) (fun h=>?_)<;>simp only[h,go_sem]<;>(try simp only[dD] at h))
 |((with_reducible refine And.intro ?_ ?_);(focus(omega));(try simp only[hb,go_sem]))
 |exact rfl
 |(
  refine AWP.here 6 17 1 rfl ?_
  refine AWP.loopM (ι:=Nat) [8,9,10,17,18,19,20,21,22,23,24,25,26,27,28,29,30,31,32,33,34,35,36,37,38,39,40] (fun(i:Nat)=>[(16,i64 i),(6,i64 (stJ d i).1)]) (fun(i:Nat)=>[some [dkV d],some [zjV],some [ctO (stJ d i).2]]) (fun(i:Nat)=>[]) (fun(i:Nat)=>i≤2) (fun(i:Nat)=>2-i) (0) ?_ ?_ ?_
  ·(try simp only[go_sem]);(try simp only[go_sem,w641,w642]);(repeat'(first|exact dk_wk|exact zj_wk|exact ct_bel|refine And.intro ?_ ?_|exact .inr rfl))
  ·omega
  rintro i h1
  simp only[go_sem])
 |(
  refine⟨i+1,?_,?_,?_⟩
  ·(try simp only[go_sem]);(try rw[wrap64_id (by omega) (by omega)]);(first|rw[st_N hq hs]|rw[st_T hq hs (by dsimp only[genO];omega)]|rw[st_F hq hs (by dsimp only[genO];omega)]);(try simp only[go_sem,w641,w642]);(repeat'(first|exact dk_wk|exact zj_wk|exact ct_bel|refine And.intro ?_ ?_|exact .inr rfl))
  ·omega
  ·(try simp only[]);omega)
 |(
  refine AWP.ret ?_
  refine AEnd.is ?_;simp only[go_sem,out_v,out_s,out_n,v_int,v_bool,v_str,opV]<;>(first|(rw[e2];(trivial))|skip))
 |(exact Bool.noConfusion (hr.symm.trans c))
 |(exfalso;omega)
 |refine AWP.fin (by assumption) ?_)
end Go.Proofs.YthoonfpkfdjhiaaGreatDoor
end
section
namespace Go.Proofs.YthoonfpkfdjhiaaGreatDoor
open Go Go.Abs Go.RowKit Go.Bk
noncomputable def ED:Env:={ P:=Tryz.prog,ok:=okW,mono:=fun _ _ hb h=>okW_mono hb h,gl:=fun _=>none,dr:=True }
@[go_sem] theorem ED_P:ED.P=Tryz.prog:=rfl
@[go_sem] theorem ED_gl:ED.gl=fun _=>none:=rfl
@[go_sem] theorem E_gl:E.gl=fun _=>none:=rfl
abbrev dnV(f:Dn):AV:= .agg [str f.id,str f.ord,str f.acc,str f.sym,bl f.buy,i64 f.qty,i64 f.price,i64 f.time,bl f.live]
abbrev odsV(l:List Od):AV:= .sl none 8 (l.map odV)
abbrev dnsV(l:List Dn):AV:= .sl none 9 (l.map dnV)
theorem cl_str(s:Bs):∀x∈(AV.agg [str s]).leaves,x.clean1=some x:=by
 intro x hx
 simp only[AV.leaves,List.mem_cons,List.not_mem_nil,or_false] at hx
 subst hx;rfl
theorem msmall_cg(n:Int):ACalls E 112 [i64 n] (fun r t=>r=bl (smallB n)∧t=[]):=by
 refine ACalls.of_awp (n:=9) (rs:=[.tmp 2]) Tryz.func112 rfl Tryz.ntmps112 rfl ?_
 refine AWP.seqk fun K1 hK1=>?_
 refine AWP.region ?_
 simp only[go_sem]
 refine hK1 _ ?_;clear hK1 K1
 refine AWP.seqk fun K2 hK2=>?_
 refine AWP.region ?_
 simp only[go_sem]
 repeat'((refine AGuard.split (fun h=>?_) (fun h=>?_)<;>simp only[h,go_sem]<;>try simp only[dD] at h))
 all_goals(
  refine hK2 _ ?_;clear hK2 K2
  refine AWP.ret ?_
  try simp only[go_sem]
  exact⟨[],.v _,rfl,rfl,by simp_all[smallB]<;>omega,rfl⟩)
theorem onamed_c(s:Bs):ACalls E 166 [str s] (fun r t=>r=bl (namedB s)∧t=[]):=by
 refine ACalls.of_awp (n:=10) (rs:=[.tmp 2]) Tryz.func166 rfl Tryz.ntmps166 rfl ?_
 refine AWP.seqk fun K1 hK1=>?_
 refine AWP.region ?_
 simp only[go_sem]
 refine hK1 _ ?_;clear hK1 K1
 refine AWP.seqk fun K2 hK2=>?_
 refine AWP.region ?_
 simp only[go_sem]
 repeat'((refine AGuard.splitN (fun h=>?_) (fun h=>?_)<;>simp only[h,go_sem]<;>try simp only[dD] at h))
 all_goals(
  refine hK2 _ ?_;clear hK2 K2
  refine AWP.ret ?_
  try simp only[go_sem]
  exact⟨[],.v _,rfl,rfl,by simp_all[namedB]<;>omega,rfl⟩)
theorem oamount_c(n:Int):ACalls E 167 [i64 n] (fun r t=>r=bl (smallB n)∧t=[]):=by
 refine ACalls.of_awp (n:=9) (rs:=[.tmp 2]) Tryz.func167 rfl Tryz.ntmps167 rfl ?_
 refine AWP.seqk fun K1 hK1=>?_
 refine AWP.region ?_
 simp only[go_sem]
 refine hK1 _ ?_;clear hK1 K1
 refine AWP.seqk fun K2 hK2=>?_
 refine AWP.region ?_
 simp only[go_sem]
 repeat'((refine AGuard.split (fun h=>?_) (fun h=>?_)<;>simp only[h,go_sem]<;>try simp only[dD] at h))
 all_goals(
  refine hK2 _ ?_;clear hK2 K2
  refine AWP.ret ?_
  try simp only[go_sem]
  exact⟨[],.v _,rfl,rfl,by simp_all[smallB]<;>omega,rfl⟩)
theorem bamount_c(n:Int):ACalls E 147 [i64 n] (fun r t=>r=bl (smallB n)∧t=[]):=by
 refine ACalls.of_awp (n:=9) (rs:=[.tmp 2]) Tryz.func147 rfl Tryz.ntmps147 rfl ?_
 refine AWP.seqk fun K1 hK1=>?_
 refine AWP.region ?_
 simp only[go_sem]
 refine hK1 _ ?_;clear hK1 K1
 refine AWP.seqk fun K2 hK2=>?_
 refine AWP.region ?_
 simp only[go_sem]
 repeat'((refine AGuard.split (fun h=>?_) (fun h=>?_)<;>simp only[h,go_sem]<;>try simp only[dD] at h))
 all_goals(
  refine hK2 _ ?_;clear hK2 K2
  refine AWP.ret ?_
  try simp only[go_sem]
  exact⟨[],.v _,rfl,rfl,by simp_all[smallB]<;>omega,rfl⟩)
theorem omay_c(o:Od):ACalls E 129 [odV o] (fun r t=>r=bl (mayB o)∧t=[]):=by
 refine ACalls.of_awp (n:=38) (rs:=[.tmp 2]) Tryz.func129 rfl Tryz.ntmps129 rfl ?_
 refine AWP.seqk fun K1 hK1=>?_
 refine AWP.region ?_
 simp only[go_sem]
 refine hK1 _ ?_;clear hK1 K1
 refine AWP.seqk fun K2 hK2=>?_
 refine AWP.region ?_
 simp only[go_sem]
 repeat'(first|(refine ACall.one (onamed_c _) (by kernel_rfl) rfl ?_;simp only[go_sem])|(refine ACall.one (oamount_c _) (by kernel_rfl) rfl ?_;simp only[go_sem])|(refine AGuard.split (fun h=>?_) (fun h=>?_)<;>simp only[h,go_sem]<;>try simp only[dD] at h))
 all_goals(
  refine hK2 _ ?_;clear hK2 K2
  refine AWP.ret ?_
  try simp only[go_sem]
  exact⟨[],.v _,rfl,rfl,by(simp_all[mayB]<;>(intros;omega)),rfl⟩)
theorem place1_c(o:Od)(id:Bs):ACalls E 187 [odV o,.rptr [str id]] (fun r t=>r=bl (decide (o.id=id))∧t=[]):=by
 refine ACalls.of_awp (n:=8) (rs:=[.tmp 3]) Tryz.func187 rfl Tryz.ntmps187 rfl ?_
 refine AWP.seqk fun K1 hK1=>?_
 refine AWP.region ?_
 simp only[go_sem]
 refine hK1 _ ?_;clear hK1 K1
 refine AWP.seqk fun K2 hK2=>?_
 refine AWP.region ?_
 simp only[go_sem]
 refine hK2 _ ?_;clear hK2 K2
 refine AWP.ret ?_
 try simp only[go_sem]
 exact⟨[],.v _,rfl,rfl,by simp_all,rfl⟩
theorem oindex_c(l:List Od)(id:Bs)(hl:l.length≤9223372036854775807):ACalls E 174 [odsV l,.fn 187 [.rptr [str id]]] (fun r t=>r=i64 (placeI l id)∧t=[]):=by
 refine ACalls.of_awp (n:=19) (rs:=[.tmp 4]) Tryz.func174 rfl Tryz.ntmps174 rfl ?_
 refine AWP.seqk fun K1 hK1=>?_
 refine AWP.region ?_
 simp only[go_sem]
 refine hK1 _ ?_;clear hK1 K1
 refine AWP.seqk fun K2 hK2=>?_
 refine AWP.seqk fun K3 hK3=>?_
 refine AWP.region ?_
 simp only[go_sem]
 repeat'(((with_reducible refine And.intro ?_ ?_);(focus(((simp;done))));(try simp only[hb,go_sem])))
 refine hK3 _ ?_;clear hK3 K3
 refine AWP.block ?_
 refine AWP.loopH (ι:=Nat) [4,5,9,10,11,12,13,14,15,16,17,18] (fun(i:Nat)=>[(8,i64 i)]) (fun(i:Nat)=>i≤l.length∧(l.take i).all (fun o=>!decide (o.id=id))=true) (fun(i:Nat)=>l.length-i) (0) ?_ ?_ ?_
 ·(try simp only[go_sem]);try(simp;done)
 ·exact⟨by omega,by simp⟩
 rintro i ⟨h1,h2⟩
 simp only[go_sem]
 refine AWP.seqk fun K4 hK4=>?_
 refine AWP.region ?_
 simp only[go_sem]
 refine hK4 _ ?_;clear hK4 K4
 refine AWP.seqk fun K5 hK5=>?_
 refine AWP.cond rfl (fun c9=>?_) (fun c9=>?_)
 ·(
   try simp only[dD] at c9
   refine AWP.skip ?_
   refine hK5 _ ?_;clear hK5 K5
   refine AWP.seqk fun K6 hK6=>?_
   refine AWP.block ?_
   refine AWP.seqk fun K7 hK7=>?_
   refine AWP.region ?_
   simp only[go_sem]
   refine hK7 _ ?_;clear hK7 K7
   refine AWP.seqk fun K8 hK8=>?_
   refine AWP.region ?_
   simp only[go_sem]
   repeat'(first|(refine ACall.one (place1_c _ _) (by kernel_rfl) rfl ?_;simp only[go_sem])|((refine AGet.nth ?_ (fun b hb=>?_));(focus((omega)));(try simp only[hb,go_sem])))
   refine hK8 _ ?_;clear hK8 K8
   refine AWP.cond rfl (fun c16=>?_) (fun c16=>?_)
   ·(
     try simp only[dD] at c16
     refine AWP.seqk fun K9 hK9=>?_
     refine AWP.region ?_
     simp only[go_sem]
     refine hK9 _ ?_;clear hK9 K9
     refine AWP.ret ?_
     try simp only[go_sem]
     clear hK6 K6 hK2 K2
     (exact⟨[],.v _,rfl,rfl,by rw[placeI_of hb (by assumption) h2],rfl⟩))
   ·(
     try simp only[dD] at c16
     refine AWP.skip ?_
     refine hK6 _ ?_;clear hK6 K6
     refine AWP.region ?_
     simp only[go_sem]
     clear hK2 K2
     refine⟨i+1,?_,?_,?_⟩
     ·(try simp only[go_sem]);(try rw[wrap64_id (by omega) (by omega)]);simp
     ·exact⟨by omega,all_next hb h2 (by simp;assumption)⟩
     ·omega))
 ·(
   try simp only[dD] at c9
   refine AWP.exit ?_
   simp only[go_sem]
   clear hK5 K5
   refine hK2 _ ?_;clear hK2 K2
   refine AWP.seqk fun K10 hK10=>?_
   refine AWP.region ?_
   simp only[go_sem]
   refine hK10 _ ?_;clear hK10 K10
   refine AWP.ret ?_
   try simp only[go_sem]
   (exact⟨[],.v _,rfl,rfl,by rw[placeI_none (by omega) h2],rfl⟩))
theorem oplace_c(l:List Od)(id:Bs)(hl:l.length≤9223372036854775807):ACalls E 150 [odsV l,str id] (fun r t=>r=i64 (placeI l id)∧t=[]):=by
 refine ACalls.of_awp (n:=8) (rs:=[.tmp 4]) Tryz.func150 rfl Tryz.ntmps150 rfl ?_
 refine AWP.seqk fun K1 hK1=>?_
 refine AWP.region ?_
 simp only[go_sem]
 refine hK1 _ ?_;clear hK1 K1
 refine AWP.seqk fun K2 hK2=>?_
 refine AWP.region ?_
 simp only[go_sem]
 repeat'((refine ACall.snapOne (oindex_c l id hl) (by kernel_rfl) rfl (.cons (.one (.clean rfl)) (.cons (.fn (.cons (.ptr (e:= .agg [str id]) rfl (cl_str id)) .nil)) .nil)) ?_;simp only[go_sem]))
 refine hK2 _ ?_;clear hK2 K2
 refine AWP.ret ?_
 try simp only[go_sem]
 exact⟨[],.v _,rfl,rfl,rfl,rfl⟩
theorem oright_c(l:List Od)(hl:l.length≤9223372036854775807):ACalls E 107 [odsV l] (fun r t=>r=bl (rightO l)∧t=[]):=by
 refine ACalls.of_awp (n:=28) (rs:=[.tmp 2]) Tryz.func107 rfl Tryz.ntmps107 rfl ?_
 refine AWP.seqk fun K1 hK1=>?_
 refine AWP.region ?_
 simp only[go_sem]
 refine hK1 _ ?_;clear hK1 K1
 refine AWP.seqk fun K2 hK2=>?_
 refine AWP.seqk fun K3 hK3=>?_
 refine AWP.region ?_
 simp only[go_sem]
 repeat'(((with_reducible refine And.intro ?_ ?_);(focus(((simp;done))));(try simp only[hb,go_sem])))
 refine hK3 _ ?_;clear hK3 K3
 refine AWP.cond rfl (fun c7=>?_) (fun c7=>?_)
 ·(
   try simp only[dD] at c7
   refine AWP.seqk fun K4 hK4=>?_
   refine AWP.region ?_
   simp only[go_sem]
   refine hK4 _ ?_;clear hK4 K4
   refine AWP.ret ?_
   try simp only[go_sem]
   clear hK2 K2
   (exact⟨[],.v _,rfl,rfl,by rw[right_no1 (by omega)],rfl⟩))
 ·(
   try simp only[dD] at c7
   refine AWP.skip ?_
   refine hK2 _ ?_;clear hK2 K2
   refine AWP.seqk fun K5 hK5=>?_
   refine AWP.seqk fun K6 hK6=>?_
   refine AWP.region ?_
   simp only[go_sem]
   repeat'(((with_reducible refine And.intro ?_ ?_);(focus(((simp;done))));(try simp only[hb,go_sem])))
   refine hK6 _ ?_;clear hK6 K6
   refine AWP.block ?_
   refine AWP.loopH (ι:=Nat) [2,3,4,11,12,13,14,15,16,17,18,19,20,21,22,23,24,25,26,27] (fun(i:Nat)=>[(10,i64 i)]) (fun(i:Nat)=>i≤l.length∧l.length≤64∧rightGo l i=true) (fun(i:Nat)=>l.length-i) (0) ?_ ?_ ?_
   ·(try simp only[go_sem]);try(simp;done)
   ·exact⟨by omega,by omega,rfl⟩
   rintro i ⟨h1,h2,h3⟩
   simp only[go_sem]
   refine AWP.seqk fun K7 hK7=>?_
   refine AWP.region ?_
   simp only[go_sem]
   refine hK7 _ ?_;clear hK7 K7
   refine AWP.seqk fun K8 hK8=>?_
   refine AWP.cond rfl (fun c11=>?_) (fun c11=>?_)
   ·(
     try simp only[dD] at c11
     refine AWP.skip ?_
     refine hK8 _ ?_;clear hK8 K8
     refine AWP.seqk fun K9 hK9=>?_
     refine AWP.block ?_
     refine AWP.seqk fun K10 hK10=>?_
     refine AWP.region ?_
     simp only[go_sem]
     repeat'(((refine AGet.nth ?_ (fun b hb=>?_));(focus((omega)));(try simp only[hb,go_sem])))
     refine hK10 _ ?_;clear hK10 K10
     refine AWP.seqk fun K11 hK11=>?_
     refine AWP.regionO [0,1,2,3,4,5,6,7,8,9,10,11] [] (by kernel_rfl) (by kernel_rfl) rfl ?_
     simp only[go_sem]
     repeat'(first|(refine ACall.one (omay_c _) (by kernel_rfl) rfl ?_;simp only[go_sem])|(refine ACall.one (oplace_c _ _ (by first|omega|(simp only[List.length_take];omega))) (by kernel_rfl) rfl ?_;simp only[go_sem])|(refine AGuard.split (fun h=>?_) (fun h=>?_)<;>simp only[h,go_sem]<;>try simp only[dD] at h)|((with_reducible refine And.intro ?_ ?_);(focus((omega)));(try simp only[hb,go_sem])))
     all_goals(
      refine hK11 _ ?_;clear hK11 K11
      refine AWP.cond rfl (fun c26=>?_) (fun c26=>?_)
      ·(
        try simp only[dD] at c26
        refine AWP.seqk fun K12 hK12=>?_
        refine AWP.region ?_
        simp only[go_sem]
        refine hK12 _ ?_;clear hK12 K12
        refine AWP.ret ?_
        try simp only[go_sem]
        clear hK9 K9 hK5 K5
        first
        |exact⟨[],.v _,rfl,rfl,by rw[right_no2 (by omega) (okAt_no1 hb (by assumption))],rfl⟩
        |exact⟨[],.v _,rfl,rfl,by rw[right_no2 (by omega) (okAt_no2 hb (by assumption))],rfl⟩)
      ·first|exact Bool.noConfusion c26|(
        try simp only[dD] at c26
        refine AWP.skip ?_
        refine hK9 _ ?_;clear hK9 K9
        refine AWP.region ?_
        simp only[go_sem]
        clear hK5 K5
        refine⟨i+1,?_,?_,?_⟩
        ·(try simp only[go_sem]);(try rw[wrap64_id (by omega) (by omega)]);simp
        ·exact⟨by omega,by omega,rightGo_next h3 (okAt_yes hb (by assumption) (by assumption))⟩
        ·omega)))
   ·(
     try simp only[dD] at c11
     refine AWP.exit ?_
     simp only[go_sem]
     clear hK8 K8
     refine hK5 _ ?_;clear hK5 K5
     refine AWP.seqk fun K13 hK13=>?_
     refine AWP.region ?_
     simp only[go_sem]
     refine hK13 _ ?_;clear hK13 K13
     refine AWP.ret ?_
     try simp only[go_sem]
     (exact⟨[],.v _,rfl,rfl,by rw[Go.Bk.right_yes h2 (by omega) h3],rfl⟩)))
end Go.Proofs.YthoonfpkfdjhiaaGreatDoor
end
section
namespace Go.Proofs.YthoonfpkfdjhiaaGreatDoor
open Go Go.Abs Go.RowKit Go.Bk
end Go.Proofs.YthoonfpkfdjhiaaGreatDoor
end
section
namespace Go.Proofs.YthoonfpkfdjhiaaGreatDoor
open Go Go.Abs Go.RowKit Go.Bk
end Go.Proofs.YthoonfpkfdjhiaaGreatDoor
end
section
namespace Go.Proofs.YthoonfpkfdjhiaaGreatDoor
open Go Go.Abs Go.RowKit Go.Bk
def kp1(n:Nat):AV→Bool
 |.mu id _ _ _ _=>id !=2&&decide (id<n)
 |.ptr id _ _=>id !=2&&decide (id<n)
 |.any|.v _|.nilS|.sl none _ _|.rptr _|.fn _ []=>true
 |.sl (some t) _ _=>t==0
 |_=>false
def kp(n:Nat):AV→Bool
 |.agg cs=>cs.all (kp1 n)
 |x=>kp1 n x
theorem kp1_ren{n:Nat}{σ:Nat→Option Nat}(hσ:∀i,i≠2→i<n→σ i=some i){x:AV}(h:kp1 n x=true):x.ren1 σ=x:=by
 cases x<;>simp only[kp1,AV.ren1,Bool.and_eq_true,bne_iff_ne,decide_eq_true_eq] at h ⊢ <;>first|(rw[hσ _ h.1 h.2])|(simp at h;done)|skip
 case fn f cs=>cases cs<;>simp[kp1] at h ⊢
theorem kp1_bel{n no nt:Nat}(h1:n≤no)(h2:1≤nt){x:AV}(h:kp1 n x=true):x.bel1 no nt=true:=by
 cases x<;>simp only[kp1,AV.bel1,Bool.and_eq_true,bne_iff_ne,decide_eq_true_eq] at h ⊢ <;>first|omega|skip
 case sl t k es=>cases t<;>simp[kp1,AV.bel1] at h ⊢;omega
 case fn f cs=>cases cs<;>simp[kp1,AV.bel1] at h ⊢
theorem kp_bel{n no nt:Nat}(h1:n≤no)(h2:1≤nt){x:AV}(h:kp n x=true):x.bel no nt=true:=by
 cases x with
 |agg cs=>
  simp only[kp] at h
  simp only[AV.bel,AV.bel2]
  exact List.all_eq_true.2 fun y hy=>kp1_bel h1 h2 (List.all_eq_true.1 h y hy)
 |tup cs=>simp[kp,kp1] at h
 |fn f cs=>
  cases cs with
  |nil=>rfl
  |cons=>simp[kp,kp1] at h
 |sl t k es=>exact kp1_bel (x:= .sl t k es) h1 h2 h
 |mu id k o l c=>exact kp1_bel (x:= .mu id k o l c) h1 h2 h
 |ptr id i o=>exact kp1_bel (x:= .ptr id i o) h1 h2 h
 |_=>rfl
def belO(no nt:Nat)(own:List (Option (List AV))):Bool:=own.all fun o=>match o with|none=>true|some es=>es.all fun e=>e.leaves.all (AV.bel no nt)
end Go.Proofs.YthoonfpkfdjhiaaGreatDoor
end
section
namespace Go.Proofs.YthoonfpkfdjhiaaGreatDoor
open Go Go.Abs Go.RowKit Go.Bk
section
variable{b:Bk}{x:Ex}{n:Nat}{f:Dn}(e2:atF b.fills x.ref=some n)(hb:b.fills[n]?=some f)
include e2 hb
variable(hl:f.live=true)(ht:¬10<x.time-f.time)
include hl ht
variable(h1:f.ord=x.ord)(h2:f.acc=x.acc)(h3:f.sym=x.sym)(h4:f.buy=x.buy)
include h1 h2 h3 h4
variable(h5:¬x.kind=7)
include h5
variable(h6:¬f.qty<x.qty)
include h6
end
section
variable{b:Bk}{x:Ex}(h0:¬x.time<b.clock)
include h0
variable(hk1:¬x.kind=1)
include hk1
variable(hk7:¬x.kind=7)(hk8:¬x.kind=8)
include hk7 hk8
variable{id:Bs}(hid:(if x.kind=4 then x.ref else x.ord)=id)
include hid
variable(g1:(findF b.orders id).2=true)(g2:(findF b.orders id).1.opn=true)
include g1 g2
variable(g3:(findF b.orders id).1.acc=x.acc)(g4:(findF b.orders id).1.sym=x.sym)(g5:(findF b.orders id).1.buy=x.buy)
include g3 g4 g5
variable(hk2:¬x.kind=2)
include hk2
variable(hk4:¬x.kind=4)
include hk4
end
theorem wkO_app{no nt:Nat}:∀{l r:List (Option (List AV))},belO no nt l=true→WkO no nt (l++r) l
 |[],_,_=>by unfold WkO;trivial
 |x::l,r,h=>by
  simp only[belO,List.all_cons,Bool.and_eq_true] at h
  refine⟨.inr ⟨rfl,fun es hes e he z hz=>?_⟩,wkO_app h.2⟩
  have h1:=h.1
  rw[hes] at h1
  exact List.all_eq_true.1 (List.all_eq_true.1 h1 e he) z hz
theorem AWP.cut{E:Env}{c:Code}{Q:Exit→St→Prop}{tmps tmps' up:List AV}{own' rest:List (Option (List AV))}{tk':List Nat}{gl:Nat→Option (List AV)}{n:Nat}(hup:up.all (kp n)=true)(hn:n≤own'.length)(h0:1≤tk'.length)(hb:belO own'.length tk'.length own'=true)(h1:WkT own'.length tk'.length tmps tmps')(hk:WkK tk' tk')
 (hw:AWP E c Q ⟨tmps',own',tk',gl,none,up⟩):AWP E c Q ⟨tmps,own'++rest,tk',gl,none,up⟩:=
 AWP.weaken (t:=⟨tmps',own',tk',gl,none,up⟩) ⟨h1,wkO_app hb,hk,rfl,rfl,rfl,List.all_eq_true.2 fun x hx=>kp_bel hn h0 (List.all_eq_true.1 hup x hx)⟩ hw
end Go.Proofs.YthoonfpkfdjhiaaGreatDoor
end
section
namespace Go.Proofs.YthoonfpkfdjhiaaGreatDoor
open Go Go.Abs Go.RowKit Go.Bk
end Go.Proofs.YthoonfpkfdjhiaaGreatDoor
end
section
namespace Go.Proofs.YthoonfpkfdjhiaaGreatDoor
open Go Go.Abs Go.RowKit Go.Bk
abbrev bkV(b:Bk):AV:= .agg [odsV b.orders,dnsV b.fills,.sl none 1 (b.ids.map str),i64 b.clock,i64 b.bad]
theorem eq_no1{α:Type}[DecidableEq α]{a b:List α}(h:¬a.length=b.length):decide (a=b)=false:=decide_eq_false fun e=>h (by rw[e])
theorem eq_no2{α:Type}[DecidableEq α]{a b:List α}{i:Nat}{x y:α}(h1:a[i]?=some x)(h2:b[i]?=some y)(h:x≠y):decide (a=b)=false:=decide_eq_false fun e=>h (by rw[e,h2,Option.some.injEq] at h1;exact h1.symm)
theorem eq_yes{α:Type}[DecidableEq α]{a b:List α}{i:Nat}(h0:a.length=b.length)(hi:a.length≤i)(h:a.take i=b.take i):decide (a=b)=true:=by
 rw[List.take_of_length_le hi,List.take_of_length_le (by omega)] at h
 exact decide_eq_true h
theorem eq_next{α:Type}{a b:List α}{i:Nat}{x y:α}(h1:a[i]?=some x)(h2:b[i]?=some y)(h:x=y)(h3:a.take i=b.take i):a.take (i+1)=b.take (i+1):=by rw[take_next h1,take_next h2,h3,h]
theorem od_eq{x y:Od}(h:x.id=y.id∧x.acc=y.acc∧x.sym=y.sym∧x.buy=y.buy∧x.qty=y.qty∧x.price=y.price∧x.done=y.done∧x.opn=y.opn):x=y:=by
 obtain⟨a,b,c,d,e,f,g,i⟩:=x
 obtain⟨h1,h2,h3,h4,h5,h6,h7,h8⟩:=h
 dsimp only at *
 subst h1;subst h2;subst h3;subst h4;subst h5;subst h6;subst h7;subst h8;rfl
theorem od_ne{x y:Od}(h:x.id=y.id→x.acc=y.acc→x.sym=y.sym→x.buy=y.buy→x.qty=y.qty→x.price=y.price→x.done=y.done→¬x.opn=y.opn):x≠y:=by
 rintro rfl;exact h rfl rfl rfl rfl rfl rfl rfl rfl
theorem dn_eq{x y:Dn}(h:x.id=y.id∧x.ord=y.ord∧x.acc=y.acc∧x.sym=y.sym∧x.buy=y.buy∧x.qty=y.qty∧x.price=y.price∧x.time=y.time∧x.live=y.live):x=y:=by
 obtain⟨a,b,c,d,e,f,g,i,j⟩:=x
 obtain⟨h1,h2,h3,h4,h5,h6,h7,h8,h9⟩:=h
 dsimp only at *
 subst h1;subst h2;subst h3;subst h4;subst h5;subst h6;subst h7;subst h8;subst h9;rfl
theorem dn_ne{x y:Dn}(h:x.id=y.id→x.ord=y.ord→x.acc=y.acc→x.sym=y.sym→x.buy=y.buy→x.qty=y.qty→x.price=y.price→x.time=y.time→¬x.live=y.live):x≠y:=by
 rintro rfl;exact h rfl rfl rfl rfl rfl rfl rfl rfl rfl
theorem same_b(p q:Bk):decide (p=q)=(decide (p.orders=q.orders)&&decide (p.fills=q.fills)&&decide (p.ids=q.ids)&&decide (p.clock=q.clock)&&decide (p.bad=q.bad)):=by
 obtain⟨a,b,c,d,e⟩:=p
 obtain⟨a',b',c',d',e'⟩:=q
 simp[Bool.and_assoc]
theorem right_fy{b:Bk}(h:rightBk b=true):True∧(b.orders.length≤64∧b.fills.length≤256∧b.ids.length≤256)∧∀f∈b.fills,0≤f.time∧f.time≤4611686018427387904:=by
 have h1:=rightBk_iff.1 h
 refine⟨trivial,⟨Go.Bk.right_len h1.1.1,h1.1.2.1,h1.1.2.2.1⟩,fun f hf=>?_⟩
 have h2:=h1.2.2.1 f hf
 simp only[fillB,Bool.and_eq_true,decide_eq_true_eq] at h2
 omega
end Go.Proofs.YthoonfpkfdjhiaaGreatDoor
end
section
namespace Go.Proofs
open Go.Shelf
def Tryz.sorted250_ren:Go.Shelf.Ren:=⟨fun|6=>144|8=>181|9=>149|11=>216|13=>186|12=>185|23=>225|24=>226|14=>217|15=>218|16=>219|17=>220|18=>221|19=>222|20=>183|21=>223|22=>224|25=>261|26=>262|27=>263|28=>264|29=>265|30=>180|31=>285|n=>n,fun|26=>9|28=>213|24=>103|0=>0|3=>3|37=>202|48=>203|50=>208|4=>4|40=>292|39=>291|45=>216|5=>5|9=>9|51=>321|55=>325|57=>350|58=>351|33=>127|n=>n,fun|n=>n⟩
theorem Tryz.sorted250:Go.Proofs.SlLaysZ.n6 Tryz.prog Tryz.sorted250_ren:={
 mixed:=by kernel_rfl
 f6:=⟨Tryz.f144.name,by decide,Tryz.func144.trans (congrArg some (by kernel_rfl))⟩
 f8:=⟨Tryz.f181.name,by decide,Tryz.func181.trans (congrArg some (by kernel_rfl))⟩
 f11:=⟨Tryz.f216.name,by decide,Tryz.func216.trans (congrArg some (by kernel_rfl))⟩
 t0:=Tryz.underlying0
 a0:=Tryz.isAgg0
 z0:=Tryz.sizeOf0
 v0:=Tryz.zeroValue0
 t24:=Tryz.underlying103
 a24:=Tryz.isAgg103
 z24:=Tryz.sizeOf103
 v24:=Tryz.zeroValue103
 t26:=Tryz.underlying9
 a26:=Tryz.isAgg9
 z26:=Tryz.sizeOf9
 v26:=Tryz.zeroValue9
 t28:=Tryz.underlying213
 a28:=Tryz.isAgg213
 z28:=Tryz.sizeOf213
 v28:=Tryz.zeroValue213
 i26:=by kernel_rfl }
def Tryz.sort50_ren:Go.Shelf.Ren:=⟨fun|6=>149|8=>186|9=>185|19=>225|20=>226|21=>217|22=>218|23=>219|24=>220|25=>221|26=>222|27=>183|28=>223|29=>224|36=>261|31=>262|32=>263|37=>264|38=>265|39=>180|41=>285|n=>n,fun|27=>103|29=>9|3=>3|32=>202|26=>103|0=>0|44=>203|46=>208|4=>4|36=>292|35=>291|41=>216|5=>5|9=>9|53=>321|57=>325|63=>350|64=>351|n=>n,fun|n=>n⟩
theorem Tryz.sort50:Go.Proofs.SlLaysM.n6 Tryz.prog Tryz.sort50_ren:={
 mixed:=by kernel_rfl
 f6:=⟨Tryz.f149.name,by decide,Tryz.func149.trans (congrArg some (by kernel_rfl))⟩
 f8:=Tryz.func186.trans (congrArg some (by kernel_rfl))
 f9:=⟨Tryz.f185.name,by decide,Tryz.func185.trans (congrArg some (by kernel_rfl))⟩
 f19:=Tryz.func225.trans (congrArg some (by kernel_rfl))
 f20:=Tryz.func226.trans (congrArg some (by kernel_rfl))
 f21:=⟨Tryz.f217.name,by decide,Tryz.func217.trans (congrArg some (by kernel_rfl))⟩
 f22:=⟨Tryz.f218.name,by decide,Tryz.func218.trans (congrArg some (by kernel_rfl))⟩
 f23:=⟨Tryz.f219.name,by decide,Tryz.func219.trans (congrArg some (by kernel_rfl))⟩
 f24:=⟨Tryz.f220.name,by decide,Tryz.func220.trans (congrArg some (by kernel_rfl))⟩
 f25:=⟨Tryz.f221.name,by decide,Tryz.func221.trans (congrArg some (by kernel_rfl))⟩
 f26:=⟨Tryz.f222.name,by decide,Tryz.func222.trans (congrArg some (by kernel_rfl))⟩
 f27:=⟨Tryz.f183.name,by decide,Tryz.func183.trans (congrArg some (by kernel_rfl))⟩
 f28:=⟨Tryz.f223.name,by decide,Tryz.func223.trans (congrArg some (by kernel_rfl))⟩
 f29:=⟨Tryz.f224.name,by decide,Tryz.func224.trans (congrArg some (by kernel_rfl))⟩
 f31:=Tryz.func262.trans (congrArg some (by kernel_rfl))
 f32:=Tryz.func263.trans (congrArg some (by kernel_rfl))
 f36:=⟨Tryz.f261.name,by decide,Tryz.func261.trans (congrArg some (by kernel_rfl))⟩
 f37:=⟨Tryz.f264.name,by decide,Tryz.func264.trans (congrArg some (by kernel_rfl))⟩
 f38:=⟨Tryz.f265.name,by decide,Tryz.func265.trans (congrArg some (by kernel_rfl))⟩
 f39:=⟨Tryz.f180.name,by decide,Tryz.func180.trans (congrArg some (by kernel_rfl))⟩
 f41:=⟨Tryz.f285.name,by decide,Tryz.func285.trans (congrArg some (by kernel_rfl))⟩
 t0:=Tryz.underlying0
 a0:=Tryz.isAgg0
 z0:=Tryz.sizeOf0
 v0:=Tryz.zeroValue0
 t3:=Tryz.underlying3
 a3:=Tryz.isAgg3
 z3:=Tryz.sizeOf3
 v3:=Tryz.zeroValue3
 t4:=Tryz.underlying4
 a4:=Tryz.isAgg4
 z4:=Tryz.sizeOf4
 v4:=Tryz.zeroValue4
 t5:=Tryz.underlying5
 a5:=Tryz.isAgg5
 z5:=Tryz.sizeOf5
 v5:=Tryz.zeroValue5
 t9:=Tryz.underlying9
 a9:=Tryz.isAgg9
 z9:=Tryz.sizeOf9
 v9:=Tryz.zeroValue9
 t26:=Tryz.underlying103
 a26:=Tryz.isAgg103
 z26:=Tryz.sizeOf103
 v26:=Tryz.zeroValue103
 t27:=Tryz.underlying103
 a27:=Tryz.isAgg103
 z27:=Tryz.sizeOf103
 v27:=Tryz.zeroValue103
 t29:=Tryz.underlying9
 a29:=Tryz.isAgg9
 z29:=Tryz.sizeOf9
 v29:=Tryz.zeroValue9
 t32:=Tryz.underlying202
 a32:=Tryz.isAgg202
 z32:=Tryz.sizeOf202
 v32:=Tryz.zeroValue202
 t35:=Tryz.underlying291
 a35:=Tryz.isAgg291
 z35:=Tryz.sizeOf291
 v35:=Tryz.zeroValue291
 t36:=Tryz.underlying292
 a36:=Tryz.isAgg292
 z36:=Tryz.sizeOf292
 v36:=Tryz.zeroValue292
 t41:=Tryz.underlying216
 a41:=Tryz.isAgg216
 z41:=Tryz.sizeOf216
 v41:=Tryz.zeroValue216
 t44:=Tryz.underlying203
 a44:=Tryz.isAgg203
 z44:=Tryz.sizeOf203
 v44:=Tryz.zeroValue203
 t46:=Tryz.underlying208
 a46:=Tryz.isAgg208
 z46:=Tryz.sizeOf208
 v46:=Tryz.zeroValue208
 t53:=Tryz.underlying321
 a53:=Tryz.isAgg321
 z53:=Tryz.sizeOf321
 v53:=Tryz.zeroValue321
 t57:=Tryz.underlying325
 a57:=Tryz.isAgg325
 z57:=Tryz.sizeOf325
 v57:=Tryz.zeroValue325
 t63:=Tryz.underlying350
 a63:=Tryz.isAgg350
 z63:=Tryz.sizeOf350
 v63:=Tryz.zeroValue350
 t64:=Tryz.underlying351
 a64:=Tryz.isAgg351
 z64:=Tryz.sizeOf351
 v64:=Tryz.zeroValue351 }
end Go.Proofs
end
section
namespace Go.Proofs.YthoonfpkfdjhiaaGreatDoor
open Go Go.Abs Go.RowKit Go.Bk
section
variable{a b:Int}
variable(ha:numB a=true)(hb:numB b=true)(h:((a.natAbs*b.natAbs/18446744073709551616:Nat):Int)=0)(h2:¬(4611686018427387904:Int)<((a.natAbs*b.natAbs%18446744073709551616:Nat):Int))
include ha hb h h2
end
section
variable{l:List Int}{i:Nat}(hl:l.length≤1000000)(hi:¬(i:Int)<l.length)(hi2:i≤l.length)(ha:(l.take i).all numB=true)
include hl hi ha
end
end Go.Proofs.YthoonfpkfdjhiaaGreatDoor
end
