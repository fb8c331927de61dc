/- Texts of one chain, put together (M1, N4, N5, N7, M2, X1, KpB, KpC, KpD, KpF, KpG, Lo, Lu, Lv). -/
import Derived.Test.YthoonfpkfdjhiaaGreatDoorKdG
import Derived.Test.YthoonfpkfdjhiaaGreatDoorKdE
import Derived.Laws.MakeOwn
import Derived.Test.YthoonfpkfdjhiaaGreatDoorKdA
set_option linter.unusedVariables false
set_option linter.unusedSimpArgs false
set_option maxHeartbeats 16000000
set_option maxRecDepth 8000
section
namespace Go.Proofs.YthoonfpkfdjhiaaGreatDoor
open Go Go.az Go.RowKit Go.Bk Go.Msg
abbrev LQ(x:Ex):Prop:=x.id.length≤9223372036854775807∧x.ref.length≤9223372036854775807∧x.ord.length≤9223372036854775807∧x.acc.length≤9223372036854775807∧x.sym.length≤9223372036854775807
theorem Ae(n:Int):ai E 112 [i64 n] (fun r t=>r=bl (ca n)∧t=[]):=by
 refine ai.aC (n:=9) (rs:=[.tmp 2]) Tryz.func112 rfl Tryz.ntmps112 rfl ?_
 repeat'(first
 |refine aa.ah fun K hK=>?_
 |(refine aa.region ?_;simp only[go_sem])
 |(refine hK _ ?_;clear hK K)
 |(refine aP.split (fun h=>?_) (fun h=>?_)<;>simp only[h,go_sem]<;>(try simp only[dD] at h))
 |(
  refine aa.ret ?_
  refine aM.is ?_;simp only[go_sem,aI,aH,aG,aK,aJ,aL]<;>(simp_all[ca]<;>omega)))
theorem Ai(n:Int):ai E 113 [i64 n] (fun r t=>r=bl (cj n)∧t=[]):=by
 refine ai.aC (n:=9) (rs:=[.tmp 2]) Tryz.func113 rfl Tryz.ntmps113 rfl ?_
 repeat'(first
 |refine aa.ah fun K hK=>?_
 |(refine aa.region ?_;simp only[go_sem])
 |(refine hK _ ?_;clear hK K)
 |(refine aP.split (fun h=>?_) (fun h=>?_)<;>simp only[h,go_sem]<;>(try simp only[dD] at h))
 |(
  refine aa.ret ?_
  refine aM.is ?_;simp only[go_sem,aI,aH,aG,aK,aJ,aL]<;>(simp_all[cj]<;>omega)))
theorem Ac(s:List UInt8):ai E 111 [str s] (fun r t=>r=bl (cg s)∧t=[]):=by
 refine ai.aC (n:=45) (rs:=[.tmp 2]) Tryz.func111 rfl Tryz.ntmps111 rfl ?_
 repeat'(first
 |refine aa.ah fun K hK=>?_
 |(refine aa.region ?_;simp only[go_sem])
 |(refine hK _ ?_;clear hK K)
 |refine aa.block ?_
 |refine aa.cond rfl (fun c=>?_) (fun c=>?_)<;>first|exact Bool.noConfusion c|(try simp only[dD] at c)
 |refine aa.skip ?_
 |(refine aa.exit ?_;simp only[go_sem])
 |(refine aP.dk (fun h=>?_) (fun h=>?_)<;>simp only[h,go_sem]<;>(try simp only[dD] at h))
 |(refine aP.split (fun h=>?_) (fun h=>?_)<;>simp only[h,go_sem]<;>(try simp only[dD] at h))
 |((refine aQ.mH ?_ (fun b hb=>?_));(focus(omega));(try simp only[hb,go_sem]))
 |(
  refine aa.here 4 16 1 rfl ?_
  refine aa.dY (ι:=Nat) [2,3,4,16,17,18,19,20,21,22,23,24,25,26,27,28,29,30,31,32,33,34,35,36,37,38,39,40,41,42,43,44] (fun(i:Nat)=>[(15,i64 i)]) (fun(i:Nat)=>i≤s.length∧s.length≤16∧(s.take i).all isName=true) (fun(i:Nat)=>s.length-i) (0) ?_ ?_ ?_
  ·(try simp only[go_sem]);(repeat'(first|fail));done
  ·exact⟨by omega,by omega,by simp⟩
  rintro i ⟨h1,h2,h3⟩
  simp only[go_sem])
 |(
  refine⟨i+1,?_,?_,?_⟩
  ·(try simp only[go_sem]);(try rw[aN ab ab]);(repeat'(exact .inr rfl));done
  ·exact⟨by omega,by omega,Go.Bk.jM hb h3 (by simp only[isName];simp;omega)⟩
  ·(try simp only[]);omega)
 |(
  refine aa.ret ?_
  refine aM.is ?_;simp only[go_sem,aI,aH,aG,aK,aJ,aL]<;>(first
  |(rw[vy ab];done)
  |(rw[Al hb (by simp only[isName];simp;omega)];done)
  |(rw[Am ab ab h3];done)))
 |refine aa.fin af ?_)
theorem Ab(x:Ex):ai E 56 [ao x] (fun r t=>r=bl (dh x)∧t=[]):=by
 refine ai.aC (n:=57) (rs:=[.tmp 2]) Tryz.func56 rfl Tryz.ntmps56 rfl ?_
 repeat'(first
 |refine aa.ah fun K hK=>?_
 |(refine aa.region ?_;simp only[go_sem])
 |(refine hK _ ?_;clear hK K)
 |refine aa.block ?_
 |refine aa.cond rfl (fun c=>?_) (fun c=>?_)<;>first|exact Bool.noConfusion c|(try simp only[dD] at c)
 |refine aa.skip ?_
 |(refine ak.one (Ac _) ae rfl ?_;simp only[go_sem])
 |(refine ak.one (Ae _) ae rfl ?_;simp only[go_sem])
 |(refine ak.one (Ai _) ae rfl ?_;simp only[go_sem])
 |(refine aP.split (fun h=>?_) (fun h=>?_)<;>simp only[h,go_sem]<;>(try simp only[dD] at h))
 |(
  refine aa.ret ?_
  refine aM.is ?_;simp only[go_sem,aI,aH,aG,aK,aJ,aL]<;>(simp_all[dh])))
theorem Ts(s:List UInt8):ai E 193 [str s] (fun r t=>r=bl (oA s)∧t=[]):=by
 refine ai.aC (n:=11) (rs:=[.tmp 2]) Tryz.func193 rfl Tryz.ntmps193 rfl ?_
 repeat'(first
 |refine aa.ah fun K hK=>?_
 |(refine aa.region ?_;simp only[go_sem])
 |(refine hK _ ?_;clear hK K)
 |(refine ak.one (wi s 1) ae rfl ?_;simp only[go_sem])
 |(refine aP.split (fun h=>?_) (fun h=>?_)<;>simp only[h,go_sem]<;>(try simp only[dD] at h))
 |(
  refine aa.ret ?_
  refine aM.is ?_;simp only[go_sem,aI,aH,aG,aK,aJ,aL]<;>(first|(simp only[oA,Fld.sD];rw[decide_eq_true (p:=s.length≤64) ab,Bool.true_and];done)|(simp only[oA,Fld.sD];rw[decide_eq_false (p:=s.length≤64) ab,Bool.false_and];done))))
end Go.Proofs.YthoonfpkfdjhiaaGreatDoor
end
section
namespace Go.Proofs.YthoonfpkfdjhiaaGreatDoor
open Go Go.az Go.RowKit Go.Fld
theorem vB(n:Int):ai E 58 [i64 n] (fun r t=>r=str (ay n)∧t=[]):=by
 refine ai.aC (n:=8) (rs:=[.tmp 2]) Tryz.func58 rfl Tryz.ntmps58 rfl ?_
 refine aa.ah fun K1 hK1=>?_
 refine aa.region ?_
 simp only[go_sem]
 refine hK1 _ ?_;clear hK1 K1
 refine aa.ah fun K2 hK2=>?_
 refine aa.ah fun K3 hK3=>?_
 refine aa.region ?_
 simp only[go_sem]
 repeat'((refine ak.one (Ua _) ae rfl ?_;simp only[go_sem]))
 refine hK3 _ ?_;clear hK3 K3
 refine aa.cond rfl (fun c5=>?_) (fun c5=>?_)
 ·(
   try simp only[dD] at c5
   refine aa.ah fun K4 hK4=>?_
   refine aa.region ?_
   simp only[go_sem]
   refine hK4 _ ?_;clear hK4 K4
   refine aa.ret ?_
   try simp only[go_sem]
   clear hK2 K2
   exact⟨[],.v _,rfl,rfl,by(unfold ay;rw[c5];rfl),rfl⟩)
 ·(
   try simp only[dD] at c5
   refine aa.skip ?_
   refine hK2 _ ?_;clear hK2 K2
   refine aa.ah fun K5 hK5=>?_
   refine aa.region ?_
   simp only[go_sem]
   repeat'((refine ak.one (ON _ (by have:=pF.1 c5;omega) (by have:=pF.1 c5;omega)) ae rfl ?_;simp only[go_sem]))
   refine hK5 _ ?_;clear hK5 K5
   refine aa.ret ?_
   try simp only[go_sem]
   exact⟨[],.v _,rfl,rfl,by(unfold ay;rw[c5];rfl),rfl⟩)
theorem As(s:Bs):ai E 125 [str s] (fun r t=>r= .ax [i64 (bX s).1,i64 (bX s).2]∧t=[]):=by
 have hsl:=wy s
 refine ai.aC (n:=65) (rs:=[.tmp 2,.tmp 3]) Tryz.func125 rfl Tryz.ntmps125 rfl ?_
 refine aa.ah fun K1 hK1=>?_
 refine aa.region ?_
 simp only[go_sem,(b7 s).1,(b7 s).2]
 refine hK1 _ ?_;clear hK1 K1
 refine aa.ah fun K2 hK2=>?_
 refine aa.ah fun K3 hK3=>?_
 refine aa.region ?_
 simp only[go_sem,(b7 s).1,(b7 s).2]
 refine hK3 _ ?_;clear hK3 K3
 refine aa.cond rfl (fun c11=>?_) (fun c11=>?_)
 ·(
   try simp only[dD] at c11
   refine aa.ah fun K4 hK4=>?_
   refine aa.region ?_
   simp only[go_sem,(b7 s).1,(b7 s).2]
   refine hK4 _ ?_;clear hK4 K4
   refine aa.ret ?_
   try simp only[go_sem]
   clear hK2 K2
   exact⟨[],.ax [.v _,.v _],rfl,⟨rfl,rfl,trivial⟩,by
    (exact kW (Vc ab)),rfl⟩)
 ·(
   try simp only[dD] at c11
   refine aa.skip ?_
   refine hK2 _ ?_;clear hK2 K2
   refine aa.ah fun K5 hK5=>?_
   refine aa.region ?_
   simp only[go_sem,(b7 s).1,(b7 s).2]
   repeat'((refine ak.one (KH _ _) ae rfl ?_;simp only[go_sem,(b7 s).1,(b7 s).2]))
   refine hK5 _ ?_;clear hK5 K5
   refine aa.ah fun K6 hK6=>?_
   refine aa.ah fun K7 hK7=>?_
   refine aa.region ?_
   simp only[go_sem,(b7 s).1,(b7 s).2]
   repeat'(first|(refine aP.dk (fun h=>?_) (fun h=>?_)<;>simp only[h,go_sem,(b7 s).1,(b7 s).2]<;>try simp only[dD] at h)|(refine aP.split (fun h=>?_) (fun h=>?_)<;>simp only[h,go_sem,(b7 s).1,(b7 s).2]<;>try simp only[dD] at h)|((refine aQ.mH ?_ (fun b hb=>?_));(focus((exact List.length_pos_iff.2 af)));(try simp only[hb,go_sem,(b7 s).1,(b7 s).2])))
   all_goals(
    refine hK7 _ ?_;clear hK7 K7
    refine aa.cond rfl (fun c31=>?_) (fun c31=>?_)
    ·first|exact Bool.noConfusion c31|(
      try simp only[dD] at c31
      refine aa.ah fun K8 hK8=>?_
      refine aa.region ?_
      simp only[go_sem,(b7 s).1,(b7 s).2]
      refine hK8 _ ?_;clear hK8 K8
      refine aa.ret ?_
      try simp only[go_sem]
      clear hK6 K6
      exact⟨[],.ax [.v _,.v _],rfl,⟨rfl,rfl,trivial⟩,by
       first
       |exact kW (vN ab (.inl af))
       |exact kW (vN ab (OL hb af af))
       |exact kW (vN ab (OM hb af af)),rfl⟩)
    ·first|exact Bool.noConfusion c31|(
      try simp only[dD] at c31
      refine aa.skip ?_
      refine hK6 _ ?_;clear hK6 K6
      refine aa.ah fun K9 hK9=>?_
      refine aa.ah fun K10 hK10=>?_
      refine aa.region ?_
      simp only[go_sem,(b7 s).1,(b7 s).2]
      refine hK10 _ ?_;clear hK10 K10
      refine aa.block ?_
      refine aa.mE (ι:=Nat) [2,3,6,35,36,37,38,39,40,41,42,43,44,45,46,47] (fun(i:Nat)=>[(34,i64 i)]) (fun(i:Nat)=>i≤(signed s).1.length∧((signed s).1.take i).all dP=true) (fun(i:Nat)=>(signed s).1.length-i) (0) ?_ ?_ ?_
      ·(try simp only[go_sem]);try(simp;done)
      ·simp
      rintro i ⟨h1,h2⟩
      simp only[go_sem]
      refine aa.ah fun K11 hK11=>?_
      refine aa.region ?_
      simp only[go_sem,(b7 s).1,(b7 s).2]
      refine hK11 _ ?_;clear hK11 K11
      refine aa.ah fun K12 hK12=>?_
      refine aa.cond rfl (fun c35=>?_) (fun c35=>?_)
      ·(
        try simp only[dD] at c35
        refine aa.skip ?_
        refine hK12 _ ?_;clear hK12 K12
        refine aa.ah fun K13 hK13=>?_
        refine aa.block ?_
        refine aa.ah fun K14 hK14=>?_
        refine aa.region ?_
        simp only[go_sem,(b7 s).1,(b7 s).2]
        refine hK14 _ ?_;clear hK14 K14
        refine aa.ah fun K15 hK15=>?_
        refine aa.region ?_
        simp only[go_sem,(b7 s).1,(b7 s).2]
        repeat'(first|(refine aP.dk (fun h=>?_) (fun h=>?_)<;>simp only[h,go_sem,(b7 s).1,(b7 s).2]<;>try simp only[dD] at h)|(refine aQ.gQ af ?_;(try simp only[go_sem,(b7 s).1,(b7 s).2]))|((refine aQ.mH ?_ (fun b hb=>?_));(focus((omega)));(try simp only[hb,go_sem,(b7 s).1,(b7 s).2])))
        all_goals(
         refine hK15 _ ?_;clear hK15 K15
         refine aa.cond rfl (fun c46=>?_) (fun c46=>?_)
         ·(
           try simp only[dD] at c46
           refine aa.ah fun K16 hK16=>?_
           refine aa.region ?_
           simp only[go_sem,(b7 s).1,(b7 s).2]
           refine hK16 _ ?_;clear hK16 K16
           refine aa.ret ?_
           try simp only[go_sem]
           clear hK13 K13 hK9 K9
           exact⟨[],.ax [.v _,.v _],rfl,⟨rfl,rfl,trivial⟩,by
            first
            |exact kW (AS ab (xh hb (.inl h)))
            |exact kW (AS ab (xh hb (.inr c46))),rfl⟩)
         ·first|exact Bool.noConfusion c46|(
           try simp only[dD] at c46
           refine aa.skip ?_
           refine hK13 _ ?_;clear hK13 K13
           refine aa.region ?_
           simp only[go_sem,(b7 s).1,(b7 s).2]
           clear hK9 K9
           refine⟨i+1,?_,?_,?_⟩
           ·simp;((rw[aN ab ab]))
           ·exact⟨by omega,jM hb h2 (by(assumption)) c46⟩
           ·omega)))
      ·(
        try simp only[dD] at c35
        refine aa.exit ?_
        simp only[go_sem]
        clear hK12 K12
        refine hK9 _ ?_;clear hK9 K9
        refine aa.ah fun K17 hK17=>?_
        refine aa.region ?_
        simp only[go_sem,(b7 s).1,(b7 s).2]
        repeat'((refine ak.of (U8 (signed s).1 (by have:=wy s;omega) (rW h1 c35 h2) af) ae rfl ?_;rintro r t ⟨rfl,⟨hu,rfl⟩|⟨hu,u,p,q,rfl⟩⟩<;>simp only[go_sem,(b7 s).1,(b7 s).2]))
        all_goals(
         refine hK17 _ ?_;clear hK17 K17
         refine aa.ah fun K18 hK18=>?_
         refine aa.ah fun K19 hK19=>?_
         refine aa.region ?_
         simp only[go_sem,(b7 s).1,(b7 s).2]
         all_goals(
          refine hK19 _ ?_;clear hK19 K19
          refine aa.cond rfl (fun c58=>?_) (fun c58=>?_)
          ·(
            try simp only[dD] at c58
            refine aa.ah fun K20 hK20=>?_
            refine aa.region ?_
            simp only[go_sem,(b7 s).1,(b7 s).2]
            refine hK20 _ ?_;clear hK20 K20
            refine aa.ret ?_
            try simp only[go_sem]
            clear hK18 K18
            exact⟨[],.ax [.v _,.v _],rfl,⟨rfl,rfl,trivial⟩,by
             (exact kW (Vd ab (by first|exact uT af af |exact yZ af af af) (rW h1 c35 h2) ab)),rfl⟩)
          ·first|exact Bool.noConfusion c58|(
            try simp only[dD] at c58
            refine aa.skip ?_
            refine hK18 _ ?_;clear hK18 K18
            refine aa.ah fun K21 hK21=>?_
            refine aa.ah fun K22 hK22=>?_
            refine aa.region ?_
            simp only[go_sem,(b7 s).1,(b7 s).2]
            refine hK22 _ ?_;clear hK22 K22
            refine aa.cond rfl (fun c59=>?_) (fun c59=>?_)
            ·first|exact Bool.noConfusion c59|(
              try simp only[dD] at c59
              refine aa.ah fun K23 hK23=>?_
              refine aa.region ?_
              simp only[go_sem,(b7 s).1,(b7 s).2]
              refine hK23 _ ?_;clear hK23 K23
              refine aa.ret ?_
              try simp only[go_sem]
              clear hK21 K21
              exact⟨[],.ax [.v _,.v _],rfl,⟨rfl,rfl,trivial⟩,by
               first
               |(have ho:=AU (l:=s) ab (by(exact uT af af)) (rW h1 c35 h2) ab
                 have hw:=CL c58
                 simp only[hw.1,hw.2]
                 (rw[c59] at ho;exact kW ho)),rfl⟩)
            ·(
              try simp only[dD] at c59
              refine aa.skip ?_
              refine hK21 _ ?_;clear hK21 K21
              refine aa.ah fun K24 hK24=>?_
              refine aa.region ?_
              simp only[go_sem,(b7 s).1,(b7 s).2]
              refine hK24 _ ?_;clear hK24 K24
              refine aa.ret ?_
              try simp only[go_sem]
              exact⟨[],.ax [.v _,.v _],rfl,⟨rfl,rfl,trivial⟩,by
               first
               |(have ho:=AU (l:=s) ab (by first|exact uT af af |exact yZ af af af) (rW h1 c35 h2) ab
                 have hw:=CL c58
                 simp only[hw.1,hw.2]
                 first
                 |(rw[c59] at ho;exact kW ho)
                 |(rw[(by assumption:(signed s).2=_)] at ho;exact kW ho)),rfl⟩))))))))
theorem y4(f:Fld.Fd):ai E 57 [jP f] (fun r t=>r=bl (dc f)∧t=[]):=by
 refine ai.aC (n:=29) (rs:=[.tmp 2]) Tryz.func57 rfl Tryz.ntmps57 rfl ?_
 refine aa.ah fun K1 hK1=>?_
 refine aa.region ?_
 simp only[go_sem]
 refine hK1 _ ?_;clear hK1 K1
 refine aa.ah fun K2 hK2=>?_
 refine aa.region ?_
 simp only[go_sem]
 repeat'(first|(refine ak.one (wi _ 1) ae rfl ?_;simp only[go_sem])|(refine aP.split (fun h=>?_) (fun h=>?_)<;>simp only[h,go_sem]<;>try simp only[dD] at h))
 all_goals(
  refine hK2 _ ?_;clear hK2 K2
  refine aa.ret ?_
  try simp only[go_sem]
  refine⟨[],.v _,rfl,rfl,congrArg bl (WU ?_),rfl⟩
  constructor
  ·intro e
   first
   |exact absurd e aj
   |(simp only[decide_eq_true_eq,Bool.false_eq_true,sD] at e;exact⟨by omega,by omega,by omega,by omega,e⟩)
  ·rintro⟨g1,g2,g3,g4,g5⟩
   first
   |(simp only[decide_eq_true_eq,sD];exact g5)
   |(exfalso;omega))
theorem y3(l:List Fld.Fd):ai E 26 [kt l] (fun r t=>r= .ax [.sl (some 0) 1 ((gY l).1.map u8),i64 (gY l).2]∧t=[(gY l).1.length]):=by
 refine ai.aC (n:=36) (rs:=[.tmp 2,.tmp 3]) Tryz.func26 rfl Tryz.ntmps26 rfl ?_
 refine aa.ah fun K1 hK1=>?_
 refine aa.region ?_
 simp only[go_sem]
 refine hK1 _ ?_;clear hK1 K1
 refine aa.ah fun K2 hK2=>?_
 refine aa.ah fun K3 hK3=>?_
 refine aa.region ?_
 simp only[go_sem]
 repeat'(((with_reducible refine And.intro ?_ ?_);(focus(((simp;done))));(try simp only[hb,go_sem])))
 refine hK3 _ ?_;clear hK3 K3
 refine aa.cond rfl (fun c9=>?_) (fun c9=>?_)
 ·(
   try simp only[dD] at c9
   refine aa.ah fun K4 hK4=>?_
   refine aa.region ?_
   simp only[go_sem]
   refine hK4 _ ?_;clear hK4 K4
   refine aa.ret ?_
   try simp only[go_sem]
   clear hK2 K2
   (exact⟨[(false,1)],.ax [.sl (some 0) 1 [],.v _],rfl,⟨rfl,rfl,trivial⟩,by rw[Ba ab];rfl,by rw[Ba ab];rfl⟩))
 ·(
   try simp only[dD] at c9
   refine aa.skip ?_
   refine hK2 _ ?_;clear hK2 K2
   refine aa.ah fun K5 hK5=>?_
   refine aa.region ?_
   simp only[go_sem]
   refine hK5 _ ?_;clear hK5 K5
   refine aa.ah fun K6 hK6=>?_
   refine aa.ah fun K7 hK7=>?_
   refine aa.region ?_
   simp only[go_sem]
   repeat'(((with_reducible refine And.intro ?_ ?_);(focus(((simp;done))));(try simp only[hb,go_sem])))
   refine hK7 _ ?_;clear hK7 K7
   refine aa.block ?_
   refine aa.pD 4 1 rfl ?_
   simp only[go_sem]
   refine aa.vr (ι:=Nat) [2,3,6,13,14,15,16,17,18,19,20,21,22,23,24,25,26,27,28,29,30,31,32,33,34] (fun(i:Nat)=>[(4,.sl (some 0) 1 ((bw (l.take i)).map u8)),(12,i64 i)]) (fun(i:Nat)=>[]) (fun(i:Nat)=>[(bw (l.take i)).length]) (fun(i:Nat)=>i≤l.length∧(l.take i).all dc=true) (fun(i:Nat)=>l.length-i) (0) ?_ ?_ ?_
   ·(try simp only[go_sem]);simp[bw]
   ·simp
   rintro i ⟨h1,h2⟩
   simp only[go_sem]
   refine aa.ah fun K8 hK8=>?_
   refine aa.region ?_
   simp only[go_sem]
   refine hK8 _ ?_;clear hK8 K8
   refine aa.ah fun K9 hK9=>?_
   refine aa.cond rfl (fun c13=>?_) (fun c13=>?_)
   ·(
     try simp only[dD] at c13
     refine aa.skip ?_
     refine hK9 _ ?_;clear hK9 K9
     refine aa.ah fun K10 hK10=>?_
     refine aa.block ?_
     refine aa.ah fun K11 hK11=>?_
     refine aa.region ?_
     simp only[go_sem]
     repeat'(((refine aQ.nth ?_ (fun b hb=>?_));(focus((omega)));(try simp only[hb,go_sem])))
     refine hK11 _ ?_;clear hK11 K11
     refine aa.ah fun K12 hK12=>?_
     refine aa.ah fun K13 hK13=>?_
     refine aa.region ?_
     simp only[go_sem]
     repeat'((refine ak.one (y4 (_,_)) ae rfl ?_;simp only[go_sem]))
     refine hK13 _ ?_;clear hK13 K13
     refine aa.cond rfl (fun c18=>?_) (fun c18=>?_)
     ·(
       try simp only[dD] at c18
       refine aa.ah fun K14 hK14=>?_
       refine aa.region ?_
       simp only[go_sem]
       refine hK14 _ ?_;clear hK14 K14
       refine aa.ret ?_
       try simp only[go_sem]
       clear hK12 K12 hK10 K10 hK6 K6
       (exact⟨[(false,1)],.ax [.sl (some 0) 1 [],.v _],rfl,⟨rfl,rfl,trivial⟩,by rw[A9 ab hb c18];rfl,by rw[A9 ab hb c18];rfl⟩))
     ·(
       try simp only[dD] at c18
       refine aa.skip ?_
       refine hK12 _ ?_;clear hK12 K12
       refine aa.ah fun K15 hK15=>?_
       have hl0:=LK h2
       have hl1:=pT b.1
       have hl2:=pM.1 c18
       refine aa.region ?_
       simp only[go_sem]
       repeat'(first|(refine ak.one (vB _) ae rfl ?_;simp only[go_sem])|((with_reducible refine And.intro ?_ ?_);(focus((omega)));(try simp only[hb,go_sem])))
       refine hK15 _ ?_;clear hK15 K15
       refine aa.ah fun K16 hK16=>?_
       refine aa.region ?_
       simp only[go_sem]
       repeat'(((with_reducible refine And.intro ?_ ?_);(focus((omega)));(try simp only[hb,go_sem])))
       refine hK16 _ ?_;clear hK16 K16
       refine aa.ah fun K17 hK17=>?_
       refine aa.region ?_
       simp only[go_sem]
       repeat'(((with_reducible refine And.intro ?_ ?_);(focus((omega)));(try simp only[hb,go_sem])))
       refine hK17 _ ?_;clear hK17 K17
       refine aa.region ?_
       simp only[go_sem]
       repeat'(((with_reducible refine And.intro ?_ ?_);(focus((omega)));(try simp only[hb,go_sem])))
       refine hK10 _ ?_;clear hK10 K10
       refine aa.region ?_
       simp only[go_sem]
       clear hK6 K6
       refine⟨i+1,?_,?_,?_⟩
       ·rw[LH hb,aN ab ab];simp;try omega
       ·exact⟨by omega,by rw[fI hb,List.all_append,h2];simp[c18]⟩
       ·omega))
   ·(
     try simp only[dD] at c13
     refine aa.exit ?_
     simp only[go_sem]
     clear hK9 K9
     refine hK6 _ ?_;clear hK6 K6
     refine aa.ah fun K18 hK18=>?_
     refine aa.region ?_
     simp only[go_sem]
     refine hK18 _ ?_;clear hK18 K18
     refine aa.ret ?_
     try simp only[go_sem]
     (exact⟨[(true,0)],.ax [.sl (some 0) 1 _,.v _],rfl,⟨⟨rfl,rfl,rfl⟩,rfl,trivial⟩,by rw[Bb ab c13 h2],by rw[Bb ab c13 h2];rfl⟩)))
end Go.Proofs.YthoonfpkfdjhiaaGreatDoor
end
section
namespace Go.Proofs.YthoonfpkfdjhiaaGreatDoor
open Go Go.az Go.RowKit Go.Bk Go.Msg
theorem To(m:Mg):ai E 157 [pC m] (fun r t=>r=bl (jZ m)∧t=[]):=by
 refine ai.aC (n:=113) (rs:=[.tmp 2]) Tryz.func157 rfl Tryz.ntmps157 rfl ?_
 repeat'(first
 |refine aa.ah fun K hK=>?_
 |(refine aa.region ?_;simp only[go_sem,lP m (gL m)])
 |(refine aa.here 17 62 8 rfl ?_;apply aa.ov (.take 0 (.take 1 (.take 2 (.take 4 (.fork (.alt 3 (.take 5 (.take 6 (.take 7 .done))) (.alt 5 (.take 3 (.take 6 (.take 7 .done))) .ends))))))) [[],[0],[],[2],[0,1],[0,1,4],[0,1,2,3,4,5],[0,1,2,3,4,5,6]] [] ae ae aj;simp only[go_sem,lP m (gL m)])
 |(refine aa.here 20 83 8 rfl ?_;apply aa.ov (.take 0 (.take 1 (.take 2 (.take 4 (.fork (.alt 3 (.take 5 (.take 6 (.take 7 .done))) (.alt 5 (.take 3 (.take 6 (.take 7 .done))) .ends))))))) [[],[0],[],[2],[0,1],[0,1,4],[0,1,2,3,4,5],[0,1,2,3,4,5,6]] [] ae ae aj;simp only[go_sem,lP m (gL m)])
 |(refine hK _ ?_;clear hK K)
 |refine aa.block ?_
 |refine aa.cond rfl (fun c=>?_) (fun c=>?_)<;>first|exact Bool.noConfusion c|(try simp only[dD] at c)
 |refine aa.skip ?_
 |(refine ak.one (Ae _) ae rfl ?_;simp only[go_sem,lP m (gL m)])
 |(refine ak.one (Ai _) ae rfl ?_;simp only[go_sem,lP m (gL m)])
 |(refine ak.one (Ts _) ae rfl ?_;simp only[go_sem,lP m (gL m)])
 |(refine ak.one (Ab _) ae rfl ?_;simp only[go_sem,lP m (gL m)])
 |(refine aP.dk (fun h=>?_) (fun h=>?_)<;>simp only[h,go_sem,lP m (gL m)]<;>(try simp only[dD] at h))
 |(refine aP.split (fun h=>?_) (fun h=>?_)<;>simp only[h,go_sem,lP m (gL m)]<;>(try simp only[dD] at h))
 |exact rfl
 |(
  refine aa.ret ?_
  refine aM.is ?_;simp only[go_sem,aI,aH,aG,aK,aJ,aL]<;>(((try clear hK);obtain⟨kind,seq,time,copy,a,b,bm,text,⟨e1,e2,e3,e4,e5,e6,e7,e8,e9,e10⟩⟩:=m;rw[Bool.eq_iff_iff];simp_all[jZ,mI,gL,aX,and_assoc];done))))
theorem VT(m:Mg):ai E 24 [pC m] (fun r t=>(∃b:Bool,r=bl b)∧t=[]):=by
 refine ai.aC (n:=42) (rs:=[.tmp 2]) Tryz.func24 rfl Tryz.ntmps24 rfl ?_
 repeat'(first
 |refine aa.ah fun K hK=>?_
 |(refine aa.region ?_;simp only[go_sem])
 |(refine hK _ ?_;clear hK K)
 |(refine aP.split (fun h=>?_) (fun h=>?_)<;>simp only[h,go_sem]<;>(try simp only[dD] at h))
 |(
  refine aa.ret ?_
  (simp only[go_sem];exact⟨[],.v _,rfl,rfl,⟨_,rfl⟩,rfl⟩)))
end Go.Proofs.YthoonfpkfdjhiaaGreatDoor
end
section
namespace Go.Proofs.YthoonfpkfdjhiaaGreatDoor
open Go Go.az Go.RowKit Go.Bk Go.Msg Go.Txt
abbrev bd(o:Od):AV:= .agg [str o.id,str o.acc,str o.sym,bl o.aD,i64 o.au,i64 o.aE,i64 o.done,bl o.bW]
abbrev bB(x:Lm):AV:= .agg [str x.acc,str x.sym,i64 x.long,i64 x.short,i64 x.au,i64 x.value]
abbrev gi(a:Ak):AV:= .agg [i64 a.kind,i64 a.bp,str a.ord.id,str a.ord.acc,str a.ord.sym,bl a.ord.aD,i64 a.ord.au,i64 a.ord.aE,i64 a.ord.done,bl a.ord.bW,str a.id,
 str a.exec.id,str a.exec.ref,str a.exec.ord,str a.exec.acc,str a.exec.sym,i64 a.exec.kind,bl a.exec.aD,i64 a.exec.au,i64 a.exec.aE,i64 a.exec.time,i64 a.now,bl a.on,
 str a.lim.acc,str a.lim.sym,i64 a.lim.long,i64 a.lim.short,i64 a.lim.au,i64 a.lim.value]
abbrev tW(a:Ak):Prop:=a.ord.id.length≤9223372036854775807∧a.ord.acc.length≤9223372036854775807∧a.ord.sym.length≤9223372036854775807∧a.id.length≤9223372036854775807∧a.lim.acc.length≤9223372036854775807∧a.lim.sym.length≤9223372036854775807∧LQ a.exec
theorem xg{α:Type}{f:α→Bool}{l:List α}{i:Nat}{b:α}(hb:l[i]?=some b)(h:f b=false):l.all f=false:=
 List.all_eq_false.2 ⟨b,List.mem_of_getElem? hb,by rw[h];decide⟩
theorem RC(n:Int):ai E 53 [i64 n] (fun r t=>r=bl (ic n)∧t=[]):=by
 refine ai.aC (n:=9) (rs:=[.tmp 2]) Tryz.func53 rfl Tryz.ntmps53 rfl ?_
 repeat'(first
 |refine aa.ah fun K hK=>?_
 |(refine aa.region ?_;simp only[go_sem])
 |(refine hK _ ?_;clear hK K)
 |(refine aP.split (fun h=>?_) (fun h=>?_)<;>simp only[h,go_sem]<;>(try simp only[dD] at h))
 |(
  refine aa.ret ?_
  refine aM.is ?_;simp only[go_sem,aI,aH,aG,aK,aJ,aL]<;>(simp_all[ic]<;>omega)))
theorem zI(l:List (List UInt8))(hl:l.length≤100):ai E 54 [.sl none 1 (l.map str)] (fun r t=>r=bl (l.all cg)∧t=[]):=by
 refine ai.aC (n:=15) (rs:=[.tmp 2]) Tryz.func54 rfl Tryz.ntmps54 rfl ?_
 repeat'(first
 |refine aa.ah fun K hK=>?_
 |(refine aa.region ?_;simp only[go_sem])
 |(refine hK _ ?_;clear hK K)
 |refine aa.block ?_
 |refine aa.cond rfl (fun c=>?_) (fun c=>?_)<;>(try simp only[dD] at c)
 |refine aa.skip ?_
 |(refine aa.exit ?_;simp only[go_sem])
 |(refine ak.one (Ac _) ae rfl ?_;simp only[go_sem])
 |((first|refine aQ.nth ?_ (fun b hb=>?_)|with_reducible refine And.intro ?_ ?_);(focus(first|omega|(simp;done)));(try simp only[hb,go_sem]))
 |(
  refine aa.here 2 8 1 rfl ?_
  refine aa.dY (ι:=Nat) [2,4,8,9,10,11,12,13,14] (fun(i:Nat)=>[(7,i64 i)]) (fun(i:Nat)=>i≤l.length∧(l.take i).all cg=true) (fun(i:Nat)=>l.length-i) (0) ?_ ?_ ?_
  ·(try simp only[go_sem]);(repeat'(first|fail));done
  ·exact⟨by omega,by simp⟩
  rintro i ⟨h1,h2⟩
  simp only[go_sem])
 |(
  refine⟨i+1,?_,?_,?_⟩
  ·(try simp only[go_sem]);(try rw[aN ab ab]);(repeat'(exact .inr rfl));done
  ·exact⟨by omega,Go.Bk.jM hb h2 af⟩
  ·(try simp only[]);omega)
 |(
  refine aa.ret ?_
  refine aM.is ?_;simp only[go_sem,aI,aH,aG,aK,aJ,aL]<;>(first
  |(rw[xg hb af];done)
  |(rw[List.take_of_length_le ab] at h2;rw[h2];done)))
 |refine aa.fin af ?_)
theorem u9(l:List Int)(hl:l.length≤100):ai E 55 [.sl none 1 (l.map i64)] (fun r t=>r=bl (l.all cj)∧t=[]):=by
 refine ai.aC (n:=18) (rs:=[.tmp 2]) Tryz.func55 rfl Tryz.ntmps55 rfl ?_
 repeat'(first
 |refine aa.ah fun K hK=>?_
 |(refine aa.region ?_;simp only[go_sem])
 |(refine hK _ ?_;clear hK K)
 |refine aa.block ?_
 |refine aa.cond rfl (fun c=>?_) (fun c=>?_)<;>first|exact Bool.noConfusion c|(try simp only[dD] at c)
 |refine aa.skip ?_
 |(refine aa.exit ?_;simp only[go_sem])
 |(refine aP.dk (fun h=>?_) (fun h=>?_)<;>simp only[h,go_sem]<;>(try simp only[dD] at h))
 |((first|refine aQ.nth ?_ (fun b hb=>?_)|with_reducible refine And.intro ?_ ?_);(focus(first|omega|(simp;done)));(try simp only[hb,go_sem]))
 |(
  refine aa.here 2 8 1 rfl ?_
  refine aa.dY (ι:=Nat) [2,4,8,9,10,11,12,13,14,15,16,17] (fun(i:Nat)=>[(7,i64 i)]) (fun(i:Nat)=>i≤l.length∧(l.take i).all cj=true) (fun(i:Nat)=>l.length-i) (0) ?_ ?_ ?_
  ·(try simp only[go_sem]);(repeat'(first|fail));done
  ·exact⟨by omega,by simp⟩
  rintro i ⟨h1,h2⟩
  simp only[go_sem])
 |(
  refine⟨i+1,?_,?_,?_⟩
  ·(try simp only[go_sem]);(try rw[aN ab ab]);(repeat'(exact .inr rfl));done
  ·exact⟨by omega,Go.Bk.jM hb h2 (by simp_all[cj]<;>omega)⟩
  ·(try simp only[]);omega)
 |(
  refine aa.ret ?_
  refine aM.is ?_;simp only[go_sem,aI,aH,aG,aK,aJ,aL]<;>(first
  |(rw[xg hb (by simp_all[cj]<;>omega)];done)
  |(rw[List.take_of_length_le ab] at h2;rw[h2];done)))
 |refine aa.fin af ?_)
theorem VQ(a:Ak):ai E 8 [gi a] (fun r t=>(∃b:Bool,r=bl b)∧t=[]):=by
 refine ai.aC (n:=48) (rs:=[.tmp 2]) Tryz.func8 rfl Tryz.ntmps8 rfl ?_
 repeat'(first
 |refine aa.ah fun K hK=>?_
 |(refine aa.region ?_;simp only[go_sem])
 |(refine hK _ ?_;clear hK K)
 |(refine ak.of (VT ⟨0,0,0,false,0,0,false,[],a.exec⟩) ae rfl ?_;rintro r t ⟨⟨bb,rfl⟩,rfl⟩;simp only[go_sem])
 |(refine aP.split (fun h=>?_) (fun h=>?_)<;>simp only[h,go_sem]<;>(try simp only[dD] at h))
 |(
  refine aa.ret ?_
  (simp only[go_sem];exact⟨[],.v _,rfl,rfl,⟨_,rfl⟩,rfl⟩)))
theorem ve(g:Int)(v:List UInt8):ai E 60 [i64 g,str v] (fun r t=>r=jP (g,v)∧t=[]):=by
 refine ai.aC (n:=8) (rs:=[.cell 4 83]) Tryz.func60 rfl Tryz.ntmps60 rfl ?_
 repeat'(first
 |refine aa.ah fun K hK=>?_
 |(refine aa.region ?_;simp only[go_sem])
 |(refine hK _ ?_;clear hK K)
 |(
  refine aa.ret ?_
  refine aM.is ?_;simp only[go_sem,aI,aH,aG,aK,aJ,aL]<;>rfl))
theorem Rj(g n:Int):ai E 59 [i64 g,i64 n] (fun r t=>r=jP (g,Fld.ay n)∧t=[]):=by
 refine ai.aC (n:=9) (rs:=[.cell 4 83]) Tryz.func59 rfl Tryz.ntmps59 rfl ?_
 repeat'(first
 |refine aa.ah fun K hK=>?_
 |(refine aa.region ?_;simp only[go_sem])
 |(refine hK _ ?_;clear hK K)
 |(refine ak.one (vB _) ae rfl ?_;simp only[go_sem])
 |(refine ak.one (ve _ _) ae rfl ?_;simp only[go_sem])
 |(
  refine aa.ret ?_
  refine aM.is ?_;simp only[go_sem,aI,aH,aG,aK,aJ,aL]<;>rfl))
theorem Q1(g:Int)(b:Bool):ai E 61 [i64 g,bl b] (fun r t=>r=jP (g,iK b)∧t=[]):=by
 refine ai.aC (n:=10) (rs:=[.cell 4 83]) Tryz.func61 rfl Tryz.ntmps61 rfl ?_
 repeat'(first
 |refine aa.ah fun K hK=>?_
 |(refine aa.region ?_;simp only[go_sem])
 |(refine hK _ ?_;clear hK K)
 |refine aa.cond rfl (fun c=>?_) (fun c=>?_)<;>(try simp only[dD] at c)
 |refine aa.skip ?_
 |(refine ak.one (ve _ _) ae rfl ?_;simp only[go_sem])
 |(
  refine aa.ret ?_
  refine aM.is ?_;simp only[go_sem,aI,aH,aG,aK,aJ,aL]<;>(simp_all[iK];done)))
end Go.Proofs.YthoonfpkfdjhiaaGreatDoor
end
section
namespace Go.Kp
def rq(x:BitVec 32):BitVec 32:=if x.getLsbD 0 then(x >>> 1) ^^^ 3988292384#32 else x >>> 1
def eT:Nat→BitVec 32→BitVec 32
 |0,x=>x
 |n+1,x=>eT n (rq x)
def iZ(i:BitVec 32):BitVec 32:=eT 8 i
def jE(s:BitVec 32)(b:UInt8):BitVec 32:=(s >>> 8) ^^^ iZ ((s ^^^ BitVec.ofNat 32 b.toNat) &&& 255#32)
def iA(l:List UInt8):BitVec 32:= ~~~ (l.foldl jE (BitVec.allOnes 32))
abbrev Bs:=List UInt8
def gM(n:Nat):Bs:=[UInt8.ofNat (n/256),UInt8.ofNat n]
def sa(x:BitVec 32):Bs:=[UInt8.ofNat (x.toNat/16777216),UInt8.ofNat (x.toNat/65536),UInt8.ofNat (x.toNat/256),UInt8.ofNat x.toNat]
def recC(r:Bs):Bs:=gM r.length++sa (iA (gM r.length++r))++r
def oW(b:Bs)(i:Nat):Nat:=(b.getD i 0).toNat
def cz(b:Bs):Nat:=oW b 0*256+oW b 1
def bJ(b:Bs):Bs×Nat×Int:=
 if b.length<6 then([],0,2) else if cz b<1∨4096<cz b then([],0,3) else if b.length<6+cz b then([],0,2)
 else if recC ((b.drop 6).take (cz b))=b.take (6+cz b) then((b.drop 6).take (cz b),6+cz b,0) else([],0,11)
def oS:Nat→Bs→List Bs×Nat
 |0,_=>([],0)
 |k+1,b=>if(bJ b).2.2=0 then((bJ b).1::(oS k (b.drop (bJ b).2.1)).1,(bJ b).2.1+(oS k (b.drop (bJ b).2.1)).2) else([],0)
def cB(b:Bs):List Bs×Nat:=oS b.length b
def ku(r:Bs):Prop:=1≤r.length∧r.length≤4096
theorem jN(n:Nat):(gM n).length=2:=rfl
theorem uj(x:BitVec 32):(sa x).length=4:=rfl
theorem eC(r:Bs):(recC r).length=6+r.length:=by unfold recC;simp[jN,uj];omega
theorem pX(n:Nat):(UInt8.ofNat n).toNat=n%256:=by simp
theorem zq(r t:Bs)(h:r.length≤65535):cz (recC r++t)=r.length:=by
 have e0:(recC r++t).getD 0 0=UInt8.ofNat (r.length/256):=rfl
 have e1:(recC r++t).getD 1 0=UInt8.ofNat r.length:=rfl
 unfold cz oW;rw[e0,e1,pX,pX];omega
theorem V6(r t:Bs):((recC r++t).drop 6).take r.length=r:=by
 have:recC r++t=(gM r.length++sa (iA (gM r.length++r)))++(r++t):=by unfold recC;simp
 rw[this,List.drop_append_of_le_length (by simp[jN,uj]),List.drop_of_length_le (by simp[jN,uj])]
 simp
theorem V8(r t:Bs):(recC r++t).take (6+r.length)=recC r:=by
 rw[List.take_append_of_le_length (by rw[eC];exact Nat.le_refl _),List.take_of_length_le (by rw[eC];exact Nat.le_refl _)]
theorem TM{r:Bs}(h:ku r)(t:Bs):bJ (recC r++t)=(r,6+r.length,0):=by
 obtain⟨h1,h2⟩:=h
 have hl:(recC r++t).length=6+r.length+t.length:=by rw[List.length_append,eC]
 have hh:=zq r t ab
 unfold bJ
 rw[hh,if_neg ab,if_neg ab,if_neg ab,V6,V8,if_pos rfl]
theorem nZ{b:Bs}(h:(bJ b).2.2=0):ku (bJ b).1∧(bJ b).2.1=6+(bJ b).1.length∧b=recC (bJ b).1++b.drop (bJ b).2.1:=by
 revert h;unfold bJ
 split
 ·intro h;exact absurd h aj
 ·split
  ·intro h;exact absurd h aj
  ·split
   ·intro h;exact absurd h aj
   ·split
    ·rename_i h1 h2 h3 h4
     intro _
     have hl:((b.drop 6).take (cz b)).length=cz b:=by rw[List.length_take,List.length_drop];omega
     refine⟨⟨by show 1≤_;rw[hl];omega,by show _≤4096;rw[hl];omega⟩,by show _=6+_;rw[hl],?_⟩
     show b=recC _++b.drop (6+cz b)
     rw[h4,List.take_append_drop]
    ·intro h;exact absurd h aj
theorem xf:∀(k m:Nat) (b:Bs),b.length≤k→b.length≤m→oS k b=oS m b
 |0,0,_,_,_=>rfl
 |0,m+1,b,h,_=>by
  obtain rfl:=List.eq_nil_of_length_eq_zero (Nat.le_zero.1 h);rfl
 |k+1,0,b,_,h=>by
  obtain rfl:=List.eq_nil_of_length_eq_zero (Nat.le_zero.1 h);rfl
 |k+1,m+1,b,h1,h2=>by
  unfold oS
  by_cases e:(bJ b).2.2=0
  ·have hn:=(nZ e).2.1
   have hl:(b.drop (bJ b).2.1).length≤b.length-1:=by rw[List.length_drop,hn];omega
   rw[if_pos e,if_pos e,xf k m _ ab ab]
  ·rw[if_neg e,if_neg e]
theorem tZ{b:Bs}(e:(bJ b).2.2=0):cB b=((bJ b).1::(cB (b.drop (bJ b).2.1)).1,(bJ b).2.1+(cB (b.drop (bJ b).2.1)).2):=by
 have hn:=(nZ e).2.1
 have hb:=(nZ e).2.2
 have hl:b.length=6+(bJ b).1.length+(b.drop (bJ b).2.1).length:=by
  conv=>lhs;rw[hb]
  rw[List.length_append,eC]
 unfold cB
 obtain⟨k,hk⟩:∃k,b.length=k+1:=⟨b.length-1,by omega⟩
 rw[hk]
 show(if(bJ b).2.2=0 then _ else _)=_
 rw[if_pos e,xf k (b.drop (bJ b).2.1).length _ ab (Nat.le_refl _)]
theorem rX{b:Bs}(e:¬(bJ b).2.2=0):cB b=([],0):=by
 unfold cB
 cases h:b.length with
 |zero=>rfl
 |succ k=>show(if(bJ b).2.2=0 then _ else _)=_;rw[if_neg e]
def cO(l:List Bs):Bs:=l.flatMap recC
theorem tY:∀(n:Nat) (b:Bs),b.length≤n→(∀r∈(cB b).1,ku r)∧(cB b).2=(cO (cB b).1).length∧b=cO (cB b).1++b.drop (cB b).2∧¬(bJ (b.drop (cB b).2)).2.2=0
 |n,b,hb=>by
  by_cases e:(bJ b).2.2=0
  ·have⟨h1,h2,h3⟩:=nZ e
   have hl:b.length=6+(bJ b).1.length+(b.drop (bJ b).2.1).length:=by
    conv=>lhs;rw[h3]
    rw[List.length_append,eC]
   cases n with
   |zero=>omega
   |succ n=>
    obtain⟨i1,i2,i3,i4⟩:=tY n (b.drop (bJ b).2.1) ab
    rw[tZ e]
    refine⟨?_,?_,?_,?_⟩
    ·intro r hr
     rcases List.mem_cons.1 hr with rfl|hr
     ·exact h1
     ·exact i1 r hr
    ·simp only[cO,List.flatMap_cons,List.length_append,eC] at i2 ⊢
     rw[←i2,h2]
    ·simp only[cO,List.flatMap_cons] at i3 ⊢
     rw[←List.drop_drop,List.append_assoc,←i3,←h3]
    ·simp only
     rw[←List.drop_drop];exact i4
  ·rw[rX e]
   exact⟨by simp,rfl,rfl,by simpa using e⟩
theorem YX{r t:Bs}{k:Nat}(hr:ku r)(hk:k<6+r.length):¬(bJ ((recC r++t).take k)).2.2=0:=by
 have hl:((recC r++t).take k).length=k:=by rw[List.length_take,List.length_append,eC];omega
 unfold bJ
 by_cases h6:k<6
 ·rw[if_pos ab];decide
 ·have hh:cz ((recC r++t).take k)=cz (recC r++t):=by
   unfold cz oW
   rw[List.getD_eq_getElem?_getD,List.getD_eq_getElem?_getD,List.getElem?_take_of_lt ab,List.getElem?_take_of_lt ab,←List.getD_eq_getElem?_getD,←List.getD_eq_getElem?_getD]
  rw[hh,zq r t (by have:=hr.2;omega),if_neg ab,if_neg (by have:=hr.1;have:=hr.2;omega),if_pos ab]
  decide
theorem rY:∀{l:List Bs} {k:Nat},(∀r∈l,ku r)→∃m,m≤l.length∧cB ((cO l).take k)=(l.take m,(cO (l.take m)).length)∧(cO (l.take m)).length≤k∧(m<l.length→k<(cO (l.take (m+1))).length)
 |[],k,_=>⟨0,Nat.le_refl _,by
    have:(cO []).take k=[]:=by simp[cO]
    rw[this];exact rX aj,by simp[cO],by simp⟩
 |r::l,k,h=>by
  have hr:=h r aB
  have e:cO (r::l)=recC r++cO l:=by simp[cO]
  by_cases hk:k<6+r.length
  ·refine⟨0,Nat.zero_le _,?_,by simp[cO],?_⟩
   ·rw[e,rX (YX hr hk)];rfl
   ·intro _;simp[cO,eC];omega
  ·obtain⟨m,h1,h2,h3,h4⟩:=rY (l:=l) (k:=k-(6+r.length)) (fun x hx=>h x (by simp[hx]))
   have e2:(cO (r::l)).take k=recC r++(cO l).take (k-(6+r.length)):=by
    rw[e,List.take_append,List.take_of_length_le (by rw[eC];omega),eC]
   have hn:=TM hr ((cO l).take (k-(6+r.length)))
   refine⟨m+1,by simp;omega,?_,?_,?_⟩
   ·rw[e2,tZ (by rw[hn]),hn]
    have hd:(recC r++(cO l).take (k-(6+r.length))).drop (6+r.length)=(cO l).take (k-(6+r.length)):=by rw[←eC,List.drop_left]
    simp only[hd,h2,List.take_succ_cons]
    simp[cO,eC]
   ·simp only[List.take_succ_cons,cO,List.flatMap_cons,List.length_append,eC] at h3 ⊢;omega
   ·intro hm
    have:=h4 (by simpa using hm)
    simp only[List.take_succ_cons,cO,List.flatMap_cons,List.length_append,eC] at this ⊢;omega
structure Fi where
 safe:Bs
 tail:Bs
deriving DecidableEq
structure Dk where
 f0:Fi
 f1:Fi
deriving DecidableEq
structure Jn where
 d:Dk
 at':Int
 gen:Int
deriving DecidableEq
def maxD:Int:=4611686018427387904
def okF(f:Fi):Bool:=decide (f.safe.length+f.tail.length≤65536)
def b6(d:Dk):Bool:=okF d.f0&&okF d.f1
def fk(n:Int):Bool:=decide (n=0)||decide (n=1)
def gn(d:Dk)(n:Int):Fi:=if n=0 then d.f0 else d.f1
def eD(d:Dk)(n:Int)(f:Fi):Dk:=if n=0 then⟨f,d.f1⟩ else⟨d.f0,f⟩
def bL(f:Fi):Bs:=f.safe++f.tail
def kC(d:Dk)(n:Int):Bool:=b6 d&&fk n
def db(d:Dk)(n:Int):Bs:=if kC d n=true then bL (gn d n) else[]
def eJ(d:Dk)(n:Int)(b:Bs):Dk×Int:=
 if kC d n=true then(if(bL (gn d n)).length+b.length≤65536 then(eD d n ⟨(gn d n).safe,(gn d n).tail++b⟩,0) else(d,5)) else(d,1)
def iB(d:Dk)(n:Int):Dk×Int:=if kC d n=true then(eD d n ⟨bL (gn d n),[]⟩,0) else(d,1)
def gO(d:Dk)(n k:Int):Dk×Int:=
 if kC d n=true∧0≤k∧k≤((bL (gn d n)).length:Int) then(eD d n ⟨(bL (gn d n)).take k.toNat,[]⟩,0) else(d,1)
def kz(k:Int)(f:Fi):Fi:=⟨f.safe++f.tail.take k.toNat,[]⟩
def nz(d:Dk)(k0 k1:Int):Dk:=if b6 d=true then⟨kz k0 d.f0,kz k1 d.f1⟩ else d
def fE(r:Bs):Nat:=r.foldl (fun n b=>n*256+b.toNat) 0
structure Ct where
 gen:Int
 snap:Bs
 nC:List Bs
 long:Nat
def dQ(b:Bs):Option Ct:=
 match(cB b).1 with
 |[]=>none
 |r::l=>if 9≤r.length∧r.head?=some 71∧1≤fE ((r.drop 1).take 8)∧fE ((r.drop 1).take 8)≤4611686018427387904 then some ⟨fE ((r.drop 1).take 8),r.drop 9,l,(cB b).2⟩ else none
def EL(g:Nat):Bs:=[UInt8.ofNat (g/2^56),UInt8.ofNat (g/2^48),UInt8.ofNat (g/2^40),UInt8.ofNat (g/2^32),UInt8.ofNat (g/2^24),UInt8.ofNat (g/2^16),UInt8.ofNat (g/2^8),UInt8.ofNat g]
def uP(g:Int)(snap:Bs):Bs:=71::EL g.toNat++snap
def oX(d:Dk)(n:Int)(g:Int)(snap:Bs):Dk:=eD d n ⟨recC (uP g snap),[]⟩
def b9(d:Dk):Jn×Bs×List Bs×Int:=
 if b6 d=true then
  match dQ (bL d.f0),dQ (bL d.f1) with
  |none,none=>(⟨oX d 0 1 [],0,1⟩,[],[],0)
  |some c,none=>(⟨eD d 0 ⟨(bL d.f0).take c.long,[]⟩,0,c.gen⟩,c.snap,c.nC,0)
  |none,some c=>(⟨eD d 1 ⟨(bL d.f1).take c.long,[]⟩,1,c.gen⟩,c.snap,c.nC,0)
  |some a,some c=>if a.gen<c.gen then(⟨eD d 1 ⟨(bL d.f1).take c.long,[]⟩,1,c.gen⟩,c.snap,c.nC,0) else(⟨eD d 0 ⟨(bL d.f0).take a.long,[]⟩,0,a.gen⟩,a.snap,a.nC,0)
 else(⟨⟨⟨[],[]⟩,⟨[],[]⟩⟩,0,0⟩,[],[],1)
def ir(j:Jn):Bool:=b6 j.d&&fk j.at'&&decide (1≤j.gen)&&decide (j.gen≤maxD)
def dz(j:Jn)(b:Bs):Jn×Int:=
 if ir j=true∧1≤b.length∧b.length≤4000 then(if(eJ j.d j.at' (recC b)).2=0 then(⟨(eJ j.d j.at' (recC b)).1,j.at',j.gen⟩,0) else(j,5)) else(j,1)
def ia(j:Jn):Jn×Int:=if ir j=true then(⟨(iB j.d j.at').1,j.at',j.gen⟩,0) else(j,1)
def iJ(j:Jn)(k0 k1:Int):Dk:=nz j.d k0 k1
def eK:Dk:=⟨⟨[],[]⟩,⟨[],[]⟩⟩
end Go.Kp
end
section
namespace Go.Kp
open Go.Txt
theorem vY(a b:List Bs):cO (a++b)=cO a++cO b:=by simp[cO]
def cJ:Bs:=[71,0,0,0,0,0,0,0,1]
theorem Oz:ku cJ:=⟨by decide,by decide⟩
theorem yU:uP 1 []=cJ:=by decide
theorem SW{l:List Bs}{n:Nat}{b:Bs}(h:cB b=(cJ::l,n)):dQ b=some ⟨1,[],l,n⟩:=by
 unfold dQ
 rw[h]
 have e:fE ((cJ.drop 1).take 8)=1:=by decide
 show(if _ then _ else _)=_
 rw[e]
 rfl
section
variable{σ:Type}(ask:σ→Ak→σ×Int×Int)
structure Ks(σ:Type) where
 jn:Jn
 g:σ
def dH(k:Ks σ)(a:Ak):Ks σ×Int×Int:=
 if bC a=true then
  (if(ask k.g a).2.2=0 then(if(dz k.jn (bY a).1).2=0 then(⟨(dz k.jn (bY a).1).1,(ask k.g a).1⟩,(ask k.g a).2.1,0) else(k,0,(dz k.jn (bY a).1).2)) else(k,0,(ask k.g a).2.2))
 else(k,0,1)
def iY(k:Ks σ):Ks σ×Int:=if(ia k.jn).2=0 then(⟨(ia k.jn).1,k.g⟩,0) else(k,(ia k.jn).2)
def ep:σ→List Bs→σ
 |g,[]=>g
 |g,b::l=>if(dF b).2=0 then(if(ask g (dF b).1).2.2=0 then ep (ask g (dF b).1).1 l else g) else g
def oq(g0:σ)(d:Dk):Ks σ×Int:=if(b9 d).2.2.2=0 then(⟨(b9 d).1,ep ask g0 (b9 d).2.2.1⟩,0) else(⟨(b9 d).1,g0⟩,(b9 d).2.2.2)
def runK:σ→List Ak→σ
 |g,[]=>g
 |g,a::l=>runK (ask g a).1 l
def pG:σ→List Ak→Prop
 |_,[]=>True
 |g,a::l=>bC a=true∧(ask g a).2.2=0∧pG (ask g a).1 l
def dO(l:List Ak):List Bs:=l.map fun a=>(bY a).1
theorem BJ:∀(l:List Ak) (g:σ) (a:Ak),runK ask g (l++[a])=(ask (runK ask g l) a).1
 |[],_,_=>rfl
 |b::l,g,a=>BJ l (ask g b).1 a
theorem AF:∀{l:List Ak} {g:σ} {a:Ak},pG ask g l→bC a=true→(ask (runK ask g l) a).2.2=0→pG ask g (l++[a])
 |[],_,_,_,h1,h2=>⟨h1,h2,trivial⟩
 |b::l,g,a,h,h1,h2=>⟨h.1,h.2.1,AF h.2.2 h1 h2⟩
variable{ask}
theorem ra{a:Ak}(h:bC a=true):ku (bY a).1∧(bY a).1.length≤4000:=by
 have e:bY a=(Fld.bw (aV a),0):=if_pos h
 have⟨h1,h2,h3⟩:=uM h
 have hl:=Fld.qz h1
 rw[e]
 refine⟨⟨?_,?_⟩,?_⟩
 ·cases hf:aV a with
  |nil=>rw[hf] at h2;simp at h2
  |cons f l=>
   show 1≤(Fld.bw (f::l)).length
   rw[Fld.bw,List.length_append,Fld.gm]
   simp;omega
 ·show(Fld.bw (aV a)).length≤4096;omega
 ·show(Fld.bw (aV a)).length≤4000;omega
theorem yK{g:σ}:∀{l:List Ak} {g:σ},pG ask g l→∀r∈dO l,ku r
 |[],_,_,r,hr=>by simp[dO] at hr
 |a::l,g,h,r,hr=>by
  simp only[dO,List.map_cons,List.mem_cons] at hr
  rcases hr with rfl|hr
  ·exact(ra h.1).1
  ·exact yK (g:=g) h.2.2 r hr
structure iF(ask:σ→Ak→σ×Int×Int)(g0:σ)(k:Ks σ)(l:List Ak)(s:Nat):Prop where
 ok:pG ask g0 l
 g:k.g=runK ask g0 l
 at':k.jn.at'=0
 gen:k.jn.gen=1
 right:b6 k.jn.d=true
 f1:k.jn.d.f1=⟨[],[]⟩
 sl:s≤l.length
 safe:k.jn.d.f0.safe=cO (cJ::dO (l.take s))
 tail:k.jn.d.f0.tail=cO (dO (l.drop s))
theorem zx{g0:σ}{k:Ks σ}{l:List Ak}{s:Nat}(h:iF ask g0 k l s):bL k.jn.d.f0=cO (cJ::dO l):=by
 unfold bL;rw[h.safe,h.tail,←vY]
 congr 1
 rw[List.cons_append]
 congr 1
 unfold dO;rw[←List.map_append,List.take_append_drop]
theorem u4{g0:σ}{k:Ks σ}{l:List Ak}{s:Nat}(h:iF ask g0 k l s):ir k.jn=true∧kC k.jn.d k.jn.at'=true:=by
 unfold ir kC fk maxD;rw[h.right,h.at',h.gen];exact⟨by decide,by decide⟩
theorem qU{f:Fi}:okF f=true↔f.safe.length+f.tail.length≤65536:=by unfold okF;simp
theorem pN{d:Dk}:b6 d=true↔(d.f0.safe.length+d.f0.tail.length≤65536∧d.f1.safe.length+d.f1.tail.length≤65536):=by
 unfold b6;rw[Bool.and_eq_true,qU,qU]
theorem og:b9 eK=(⟨⟨⟨recC cJ,[]⟩,⟨[],[]⟩⟩,0,1⟩,[],[],0):=by
 unfold b9
 rw[if_pos aj,show dQ (bL eK.f0)=none from rfl,show dQ (bL eK.f1)=none from rfl]
 show((⟨oX eK 0 1 [],0,1⟩,[],[],0):Jn×Bs×List Bs×Int)=_
 unfold oX;rw[yU];rfl
theorem zy(g0:σ):iF ask g0 (oq ask g0 eK).1 [] 0∧(oq ask g0 eK).2=0:=by
 unfold oq;rw[og]
 refine⟨⟨trivial,rfl,rfl,rfl,?_,rfl,Nat.le_refl _,?_,rfl⟩,rfl⟩
 ·show b6 ⟨⟨recC cJ,[]⟩,⟨[],[]⟩⟩=true
  rw[pN];simp[eC,cJ]
 ·show recC cJ=_;simp[cO,dO]
theorem xc{g0:σ}{k:Ks σ}{l:List Ak}{s:Nat}(h:iF ask g0 k l s){b:Bs}(hb:ku b)(hl:b.length≤4000):
 (dz k.jn b).2=0→(dz k.jn b).1=⟨⟨⟨k.jn.d.f0.safe,k.jn.d.f0.tail++recC b⟩,⟨[],[]⟩⟩,0,1⟩∧b6 (dz k.jn b).1.d=true:=by
 have hm:=u4 h
 unfold dz
 rw[if_pos ⟨hm.1,hb.1,hl⟩]
 unfold eJ
 rw[if_pos hm.2,h.at',h.gen]
 split
 ·rename_i hlen
  intro _
  show(⟨eD k.jn.d 0 ⟨k.jn.d.f0.safe,k.jn.d.f0.tail++recC b⟩,0,1⟩:Jn)=_∧_
  have e:eD k.jn.d 0 ⟨k.jn.d.f0.safe,k.jn.d.f0.tail++recC b⟩=⟨⟨k.jn.d.f0.safe,k.jn.d.f0.tail++recC b⟩,⟨[],[]⟩⟩:=by unfold eD;rw[if_pos rfl,h.f1]
  refine⟨by rw[e],?_⟩
  show b6 (eD k.jn.d 0 ⟨k.jn.d.f0.safe,k.jn.d.f0.tail++recC b⟩)=true
  rw[e,pN]
  refine⟨?_,by simp⟩
  have hlen:(bL k.jn.d.f0).length+(recC b).length≤65536:=hlen
  unfold bL at hlen
  simp only[List.length_append] at hlen ⊢
  omega
 ·intro hc
  have hc:(5:Int)=0:=hc
  omega
theorem yA{g0:σ}{k:Ks σ}{l:List Ak}{s:Nat}(h:iF ask g0 k l s)(a:Ak):
 ((dH ask k a).2.2=0→iF ask g0 (dH ask k a).1 (l++[a]) s)∧(¬(dH ask k a).2.2=0→(dH ask k a).1=k∧(dH ask k a).2.1=0):=by
 unfold dH
 by_cases h1:bC a=true
 ·rw[if_pos h1]
  by_cases h2:(ask k.g a).2.2=0
  ·rw[if_pos h2]
   by_cases h3:(dz k.jn (bY a).1).2=0
   ·rw[if_pos h3]
    refine⟨fun _=>?_,fun x=>absurd rfl x⟩
    obtain⟨e,hr⟩:=xc h (ra h1).1 (ra h1).2 h3
    rw[h.g] at h2
    refine⟨AF ask h.ok h1 h2,?_,?_,?_,hr,?_,?_,?_,?_⟩
    ·show(ask k.g a).1=_;rw[BJ,h.g]
    ·show(dz k.jn (bY a).1).1.at'=0;rw[e]
    ·show(dz k.jn (bY a).1).1.gen=1;rw[e]
    ·show(dz k.jn (bY a).1).1.d.f1=_;rw[e]
    ·have:=h.sl;simp;omega
    ·show(dz k.jn (bY a).1).1.d.f0.safe=_;rw[e,List.take_append_of_le_length h.sl];exact h.safe
    ·show(dz k.jn (bY a).1).1.d.f0.tail=_
     rw[e,List.drop_append_of_le_length h.sl]
     show k.jn.d.f0.tail++recC (bY a).1=_
     rw[h.tail];unfold dO;rw[List.map_append,vY];simp[cO]
   ·rw[if_neg h3]
    exact⟨fun x=>absurd x h3,fun _=>⟨rfl,rfl⟩⟩
  ·rw[if_neg h2]
   exact⟨fun x=>absurd x h2,fun _=>⟨rfl,rfl⟩⟩
 ·rw[if_neg h1]
  exact⟨fun x=>absurd (show(1:Int)=0 from x) aj,fun _=>⟨rfl,rfl⟩⟩
theorem Yi{g0:σ}{k:Ks σ}{l:List Ak}{s:Nat}(h:iF ask g0 k l s):(iY k).2=0∧iF ask g0 (iY k).1 l l.length∧(iY k).1.g=k.g:=by
 have hm:=u4 h
 have e:ia k.jn=(⟨⟨⟨bL k.jn.d.f0,[]⟩,⟨[],[]⟩⟩,0,1⟩,0):=by
  unfold ia iB
  rw[if_pos hm.1,if_pos hm.2,h.at',h.gen]
  unfold eD gn;rw[if_pos rfl,if_pos rfl,h.f1]
 unfold iY;rw[e,if_pos rfl]
 refine⟨rfl,⟨h.ok,h.g,rfl,rfl,?_,rfl,Nat.le_refl _,?_,?_⟩,rfl⟩
 ·have:=(pN.1 h.right).1
  rw[pN]
  simp only[bL,List.length_append,List.length_nil]
  omega
 ·show bL k.jn.d.f0=_
  rw[zx h,List.take_of_length_le (Nat.le_refl _)]
 ·show[]=_
  rw[List.drop_of_length_le (Nat.le_refl _)];rfl
theorem yL(l:List Ak)(n:Nat):dO (l.take n)=(dO l).take n:=by unfold dO;rw[List.map_take]
theorem QX{f:Fi}(n:Int):bL (kz n f)=(bL f).take (f.safe.length+n.toNat):=by
 unfold bL kz
 rw[List.append_nil,List.take_append,List.take_of_length_le (Nat.le_add_right _ _)]
 simp
end
theorem SY{b:Bs}{c:Ct}(h:dQ b=some c):(cB b).2=c.long∧∃r,(cB b).1=r::c.nC:=by
 unfold dQ at h
 cases e:(cB b).1 with
 |nil=>rw[e] at h;simp at h
 |cons r l=>
  rw[e] at h
  simp only at h
  split at h
  ·simp only[Option.some.injEq] at h;subst h;exact⟨rfl,r,rfl⟩
  ·simp at h
end Go.Kp
end
section
namespace Go.az
open Go Go.RowKit
theorem al.Tb{E:Env}{Q:Exit→St→Prop}{st:St}{ops:Array Oper}{l:List Oper}{dst:Option Tmp}{t ty:TypeId}{pos:String}{after:Array Edge}{x y:Operand}{kl kc:IntKind}{e:TypeId}{k n m:Nat}{zs zs':List AV}
 (hai:cL E.P t=some (e,k,n)) (hzv:cZ E.P e=some zs) (hx:st.ev x= .v (.int kl (m:Int))) (hy:st.ev y= .v (.int kc (m:Int))) (hl:zs'.length=zs.length) (hzz:∀(j:Nat) (z z':AV),zs[j]?=some z→zs'[j]?=some z'→z'=z∨(z= .aw∧∃q,z'= .sl none q [])) (hm:m≤1000) (hk:k≤1000) (hn:n≤100000)
 (h:al E ops l Q (St.put { st with tk:=st.tk++[m] } dst (.sl (some st.tk.length) k (List.replicate m (.agg zs'))))):al E ops (⟨dst,.makeSlice t x y,ty,pos,after,none⟩::l) Q st:=by
 intro w0 im0 cx a w h0 hG r
 refine wpList_step (fun K' hK'=>?_)
 have hw:Region.wanted ⟨dst,.makeSlice t x y,ty,pos,after,none⟩ (yielded ops a.tmps)=true:=rfl
 rw[if_pos hw]
 obtain⟨hu,hs,hk0,i,zv,hi,hz,hsize,hbytes,hzs⟩:=gj hai
 have hzl:zs=zv.cells.toList.map gS∧zs.all AV.eo=true:=by
  unfold cZ at hzv
  simp only[hi,hz,Option.bind_some] at hzv
  split at hzv
  ·rename_i hall
   simp only[Option.some.injEq] at hzv
   exact⟨hzv.symm,by rw[←hzv];exact hall⟩
  ·simp at hzv
 have ex:a.eval x= .int kl (m:Int):=by have:=r.ev x;rw[hx] at this;exact this.bc
 have ey:a.eval y= .int kc (m:Int):=by have:=r.ev y;rw[hy] at this;exact this.bc
 have hsz:m*i.size≤16777216:=by rw[hsize];exact Nat.le_trans (Nat.mul_le_mul hm hk) aj
 have hby:(i.bytes:Int)*(m:Int)≤281474976710656:=by
  rw[hbytes]
  have:n*m≤100000*1000:=Nat.mul_le_mul hn hm
  have h2:((n*m:Nat):Int)≤281474976710656:=by omega
  rwa[Int.natCast_mul] at h2
 have hrun:=run_makeSlice (P:=E.P) (w:=w) t e i zv hu hi hz kl kc (m:Int) (m:Int) ab (Int.le_refl _) (by simpa using hsz) hby ab
 simp only[Int.toNat_natCast] at hrun
 have hlen:zs.length=k:=by rw[hzl.1];simp[hzs]
 have hcells:Cells cx.im k (List.replicate m (.agg zs')) (madeCells zv.cells (m*i.size)).toList:=by
  refine⟨fun j z hj=>?_,fun j z q u hj hq=>?_⟩
  ·rw[List.getElem?_replicate] at hj
   split at hj
   ·simp only[Option.some.injEq] at hj;subst hj;exact hl.trans hlen
   ·simp at hj
  ·rw[List.getElem?_replicate] at hj
   split at hj
   ·rename_i hjm
    simp only[Option.some.injEq] at hj;subst hj
    have hq0:zs'[q]?=some u:=hq
    have hqk:q<k:=by rw[←hlen,←hl];exact bO hq0
    obtain⟨z,hq1⟩:∃z,zs[q]?=some z:=⟨_,List.getElem?_eq_getElem ab⟩
    have hqz:q<zv.cells.size:=by omega
    have hu1:z=gS zv.cells[q]:=by
     rw[hzl.1,List.getElem?_map] at hq1
     simp[hqz] at hq1
     exact hq1.symm
    have hlt:j*k+q<m*i.size:=by rw[hsize];exact lK hjm hqk
    have hmod:(j*k+q)%zv.cells.size=q:=by rw[hzs,Nat.mul_comm,Nat.mul_add_mod,Nat.mod_eq_of_lt hqk]
    refine⟨zv.cells[q],?_,?_⟩
    ·simp only[madeCells,Array.toList_map,List.getElem?_map,Array.toList_range,List.getElem?_range hlt,Option.map_some,hmod]
     simp[hqz]
    ·have hv:aT cx.im z zv.cells[q]:=by rw[hu1];exact pq _ _
     have hlf:z.eo=true:=List.all_eq_true.1 hzl.2 z (List.mem_of_getElem? hq1)
     refine⟨?_,VR.eo (c:=cx) (.base hv) hlf⟩
     rcases hzz q z u hq1 hq0 with rfl|⟨rfl,p,rfl⟩
     ·exact hv
     ·have:=(VR.base (c:=cx) hv).ez
      rw[this];exact .de p none 0
   ·simp at hj
 obtain⟨c',hle,r2,hv⟩:=r.qQ (ns w (.cells (madeCells zv.cells (m*i.size)) e)) (g:=w.heap.size) (k:=k) (cap:=m) (es:=List.replicate m (.agg zs')) (Nat.le_refl _) (js w _) (.inl rfl)
  (by rw[size_madeCells,hsize];exact Nat.le_refl _) aB hcells
 rw[List.length_replicate] at r2 hv
 refine eI (w':=w.alloc (.cells (madeCells zv.cells (m*i.size)) e)) (v:= .slice (some ⟨w.heap.size,0,none⟩) m m) ?_ (hK' _ _ (h w0 im0 _ _ _ h0 hG (r2.put dst hv)))
 simp only[execOp,ex,ey,Sem.run_bind,hrun,Result.andThen_ok,Sem.run_pure]
variable{w0:World}{im0:cU}{c:Ctx}{st:St}{a:Act}{w:World}
theorem Rel.BV(r:Rel w0 im0 c st a w){id idx j:Nat}{es cs:List AV}{x y:AV}(ho:st.own[id]?=some (some es))(he:es[idx]?=some (.agg cs))(hx:cs[j]?=some x)(hxn:x≠.any)(hy:∀v,VR c x v→VR c y v):
 Rel w0 im0 c { st with own:=st.own.set id (some (es.set idx (.agg (cs.set j y)))) } a w:=by
 have hlt:=bO ho
 have hilt:=bO he
 have conv:∀{i:Nat} {e:List AV},(st.own.set id (some (es.set idx (.agg (cs.set j y)))))[i]?=some (some e)→(i=id∧e=es.set idx (.agg (cs.set j y)))∨(i≠id∧st.own[i]?=some (some e)):=by
  intro i e he
  rw[List.getElem?_set] at he
  by_cases hi':id=i
  ·subst hi';rw[if_pos rfl,if_pos hlt] at he
   simp only[Option.some.injEq] at he;exact .inl ⟨rfl,he.symm⟩
  ·rw[if_neg hi'] at he;exact .inr ⟨Ne.symm hi',he⟩
 have old:∀{i:Nat} {e:List AV},(st.own.set id (some (es.set idx (.agg (cs.set j y)))))[i]?=some (some e)→∃e',st.own[i]?=some (some e'):=fun{i e} he=>by
  rcases conv he with⟨rfl,_⟩|⟨_,h⟩
  ·exact⟨_,ho⟩
  ·exact⟨_,h⟩
 refine⟨r.defers,r.size,r.tmps,r.below,r.c8,r.dp,r.ck,by simp[r.bS],fun i g k es' h1 h2=>?_,r.cH,r.tail,r.tok,
  ⟨fun i j g1 k1 g2 k2 e1 e2 a1 a2 a3 a4 hij=>by
    obtain⟨_,a3⟩:=old a3
    obtain⟨_,a4⟩:=old a4
    exact r.apart.oo i j g1 k1 g2 k2 _ _ a1 a2 a3 a4 hij,fun i t g1 k1 e1 T b a1 a2 a3 a4=>by
    obtain⟨_,a2⟩:=old a2
    exact r.apart.ot i t g1 k1 _ T b a1 a2 a3 a4,r.apart.tt⟩,r.dv,r.up,r.hole⟩
 rcases conv h2 with⟨rfl,rfl⟩|⟨_,h2⟩
 ·obtain⟨hnew,him,ds,ty,lo,hi,hblk,hfr,hsz,hlv,hcell⟩:=r.own i g k _ h1 ho
  refine⟨hnew,him,ds,ty,lo,hi,hblk,hfr,by rw[List.length_set];exact hsz,fun i' e he'=>?_,fun i' e j' z he' hz=>?_⟩
  ·rw[List.getElem?_set] at he'
   split at he'
   ·rename_i hi'
    (try rw[if_pos hilt] at he')
    simp only[Option.some.injEq] at he';subst he'
    have:=hlv idx _ he
    simpa[AV.leaves] using this
   ·exact hlv i' e he'
  ·rw[List.getElem?_set] at he'
   split at he'
   ·rename_i hi'
    subst hi'
    (try rw[if_pos hilt] at he')
    simp only[Option.some.injEq] at he';subst he'
    change(cs.set j y)[j']?=some z at hz
    rw[List.getElem?_set] at hz
    split at hz
    ·rename_i hj
     subst hj
     have hjl:=bO hx
     (try rw[if_pos hjl] at hz)
     simp only[Option.some.injEq] at hz;subst hz
     obtain⟨v,e1,e2,e3⟩:=hcell idx _ j x he hx
     exact⟨v,e1,hy v e2,.inr (e3.resolve_left hxn)⟩
    ·exact hcell idx _ j' z he hz
   ·exact hcell i' e j' z he' hz
 ·exact r.own i g k es' h1 h2
theorem aa.lH{E:Env}{c:Code}{Q:Exit→St→Prop}{s:St}(id idx j:Nat){t k:Nat}{es cs xs:List AV}(ho:s.own[id]?=some (some es))(he:es[idx]?=some (.agg cs))(hx:cs[j]?=some (.sl (some t) k xs))(hw:aa E c Q { s with own:=s.own.set id (some (es.set idx (.agg (cs.set j (.sl none k xs))))) }):aa E c Q s:=
 fun w0 im0 _ a w h0 hG r=>hw w0 im0 _ a w h0 hG (r.BV ho he hx aB (fun v hv=> .base hv.fu))
end Go.az
end
section
namespace Go.az
open Go Go.RowKit
theorem cu.drop{c:Ctx}{k:Nat}{es:List AV}{cs:List Value}(h:cu c k es cs)(d:Nat):cu c k (es.drop d) (cs.drop (d*k)):=by
 refine⟨fun i e he=>h.1 (d+i) e (by rwa[List.getElem?_drop] at he),fun i e j x he hx=>?_⟩
 rw[List.getElem?_drop] at he
 obtain⟨v,h1,h2⟩:=h.2 (d+i) e j x he hx
 refine⟨v,?_,h2⟩
 rw[List.getElem?_drop,←h1]
 congr 1
 rw[Nat.add_mul];omega
theorem cu.takeN{c:Ctx}{k:Nat}{es:List AV}{cs:List Value}(h:cu c k es cs)(d:Nat)(hd:d≤es.length):cu c k (es.take d) (cs.take (d*k)):=by
 have h2:cu c k (es.take d++es.drop d) cs:=by rw[List.take_append_drop];exact h
 have:=h2.take
 rwa[List.length_take,Nat.min_eq_left hd] at this
section
variable{P:Program}{w0:World}{im0:cU}{c:Ctx}{st:St}{a:Act}{w:World}
theorem DI(r:Rel w0 im0 c st a w){t tx ty e:TypeId}{k n':Nat}(hx:er P tx=true)(hai:cL P t=some (e,k,n')){id i j o cy:Nat}{es:List AV}{v xv:Value}
 (hv:VR c (.mu id k 0 i es.length) v) (hxv:VR c (.mu id k o j cy) xv) (ho:st.own[id]?=some (some es)) (hpos:0<es.length) (hij:i+j≤es.length) (hoj:o+j≤es.length) (hna:∀e∈(es.drop o).take j,∀x∈e.leaves,x≠.any):
 ∃v' w',(Builtin.append_ #[t,tx] ty #[v,xv]).run P w= .ok v' w'∧Rel w0 im0 c { st with own:=st.own.set id (some (es.take i++((es.drop o).take j++es.drop (i+j)))) } a w'∧VR c (.mu id k 0 (i+j) es.length) v':=by
 obtain⟨hu,hs,hk0,ii,zv,hi,hz,hsize,hbytes,hzs⟩:=gj hai
 rcases hv.cW with⟨g,hb,hcap,hve⟩|⟨_,hz2,_⟩
 rotate_left
 ·omega
 have hown:=r.own id g k _ hb ho
 obtain⟨cs,ty',lo,hi',hblk,hfr,hsz,hlv,hcell⟩:=hown.aZ
 rw[Nat.zero_mul] at hve
 have hoc:cu c k es cs.toList:=⟨hlv,fun i e j x he hx=>by obtain⟨u,h1,h2⟩:=hcell i e j x he hx;exact⟨u,by simpa using h1,h2⟩⟩
 have hq:cs.toList.length=cs.size:=Array.length_toList
 have hmul:(o+j)*k≤es.length*k:=Nat.mul_le_mul_right _ hoj
 have hmul2:(i+j)*k≤es.length*k:=Nat.mul_le_mul_right _ hij
 rw[Nat.add_mul] at hmul hmul2
 obtain⟨news,hnews⟩:∃news,news=(cs.toList.drop (o*k)).take (j*k):=⟨_,rfl⟩
 have hnl:news.length=j*k:=by rw[hnews,List.length_take,List.length_drop,hq];omega
 have hone:∀u∈news,u.oneCell'=true:=by
  intro u hu'
  obtain⟨q,hq'⟩:=List.mem_iff_getElem?.1 hu'
  rw[hnews,List.getElem?_take] at hq'
  split at hq'
  ·rename_i hqlt
   rw[List.getElem?_drop] at hq'
   have hdm:=Nat.div_add_mod q k
   have hmod:=Nat.mod_lt q hk0
   have hdiv:q/k<j:=Nat.div_lt_of_lt_mul (by rw[Nat.mul_comm];exact hqlt)
   have hel:es[o+q/k]?=some (es[o+q/k]' ab):=List.getElem?_eq_getElem ab
   have hlen:=hlv _ _ hel
   have hlf:(es[o+q/k]' ab).leaves[q%k]?=some ((es[o+q/k]' ab).leaves[q%k]' ab):=List.getElem?_eq_getElem ab
   obtain⟨v2,e1,e2,e3⟩:=hcell _ _ _ _ hel hlf
   have hidx:(o+q/k)*k+q%k=o*k+q:=by
    rw[Nat.add_mul,Nat.mul_comm (q/k) k];omega
   rw[hidx] at e1
   have:u=v2:=by
    have h1:cs.toList[o*k+q]?=some v2:=by simpa using e1
    rw[h1] at hq';exact(Option.some.inj hq').symm
   subst this
   refine e3.resolve_left (hna _ ?_ _ (List.mem_of_getElem? hlf))
   refine List.mem_iff_getElem?.2 ⟨q/k,?_⟩
   rw[List.getElem?_take,if_pos hdiv,List.getElem?_drop];exact hel
  ·simp at hq'
 have hlen:(Builtin.lenOf xv).run P w= .ok j w∧(Builtin.firstCells k j xv).run P w= .ok news.toArray w:=by
  rcases hxv.cW with⟨g2,hb2,hcap2,hxe⟩|⟨hj0,_,hxe⟩
  ·have hg:g2=g:=by rw[hb] at hb2;simp only[Option.some.injEq,Prod.mk.injEq] at hb2;exact hb2.1.symm
   subst hg
   rw[hxe]
   refine⟨by simp[Builtin.lenOf],?_⟩
   exact run_firstCells_some w k j ⟨g2,o*k,none⟩ j _ _ hnl (fun p u hp=>by
    rw[fC]
    rw[hnews,List.getElem?_take] at hp
    split at hp
    ·rw[List.getElem?_drop] at hp
     simp only[World.cell?,hblk,Option.isSome_none,Bool.false_eq_true,if_false];simpa using hp
    ·simp at hp)
  ·subst hj0
   rw[hxe]
   have:news=[]:=List.eq_nil_of_length_eq_zero (by rw[hnl];simp)
   rw[this]
   exact⟨by simp[Builtin.lenOf],run_firstCells_none w k 0 0 0⟩
 have hfro:∀o,o<cs.toList.length→¬(lo≤o∧o<hi'):=fun o h1 h2=>by
  have h1:o<cs.size:=by simpa using h1
  rcases hfr with h|h<;>omega
 have hcs:cs=cs.toList.toArray:=by simp
 have hfit2:i*k+0+news.length≤cs.toList.length:=by rw[hnl,hq];omega
 have hst:=lW (P:=P) g (i*k) ty' lo hi' news 0 cs.toList w (by rw[←hcs];exact hblk) hfro hfit2 hone
 rw[Nat.add_zero] at hst
 have hrun:=pQ (P:=P) (w:=w) (ty:=ty) (base:=some ⟨g,0,none⟩) (n:=i) (cap:=es.length) hu hs hx hlen.1 hlen.2 hij
 simp only[fC,Nat.zero_add,hst,Result.andThen_ok] at hrun
 have hcs'len:(ch cs.toList (i*k) news).length=cs.size:=by rw[gz];simp
 have hOC:cu c k (es.take i++((es.drop o).take j++es.drop (i+j))) (ch cs.toList (i*k) news):=by
  have e1:ch cs.toList (i*k) news=cs.toList.take (i*k)++(news++cs.toList.drop ((i+j)*k)):=by
   apply List.ext_getElem?
   intro p
   have htl:(cs.toList.take (i*k)).length=i*k:=by rw[List.length_take,hq];omega
   rw[jX _ _ _ _ (by simpa using hfit2)]
   by_cases hp:p<i*k
   ·rw[if_neg ab,List.getElem?_append_left (by rw[htl];exact hp),List.getElem?_take,if_pos hp]
   ·rw[List.getElem?_append_right (by rw[htl];omega),htl]
    by_cases hp2:p<i*k+news.length
    ·rw[if_pos ⟨by omega,hp2⟩,List.getElem?_append_left ab]
    ·rw[if_neg ab,List.getElem?_append_right ab,List.getElem?_drop,hnl,Nat.add_mul]
     congr 1;rw[hnl] at hp2;omega
  rw[e1]
  refine(hoc.takeN i ab).append (by rw[List.length_take,List.length_take,hq,Nat.min_eq_left (show i≤es.length by omega)];omega) ?_
  rw[hnews]
  refine((hoc.drop o).takeN j (by rw[List.length_drop];omega)).append (by rw[←hnews,hnl,List.length_take,List.length_drop,Nat.min_eq_left ab]) (hoc.drop (i+j))
 have hnewlen:(es.take i++((es.drop o).take j++es.drop (i+j))).length=es.length:=by simp only[List.length_append,List.length_take,List.length_drop];omega
 have hset:=r.oB (w':=w.setRow g (ch cs.toList (i*k) news).toArray) (es':=es.take i++((es.drop o).take j++es.drop (i+j))) hb ho (fun b hne=>setRow_other w g b _ hne) (below_setRow r.below hown.new _)
  ⟨(ch cs.toList (i*k) news).toArray,ty',lo,hi',setRow_heap w g cs _ ty' (lo,hi') hblk,by
    rcases hfr with h|h
    ·exact .inl h
    ·exact .inr (by simpa[gz] using h),by
    rw[hnewlen];simp only[List.size_toArray,hcs'len];exact hsz,hOC.1,fun i e j x he hx=>by
    obtain⟨u,h1,h2⟩:=hOC.2 i e j x he hx
    exact⟨u,by simpa using h1,h2⟩⟩
 refine⟨_,_,by rw[hve];exact hrun,hset,?_⟩
 have:=VR.mu (c:=c) (id:=id) (off:=0) (len:=i+j) (g:=g) (k:=k) (cap:=es.length) hb hij
 rw[Nat.zero_mul] at this
 exact this
end
section
variable{E:Env}{Q:Exit→St→Prop}{st:St}{ops:Array Oper}{l:List Oper}
theorem al.xm{dst:Option Tmp}{t tx ty:TypeId}{x y:Operand}{pos:String}{after:Array Edge}{e:TypeId}{k n' id i j o cy:Nat}{es:List AV}
 (hx:er E.P tx=true) (hai:cL E.P t=some (e,k,n')) (hs:st.ev x= .mu id k 0 i es.length) (hsy:st.ev y= .mu id k o j cy) (ho:st.own[id]?=some (some es)) (hpos:0<es.length) (hij:i+j≤es.length) (hoj:o+j≤es.length) (hna:∀e∈(es.drop o).take j,∀x∈e.leaves,x≠.any)
 (h:al E ops l Q (St.put { st with own:=st.own.set id (some (es.take i++((es.drop o).take j++es.drop (i+j)))) } dst (.mu id k 0 (i+j) es.length))):al E ops (⟨dst,.call ⟨.builtin .append,#[x,y],#[t,tx]⟩,ty,pos,after,none⟩::l) Q st:=by
 intro w0 im0 cx a w h0 hG r
 refine wpList_step (fun K' hK'=>?_)
 have hw:Region.wanted ⟨dst,.call ⟨.builtin .append,#[x,y],#[t,tx]⟩,ty,pos,after,none⟩ (yielded ops a.tmps)=true:=rfl
 rw[if_pos hw]
 have hv:=r.ev x
 have hvy:=r.ev y
 rw[hs] at hv;rw[hsy] at hvy
 obtain⟨v',w',h1,h2,h3⟩:=DI (P:=E.P) (ty:=ty) r hx hai hv hvy ho hpos hij hoj hna
 refine eI (w':=w') (v:=v') ?_ (hK' _ _ (h w0 im0 _ _ _ h0 hG (h2.put dst h3)))
 simp only[execOp,resolve,Sem.run_bind,Sem.run_pure,Result.andThen_ok,invoke,builtin,List.map_toArray,List.map_cons,List.map_nil,h1]
theorem E0{P:Program}{w:World}{len cap l h m:Nat}(h1:l≤h)(h2:h≤m)(h3:m≤cap):(Instr.sliceBounds true len cap (some (.int .i64 (l:Int))) (some (.int .i64 (h:Int))) (some (.int .i64 (m:Int)))).run P w= .ok (l,h,m) w:=by
 have e1:∀code,(Instr.sliceBound (.int .i64 (m:Int)) cap code).run P w= .ok m w:=fun code=>(ki ab ab).trans aB
 have e2:∀code,(Instr.sliceBound (.int .i64 (h:Int)) m code).run P w= .ok h w:=fun code=>(ki ab ab).trans aB
 have e3:∀code,(Instr.sliceBound (.int .i64 (l:Int)) h code).run P w= .ok l w:=fun code=>(ki ab ab).trans aB
 simp[Instr.sliceBounds,Sem.run_bind,e1,e2,e3]
theorem EZ{P:Program}{w:World}{len cap l h:Nat}(h1:l≤h)(h2:h≤cap):(Instr.sliceBounds true len cap (some (.int .i64 (l:Int))) (some (.int .i64 (h:Int))) none).run P w= .ok (l,h,cap) w:=by
 have e2:∀code,(Instr.sliceBound (.int .i64 (h:Int)) cap code).run P w= .ok h w:=fun code=>(ki ab ab).trans aB
 have e3:∀code,(Instr.sliceBound (.int .i64 (l:Int)) h code).run P w= .ok l w:=fun code=>(ki ab ab).trans aB
 simp[Instr.sliceBounds,Sem.run_bind,e2,e3]
theorem xJ{P:Program}{w:World}{len cap l:Nat}(h1:l≤len):(Instr.sliceBounds true len cap (some (.int .i64 (l:Int))) none none).run P w= .ok (l,len,cap) w:=by
 have e3:∀code,(Instr.sliceBound (.int .i64 (l:Int)) len code).run P w= .ok l w:=fun code=>(ki ab ab).trans aB
 simp[Instr.sliceBounds,Sem.run_bind,e3]
theorem al.XA{dst:Option Tmp}{t ty:TypeId}{x lo hi mx:Operand}{pos:String}{after:Array Edge}{e:TypeId}{k id off len cap l' h' m':Nat}
 (hu:E.P.underlying t=some (.slice e)) (hsz:bf E.P e=some k) (hs:st.ev x= .mu id k off len cap) (hl:st.ev lo=i64 (l':Int)) (hh:st.ev hi=i64 (h':Int)) (hm:st.ev mx=i64 (m':Int)) (h1:l'≤h') (h2:h'≤m') (h3:m'≤cap)
 (h:al E ops l Q (st.put dst .any)):al E ops (⟨dst,.slice t x (some lo) (some hi) (some mx),ty,pos,after,none⟩::l) Q st:=by
 intro w0 im0 cx a w h0' hG r
 refine wpList_step (fun K' hK'=>?_)
 have hw:Region.wanted ⟨dst,.slice t x (some lo) (some hi) (some mx),ty,pos,after,none⟩ (yielded ops a.tmps)=true:=rfl
 rw[if_pos hw]
 have hv:=r.ev x
 rw[hs] at hv
 have e1:a.eval lo= .int .i64 (l':Int):=by have:=r.ev lo;rw[hl] at this;exact this.bc
 have e2:a.eval hi= .int .i64 (h':Int):=by have:=r.ev hi;rw[hh] at this;exact this.bc
 have e3:a.eval mx= .int .i64 (m':Int):=by have:=r.ev mx;rw[hm] at this;exact this.bc
 have hval:∃u,(Instr.sliceAt t (a.eval x) (some (a.eval lo)) (some (a.eval hi)) (some (a.eval mx))).run E.P w= .ok u w:=by
  rw[e1,e2,e3]
  have key:∀(b:Option Addr) (len cap:Nat),m'≤cap→(Instr.sliceAt t (.slice b len cap) (some (.int .i64 (l':Int))) (some (.int .i64 (h':Int))) (some (.int .i64 (m':Int)))).run E.P w= .ok (.slice (if m'=l' then b else b.map (·.add (l'*k))) (h'-l') (m'-l')) w:=by
   intro b len cap hm3
   simp only[Instr.sliceAt,Sem.run_bind,bV hu,Result.andThen_ok,Instr.slice,E0 (P:=E.P) (w:=w) h1 h2 hm3,dq hsz,Sem.run_pure]
  rcases hv.cW with⟨g,hb,hcap,hve⟩|⟨hz,hz2,hve⟩
  ·rw[hve];exact⟨_,key _ _ _ h3⟩
  ·rw[hve];exact⟨_,key _ _ _ ab⟩
 obtain⟨u,hrun⟩:=hval
 refine eI (w':=w) (v:=u) ?_ (hK' _ _ (h w0 im0 _ _ _ h0' hG (r.put dst (.base (.any _)))))
 simp only[execOp,Option.map_some,Sem.run_bind,hrun,Result.andThen_ok,Sem.run_pure]
theorem al.BZ{dst:Option Tmp}{t ty:TypeId}{x lo hi:Operand}{pos:String}{after:Array Edge}{e:TypeId}{k id off len cap l' h':Nat}
 (hu:E.P.underlying t=some (.slice e)) (hsz:bf E.P e=some k) (hs:st.ev x= .mu id k off len cap) (hl:st.ev lo=i64 (l':Int)) (hh:st.ev hi=i64 (h':Int)) (h1:l'≤h') (h2:h'≤cap) (h3:l'<cap)
 (h:al E ops l Q (st.put dst (.mu id k (off+l') (h'-l') (cap-l')))):al E ops (⟨dst,.slice t x (some lo) (some hi) none,ty,pos,after,none⟩::l) Q st:=by
 intro w0 im0 cx a w h0' hG r
 refine wpList_step (fun K' hK'=>?_)
 have hw:Region.wanted ⟨dst,.slice t x (some lo) (some hi) none,ty,pos,after,none⟩ (yielded ops a.tmps)=true:=rfl
 rw[if_pos hw]
 have hv:=r.ev x
 rw[hs] at hv
 have e1:a.eval lo= .int .i64 (l':Int):=by have:=r.ev lo;rw[hl] at this;exact this.bc
 have e2:a.eval hi= .int .i64 (h':Int):=by have:=r.ev hi;rw[hh] at this;exact this.bc
 rcases hv.cW with⟨g,hb,hcap,hve⟩|⟨hz,hz2,_⟩
 rotate_left
 ·omega
 have hrun:(Instr.sliceAt t (a.eval x) (some (a.eval lo)) (some (a.eval hi)) none).run E.P w= .ok (.slice (some ⟨g,(off+l')*k,none⟩) (h'-l') (cap-l')) w:=by
  rw[e1,e2,hve]
  simp only[Instr.sliceAt,Sem.run_bind,bV hu,Result.andThen_ok,Instr.slice,EZ (P:=E.P) (w:=w) h1 h2,dq hsz,Sem.run_pure]
  have hne:¬cap=l':=by omega
  simp[hne,Addr.add,Nat.add_mul]
 refine eI (w':=w) (v:= .slice (some ⟨g,(off+l')*k,none⟩) (h'-l') (cap-l')) ?_ (hK' _ _ (h w0 im0 _ _ _ h0' hG (r.put dst (.mu hb ab))))
 simp only[execOp,Option.map_some,Option.map_none,Sem.run_bind,hrun,Result.andThen_ok,Sem.run_pure]
theorem al.B0{dst:Option Tmp}{t ty:TypeId}{x lo:Operand}{pos:String}{after:Array Edge}{e:TypeId}{k id off cap:Nat}
 (hu:E.P.underlying t=some (.slice e)) (hsz:bf E.P e=some k) (hs:st.ev x= .mu id k off cap cap) (hl:st.ev lo=i64 (cap:Int)) (hc:0<cap)
 (h:al E ops l Q (st.put dst (.mu id k off 0 0))):al E ops (⟨dst,.slice t x (some lo) none none,ty,pos,after,none⟩::l) Q st:=by
 intro w0 im0 cx a w h0' hG r
 refine wpList_step (fun K' hK'=>?_)
 have hw:Region.wanted ⟨dst,.slice t x (some lo) none none,ty,pos,after,none⟩ (yielded ops a.tmps)=true:=rfl
 rw[if_pos hw]
 have hv:=r.ev x
 rw[hs] at hv
 have e1:a.eval lo= .int .i64 (cap:Int):=by have:=r.ev lo;rw[hl] at this;exact this.bc
 rcases hv.cW with⟨g,hb,hcap,hve⟩|⟨hz,hz2,_⟩
 rotate_left
 ·omega
 have hrun:(Instr.sliceAt t (a.eval x) (some (a.eval lo)) none none).run E.P w= .ok (.slice (some ⟨g,off*k,none⟩) 0 0) w:=by
  rw[e1,hve]
  simp only[Instr.sliceAt,Sem.run_bind,bV hu,Result.andThen_ok,Instr.slice,xJ (P:=E.P) (w:=w) (Nat.le_refl _),dq hsz,Sem.run_pure]
  simp
 refine eI (w':=w) (v:= .slice (some ⟨g,off*k,none⟩) 0 0) ?_ (hK' _ _ (h w0 im0 _ _ _ h0' hG (r.put dst (.mu hb (Nat.le_refl _)))))
 simp only[execOp,Option.map_some,Option.map_none,Sem.run_bind,hrun,Result.andThen_ok,Sem.run_pure]
end
end Go.az
end
