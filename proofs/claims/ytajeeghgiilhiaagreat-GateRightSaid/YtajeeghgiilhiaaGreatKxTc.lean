/- (G38, G43) -/
import Derived.Test.YtajeeghgiilhiaaGreatKxR
import Derived.Test.YtajeeghgiilhiaaGreatKxTb
import Derived.Test.YtajeeghgiilhiaaGreatKxSb
import Derived.Test.YtajeeghgiilhiaaGreatKxS
import Derived.Test.YtajeeghgiilhiaaGreatKxA
set_option linter.unusedVariables false
set_option linter.unusedSimpArgs false
set_option maxHeartbeats 16000000
set_option maxRecDepth 8000
section
namespace Go.Proofs.YtajeeghgiilhiaaGreat
open Go Go.Abs Go.RowKit Go.Bk
theorem kI(g:Gt)(a:Ac)(hg:bP g)(ha:B7 a):ai E 34 [aO g,dA a] (fun r t=>r= .aC [aO (bp g a).1,i64 (bp g a).2.1,i64 (bp g a).2.2]∧t=[]):=by
 obtain⟨h1,h2,h3,h4⟩:=ha
 have h:a.kind%8=0∨a.kind%8=1∨a.kind%8=2∨a.kind%8=3∨a.kind%8=4∨a.kind%8=5∨a.kind%8=6∨a.kind%8=7:=by omega
 rcases h with h|h|h|h|h|h|h|h
 ·exact KY g a hg h1 ⟨h3,h4⟩ h
 ·exact Uf g a hg h1 ⟨h3,h4⟩ h
 ·exact Ju g a hg h1 ⟨h3,h4⟩ h
 ·exact Dv g a hg h1 ⟨h3,h4⟩ h
 ·exact YW g a hg h1 ⟨h3,h4⟩ h
 ·exact Ui g a hg h1 ⟨h3,h4⟩ h
 ·exact F1 g a hg h1 ⟨h3,h4⟩ h
 ·exact S8 g a hg h1 ⟨h3,h4⟩ h
section
variable{g:Gt}{k:Nat}{o:Od}{v:Vn}
end
def iR(a:Ac):Prop:=B7 a∧iF a.ex∧a.lim.acc.length≤9223372036854775807∧a.lim.sym.length≤9223372036854775807
theorem j8(g:Gt)(a:Ac)(hg:bP g)(hlm:cU g.aT)(ha:iR a):ai E 44 [aO g,dA a] (fun r t=>r= .aC [aO (bp g a).1,i64 (bp g a).2.1,i64 (bp g a).2.2]∧t=[]):=by
 obtain⟨⟨h1,h2,h3,h4⟩,hx,hl1,hl2⟩:=ha
 have h:a.kind%8=0∨a.kind%8=1∨a.kind%8=2∨a.kind%8=3∨a.kind%8=4∨a.kind%8=5∨a.kind%8=6∨a.kind%8=7:=by omega
 rcases h with h|h|h|h|h|h|h|h
 ·exact WK g a hg hlm h1 ⟨h3,h4⟩ hx hl1 hl2 h
 ·exact Fg g a hg hlm h1 ⟨h3,h4⟩ hx hl1 hl2 h
 ·exact DK g a hg hlm h1 ⟨h3,h4⟩ hx hl1 hl2 h
 ·exact FN g a hg hlm h1 ⟨h3,h4⟩ hx hl1 hl2 h
 ·exact E7 g a hg hlm h1 ⟨h3,h4⟩ hx hl1 hl2 h
 ·exact PD g a hg hlm h1 ⟨h3,h4⟩ hx hl1 hl2 h
 ·exact Og g a hg hlm h1 ⟨h3,h4⟩ hx hl1 hl2 h
 ·exact QJ g a hg hlm h1 ⟨h3,h4⟩ hx hl1 hl2 h
theorem Vz{g:Gt}(h:bt g=true):ai E 45 [aO g] (fun r t=>r=bl true∧t=[]):=by
 have e:=gk g (Ag h).fit
 rw[h] at e;exact e
theorem JT{g:Gt}(h:bt g=true):(gY g).length≤1000000:=by
 unfold gY;rw[if_pos h]
 exact Nat.le_trans (IG _) (vM h)
end Go.Proofs.YtajeeghgiilhiaaGreat
end
