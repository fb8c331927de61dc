/- Texts of one chain, put together (Lz). -/
import Derived.Below
import Derived.Laws.CopyOwn
import Derived.KernelRfl
set_option linter.unusedVariables false
set_option linter.unusedSimpArgs false
set_option maxHeartbeats 16000000
set_option maxRecDepth 8000
namespace Go
theorem ab{P:Prop}(h:P:=by omega):P:=h
theorem af{P:Prop}(h:P:=by assumption):P:=h
theorem ae{P:Prop}(h:P:=by kernel_rfl):P:=h
theorem aj{P:Prop}(h:P:=by decide):P:=h
theorem aB{P:Prop}(h:P:=by simp):P:=h
theorem jo{P:Prop}(h:P:=by rfl):P:=h
end Go
section
namespace Go.az
open Go Go.RowKit
structure Below(D:Prop)(B:Nat)(w w':World):Prop extends Go.RowKit.Below B w w' where
 drawn:D→w.drawn≤w'.drawn
section
variable{D:Prop}
theorem Below.refl(B:Nat)(w:World):Below D B w w:=⟨.refl _ _,fun _=>Nat.le_refl _⟩
theorem Below.trans{B:Nat}{a b c:World}(h:Below D B a b)(k:Below D B b c):Below D B a c:=⟨h.toBelow.trans k.toBelow,fun d=>Nat.le_trans (h.drawn d) (k.drawn d)⟩
theorem Below.mono{B B':Nat}{w w':World}(h:Below D B w w')(hB:B'≤B):Below D B' w w':=⟨h.toBelow.mono hB,h.drawn⟩
theorem Below.drew{B:Nat}{a w:World}(h:Below D B a w):Below D B a w.drew:=⟨h.toBelow.drew,fun d=>Nat.le_succ_of_le (h.drawn d)⟩
theorem Below.alloc{B:Nat}{a w:World}(h:Below D B a w)(hB:B≤w.heap.size)(o:Obj):Below D B a (w.alloc o):=⟨h.toBelow.alloc hB o,h.drawn⟩
theorem Below.setCell{B:Nat}{a w:World}(h:Below D B a w){p:Addr}(hp:B≤p.block)(u:Value):Below D B a (w.setCell p u):=⟨h.toBelow.setCell hp u,h.drawn⟩
theorem Below.grown{B:Nat}{a w w':World}{row:Option Nat}(h:Below D B a w)(hg:w.grownBy w' row)(hB:B≤w.heap.size)(hr:∀k,row=some k→B≤k)(hd:w.drawn≤w'.drawn):Below D B a w':=⟨h.toBelow.grown hg hB hr,fun d=>Nat.le_trans (h.drawn d) hd⟩
theorem below_setRow{B g:Nat}{w0 w:World}(hb:Below D B w0 w)(hBg:B≤g)(cs:Array Value):Below D B w0 (w.setRow g cs):=⟨Go.below_setRow hb.toBelow hBg cs,hb.drawn⟩
theorem Below.heap_alloc(w:World)(o:Obj)(k:Nat)(h:k<w.heap.size):(w.alloc o).heap[k]?=w.heap[k]?:=Go.RowKit.Below.heap_alloc w o k h
theorem Below.heap_setCell(w:World)(a:Addr)(u:Value)(k:Nat)(h:k≠a.block):(w.setCell a u).heap[k]?=w.heap[k]?:=Go.RowKit.Below.heap_setCell w a u k h
theorem Below.Ds{D':Prop}{B:Nat}{w w':World}(h:Below D B w w')(k:D'→D):Below D' B w w':=⟨h.toBelow,fun d=>h.drawn (k d)⟩
end
end Go.az
end
