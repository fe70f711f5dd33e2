/- A part of the proof: what the functions of the program come to, and what holds at all times. -/
import Derived.Deep.RegionWith
import Derived.Test.YtigeldkbfbcpmaaGreatM10
set_option linter.unusedVariables false
set_option linter.unusedSectionVars false
set_option linter.unusedSimpArgs false
set_option maxRecDepth 100000
set_option maxHeartbeats 8000000
namespace Go.Proofs.YtigeldkbfbcpmaaGreat.P09
open Go.RowKit Go.Kpt RatioPure HeapPure
def Two(W:World)(x y:Nat)(a b:Mk):Prop:=W.heap[x]?=some (.cells #[.int .u64 a.n,.int .u64 a.d,.int .i64 a.id] 248 (0,0))∧W.heap[y]?=some (.cells #[.int .u64 b.n,.int .u64 b.d,.int .i64 b.id] 248 (0,0))
theorem Two.kept{F:Nat→Prop}{w w':World}{x y:Nat}{a b:Mk}(h:Two w x y a b)(k:Kept F w w')(h1:¬ F x)(h2:¬ F y):Two w' x y a b:=
 ⟨(k.block x (lt_of h.1) h1).trans h.1,(k.block y (lt_of h.2) h2).trans h.2⟩
theorem Two.cells{W:World}{x y:Nat}{a b:Mk}(h:Two W x y a b):W.cell? ⟨x,0,none⟩=some (.int .u64 a.n)∧W.cell? ⟨x,1,none⟩=some (.int .u64 a.d)∧W.cell? ⟨x,2,none⟩=some (.int .i64 a.id)∧W.cell? ⟨y,0,none⟩=some (.int .u64 b.n)∧W.cell? ⟨y,1,none⟩=some (.int .u64 b.d)∧W.cell? ⟨y,2,none⟩=some (.int .i64 b.id):=
 ⟨cell_of h.1,cell_of h.1,cell_of h.1,cell_of h.2,cell_of h.2,cell_of h.2⟩
theorem less_any(a b:Mk)(w:World):Calls Tryz.prog 189 #[mv a,mv b] w fun e w'=>e=.returned (.bool (lt a b))∧Below w.heap.size w w':=by
 have hT:Two ((w.alloc (.cells #[.int .u64 a.n,.int .u64 a.d,.int .i64 a.id] 248)).alloc (.cells #[.int .u64 b.n,.int .u64 b.d,.int .i64 b.id] 248)) w.heap.size (w.heap.size+1) a b:=by
  refine⟨?_,?_⟩
  ·exact(Below.heap_alloc _ _ w.heap.size (by simp)).trans (heap_alloc_new _ _)
  ·have:=heap_alloc_new (w.alloc (.cells #[.int .u64 a.n,.int .u64 a.d,.int .i64 a.id] 248)) (.cells #[.int .u64 b.n,.int .u64 b.d,.int .i64 b.id] 248)
   rwa [World.size_alloc] at this
 have hB:Below w.heap.size w ((w.alloc (.cells #[.int .u64 a.n,.int .u64 a.d,.int .i64 a.id] 248)).alloc (.cells #[.int .u64 b.n,.int .u64 b.d,.int .i64 b.id] 248)):=by go_grown
 obtain⟨w2,hw2⟩:∃ w2,(w.alloc (.cells #[.int .u64 a.n,.int .u64 a.d,.int .i64 a.id] 248)).alloc (.cells #[.int .u64 b.n,.int .u64 b.d,.int .i64 b.id] 248)=w2:=⟨_,rfl⟩;rw[hw2] at hT hB;have hc:=fun W=>compare_any a.n a.d b.n b.d a.hn a.hd b.hn b.hd W;have hi:=fun W=>cmpI_any a.id b.id W;obtain⟨R,hR⟩:∃ R,lt a b=R:=⟨_,rfl⟩;have hRR:decide (orI (sgn (a.n*b.d) (b.n*a.d)) (sgnI a.id b.id) < 0)=R:=hR;rw[hR];have hor:=fun (V:World)=>or_any V.heap.size (sgn (a.n*b.d) (b.n*a.d)) (sgnI a.id b.id) (V.alloc (.cells #[.int .i64 (sgn (a.n*b.d) (b.n*a.d)),.int .i64 (sgnI a.id b.id)] 3)) (cell_of (heap_alloc_new _ _)) (cell_of (heap_alloc_new _ _));generalize sgn (a.n*b.d) (b.n*a.d)=s1 at *;generalize sgnI a.id b.id=s2 at *;generalize hoo:orI s1 s2=o at *;have HT:=Lib.hid (show ∀ W,Kept (fun _=>False) w2 W→Two W w.heap.size (w.heap.size+1) a b from fun W k=>hT.kept k (fun h=>h) (fun h=>h));have HB:=Lib.hid (show ∀ W,Kept (fun _=>False) w2 W→Below w.heap.size w W from fun W k=>hB.trans (k.below hB.size (fun _ _ h=>h)));obtain⟨e0,e1,e2,e3,e4,e5⟩:=hT.cells;clear hR hT hB hoo;go_enter Tryz.func189,Tryz.ntmps189
 go_wp2_with fail
 clear hw2;go_region_with (first
  | (go_at_call 199;refine(hc _).mono ?_;rintro e wb ⟨rfl,hBb⟩;have hkk:Kept (fun _=>False) w2 wb:=(by first | exact Kept.trans (by assumption) (Kept.of_below hBb) (fun _ _ h=>h) | exact((Kept.refl _ w2).drew).trans (Kept.of_below hBb) (fun _ _ h=>h));obtain⟨b0,b1,b2,b3,b4,b5⟩:=(HT.out _ hkk).cells)
  | (go_at_call 120;refine(hi _).mono ?_;rintro e wb ⟨rfl,rfl⟩)
  | (go_at_call 118;refine(hor _).mono ?_;rintro e wc ⟨rfl,rfl⟩))
 all_goals (go_wp2_with fail)
 all_goals go_ret
 all_goals exact⟨by rw[← hRR];rfl,HB.out _ (Kept.alloc (by assumption) _)⟩
theorem lessC:LessC:=less_any
end Go.Proofs.YtigeldkbfbcpmaaGreat.P09
