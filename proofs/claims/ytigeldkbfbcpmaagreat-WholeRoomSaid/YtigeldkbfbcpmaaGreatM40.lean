/- A part of the proof: what the functions of the program come to, and what holds at all times. -/
import Derived.StillTailTactics
import Derived.Test.YtigeldkbfbcpmaaGreatM39
import Derived.Test.YtigeldkbfbcpmaaGreatM08
import Derived.Test.YtigeldkbfbcpmaaGreatM30
set_option linter.unusedVariables false
set_option linter.unusedSectionVars false
set_option linter.unusedSimpArgs false
set_option maxRecDepth 100000
set_option maxHeartbeats 8000000
namespace Go.Proofs.YtigeldkbfbcpmaaGreat
open Go.RowKit Go.Kpt Go.Shelf Go.Maps
theorem act_6(s:St)(N:Nat)(hI:Inv s N none_)(hN:N < 4095)(hL:s.boxes.length≤996000000)(hout:s.out.isSome=true)(hU:UntOk s)(e:P16.Evt)(hr:∀ j,0≤e j)(hw1:(Lit.int .i64 (e 1)).wf=true)(hk:e 0=6)(A:Adr)(w0:World)(F0:Nat→Prop)(w:World)(h:Rs w0 F0 w s A):
  Calls Tryz.prog 28 #[.pointer (some ⟨A.core,0,none⟩),.agg (P16.evc e)] w fun r w'=>r=.returned (ansV (actS s e).2)∧Ry w0 F0 w' (actS s e).1 A.core:=by
 have hT:actS s e=callS s (e 1):=by unfold actS;rw[if_neg (by omega),if_neg (by omega),if_neg (by omega),if_neg (by omega),if_neg (by omega),if_neg (by omega),if_pos hk]
 rw[hT];have hr1:=hr 1;obtain⟨wa,Fx,hwa,hBa,hza,hE,hca,hRa,hFlt,HEV,HB,HANS⟩:=act_pre h e;obtain⟨v0,v1,v2,v3,v4,v5,v6,v7,v8,v9⟩:=hE.ten;rw[hk] at v0;have hc:Calls Tryz.prog 52 #[.pointer (some ⟨A.core,0,none⟩),.int .i64 (e 1)] wa fun r w'=>r=.returned (ansV (callS s (e 1)).2)∧Ry wa Fx w' (callS s (e 1)).1 A.core:=call_any s N hI hN (by omega) hout (e 1) hr1 A wa Fx wa hRa;obtain⟨⟨S,x0,x1,x2,x3⟩,hS⟩:∃ x,callS s (e 1)=x:=⟨_,rfl⟩;rw[hS] at hc ⊢;dsimp only[ansV] at hc ⊢;clear hT hS;clear h hBa hza hE hca hRa hr hr1 hI;simp only[P16.evc,hk] at hwa ⊢;go_enter Tryz.func28,Tryz.ntmps28
 go_wp2_with fail
 refine hc.mono ?_;clear hc v0 v1 v2 v3 v4 v5 v6 v7 v8 v9;rintro r9 w1 ⟨rfl,A1,hA1,hR1⟩;have hb:=HB.out _ _ _ hR1;obtain⟨a1,a2⟩:=HANS.out w1 _ _ (.int .i64 x0) (.int .i64 x1) (.int .i64 x2) (.int .i64 x3) hR1;have y0:=cell_of (j:=0) hb;have y1:=cell_of (j:=1) hb;have y2:=cell_of (j:=2) hb;have y3:=cell_of (j:=3) hb;have fz:=fun j=>frozen_of (j:=j) hb;have HA1:=Lib.hid a1;have HA2:=Lib.hid a2;clear hb a1 a2 hR1;go_wp2_with fail
 change bodyPost _ _ _ _ _ (set4 w1 (w.heap.size+1) (.int .i64 x0) (.int .i64 x1) (.int .i64 x2) (.int .i64 x3));generalize set4 w1 (w.heap.size+1) (.int .i64 x0) (.int .i64 x1) (.int .i64 x2) (.int .i64 x3)=W9 at *;have a0:=cell_of (j:=0) HA2.out;have a1:=cell_of (j:=1) HA2.out;have a2:=cell_of (j:=2) HA2.out;have a3:=cell_of (j:=3) HA2.out;refine bodyPost_ret (by simp[results,Tryz.results28,go_sem,a0,a1,a2,a3];try rfl) rfl ?_;refine⟨?_,A1,hA1,HA1.out⟩;rfl
theorem act_7(s:St)(N:Nat)(hI:Inv s N none_)(hN:N < 4095)(hL:s.boxes.length≤996000000)(hout:s.out.isSome=true)(hU:UntOk s)(e:P16.Evt)(hr:∀ j,0≤e j)(hw1:(Lit.int .i64 (e 1)).wf=true)(hk:e 0=7)(A:Adr)(w0:World)(F0:Nat→Prop)(w:World)(h:Rs w0 F0 w s A):
  Calls Tryz.prog 28 #[.pointer (some ⟨A.core,0,none⟩),.agg (P16.evc e)] w fun r w'=>r=.returned (ansV (actS s e).2)∧Ry w0 F0 w' (actS s e).1 A.core:=by
 have hT:actS s e=ansOf (bootedS s (e 1)):=by unfold actS;rw[if_neg (by omega),if_neg (by omega),if_neg (by omega),if_neg (by omega),if_neg (by omega),if_neg (by omega),if_neg (by omega),if_pos hk]
 rw[hT];have hr1:=hr 1;obtain⟨wa,Fx,hwa,hBa,hza,hE,hca,hRa,hFlt,HEV,HB,HANS⟩:=act_pre h e;obtain⟨v0,v1,v2,v3,v4,v5,v6,v7,v8,v9⟩:=hE.ten;rw[hk] at v0;have hc:Calls Tryz.prog 53 #[.pointer (some ⟨A.core,0,none⟩),.int .i64 (e 1)] wa fun r w'=>r=.returned (.int .i64 ((bootedS s (e 1)).2:Nat))∧Ry wa Fx w' (bootedS s (e 1)).1 A.core:=(booted53_any s N hI hN (by omega) hout A wa Fx (e 1) hw1 wa hRa).mono (fun r w' h9=>⟨h9.1,h9.2.ry⟩);obtain⟨⟨S,r⟩,hS⟩:∃ x,bootedS s (e 1)=x:=⟨_,rfl⟩;rw[hS] at hc ⊢;unfold ansOf;dsimp only at hc ⊢;clear hT hS;by_cases hz:r=0
 ·subst hz
  rw[if_pos rfl];have hc:Calls Tryz.prog 53 #[.pointer (some ⟨A.core,0,none⟩),.int .i64 (e 1)] wa fun r w'=>r=.returned (.int .i64 0)∧Ry wa Fx w' S A.core:=hc;clear h hBa hza hE hca hRa hr hr1 hI;simp only[P16.evc,hk] at hwa hc ⊢;go_enter Tryz.func28,Tryz.ntmps28
  go_wp2_with fail
  refine hc.mono ?_;clear hc v0 v1 v2 v3 v4 v5 v6 v7 v8 v9;rintro r w1 ⟨rfl,A1,hA1,hR1⟩;have hb:=HB.out _ _ _ hR1;obtain⟨a1,a2⟩:=HANS.out w1 _ _ (.int .i64 0) (.int .i64 0) (.int .i64 0) (.int .i64 0) hR1;have y0:=cell_of (j:=0) hb;have y1:=cell_of (j:=1) hb;have y2:=cell_of (j:=2) hb;have y3:=cell_of (j:=3) hb;have fz:=fun j=>frozen_of (j:=j) hb;have HA1:=Lib.hid a1;have HA2:=Lib.hid a2;clear hb a1 a2 hR1;go_wp2_with fail
  change bodyPost _ _ _ _ _ (set4 w1 (w.heap.size+1) (.int .i64 0) (.int .i64 0) (.int .i64 0) (.int .i64 0));generalize set4 w1 (w.heap.size+1) (.int .i64 0) (.int .i64 0) (.int .i64 0) (.int .i64 0)=W9 at *;have a0:=cell_of (j:=0) HA2.out;have a1:=cell_of (j:=1) HA2.out;have a2:=cell_of (j:=2) HA2.out;have a3:=cell_of (j:=3) HA2.out;refine bodyPost_ret (by simp[results,Tryz.results28,go_sem,a0,a1,a2,a3];try rfl) rfl ?_;refine⟨?_,A1,hA1,HA1.out⟩;rfl
 ·rw[if_neg hz]
  have hzz:¬ (r:Int)=0:=by omega
  clear hz;clear h hBa hza hE hca hRa hr hr1 hI;simp only[P16.evc,hk] at hwa hc ⊢;go_enter Tryz.func28,Tryz.ntmps28
  go_wp2_with fail
  refine hc.mono ?_;clear hc v0 v1 v2 v3 v4 v5 v6 v7 v8 v9;rintro r9 w1 ⟨rfl,A1,hA1,hR1⟩;have hb:=HB.out _ _ _ hR1;obtain⟨a1,a2⟩:=HANS.out w1 _ _ (.int .i64 1) (.int .i64 0) (.int .i64 0) (.int .i64 (r:Int)) hR1;have y0:=cell_of (j:=0) hb;have y1:=cell_of (j:=1) hb;have y2:=cell_of (j:=2) hb;have y3:=cell_of (j:=3) hb;have fz:=fun j=>frozen_of (j:=j) hb;have HA1:=Lib.hid a1;have HA2:=Lib.hid a2;clear hb a1 a2 hR1;go_wp2_with fail
  change bodyPost _ _ _ _ _ (set4 w1 (w.heap.size+1) (.int .i64 1) (.int .i64 0) (.int .i64 0) (.int .i64 (r:Int)));generalize set4 w1 (w.heap.size+1) (.int .i64 1) (.int .i64 0) (.int .i64 0) (.int .i64 (r:Int))=W9 at *;have a0:=cell_of (j:=0) HA2.out;have a1:=cell_of (j:=1) HA2.out;have a2:=cell_of (j:=2) HA2.out;have a3:=cell_of (j:=3) HA2.out;refine bodyPost_ret (by simp[results,Tryz.results28,go_sem,a0,a1,a2,a3];try rfl) rfl ?_;refine⟨?_,A1,hA1,HA1.out⟩;rfl
theorem act_8(s:St)(N:Nat)(hI:Inv s N none_)(hN:N < 4095)(hL:s.boxes.length≤996000000)(hout:s.out.isSome=true)(hU:UntOk s)(e:P16.Evt)(hr:∀ j,0≤e j)(hw1:(Lit.int .i64 (e 1)).wf=true)(hk:e 0=8)(A:Adr)(w0:World)(F0:Nat→Prop)(w:World)(h:Rs w0 F0 w s A):
  Calls Tryz.prog 28 #[.pointer (some ⟨A.core,0,none⟩),.agg (P16.evc e)] w fun r w'=>r=.returned (ansV (actS s e).2)∧Ry w0 F0 w' (actS s e).1 A.core:=by
 have hT:actS s e=ansOf (brokeS s (e 1)):=by unfold actS;rw[if_neg (by omega),if_neg (by omega),if_neg (by omega),if_neg (by omega),if_neg (by omega),if_neg (by omega),if_neg (by omega),if_neg (by omega),if_pos hk]
 rw[hT];have hr1:=hr 1;obtain⟨wa,Fx,hwa,hBa,hza,hE,hca,hRa,hFlt,HEV,HB,HANS⟩:=act_pre h e;obtain⟨v0,v1,v2,v3,v4,v5,v6,v7,v8,v9⟩:=hE.ten;rw[hk] at v0;have hc:Calls Tryz.prog 54 #[.pointer (some ⟨A.core,0,none⟩),.int .i64 (e 1)] wa fun r w'=>r=.returned (.int .i64 ((brokeS s (e 1)).2:Nat))∧Ry wa Fx w' (brokeS s (e 1)).1 A.core:=(broke_any s N hI hN (by omega) hout A wa Fx (e 1) hw1 wa hRa).mono (fun r w' h9=>⟨h9.1,h9.2.ry⟩);obtain⟨⟨S,r⟩,hS⟩:∃ x,brokeS s (e 1)=x:=⟨_,rfl⟩;rw[hS] at hc ⊢;unfold ansOf;dsimp only at hc ⊢;clear hT hS;by_cases hz:r=0
 ·subst hz
  rw[if_pos rfl];have hc:Calls Tryz.prog 54 #[.pointer (some ⟨A.core,0,none⟩),.int .i64 (e 1)] wa fun r w'=>r=.returned (.int .i64 0)∧Ry wa Fx w' S A.core:=hc;clear h hBa hza hE hca hRa hr hr1 hI;simp only[P16.evc,hk] at hwa hc ⊢;go_enter Tryz.func28,Tryz.ntmps28
  go_wp2_with fail
  refine hc.mono ?_;clear hc v0 v1 v2 v3 v4 v5 v6 v7 v8 v9;rintro r w1 ⟨rfl,A1,hA1,hR1⟩;have hb:=HB.out _ _ _ hR1;obtain⟨a1,a2⟩:=HANS.out w1 _ _ (.int .i64 0) (.int .i64 0) (.int .i64 0) (.int .i64 0) hR1;have y0:=cell_of (j:=0) hb;have y1:=cell_of (j:=1) hb;have y2:=cell_of (j:=2) hb;have y3:=cell_of (j:=3) hb;have fz:=fun j=>frozen_of (j:=j) hb;have HA1:=Lib.hid a1;have HA2:=Lib.hid a2;clear hb a1 a2 hR1;go_wp2_with fail
  change bodyPost _ _ _ _ _ (set4 w1 (w.heap.size+1) (.int .i64 0) (.int .i64 0) (.int .i64 0) (.int .i64 0));generalize set4 w1 (w.heap.size+1) (.int .i64 0) (.int .i64 0) (.int .i64 0) (.int .i64 0)=W9 at *;have a0:=cell_of (j:=0) HA2.out;have a1:=cell_of (j:=1) HA2.out;have a2:=cell_of (j:=2) HA2.out;have a3:=cell_of (j:=3) HA2.out;refine bodyPost_ret (by simp[results,Tryz.results28,go_sem,a0,a1,a2,a3];try rfl) rfl ?_;refine⟨?_,A1,hA1,HA1.out⟩;rfl
 ·rw[if_neg hz]
  have hzz:¬ (r:Int)=0:=by omega
  clear hz;clear h hBa hza hE hca hRa hr hr1 hI;simp only[P16.evc,hk] at hwa hc ⊢;go_enter Tryz.func28,Tryz.ntmps28
  go_wp2_with fail
  refine hc.mono ?_;clear hc v0 v1 v2 v3 v4 v5 v6 v7 v8 v9;rintro r9 w1 ⟨rfl,A1,hA1,hR1⟩;have hb:=HB.out _ _ _ hR1;obtain⟨a1,a2⟩:=HANS.out w1 _ _ (.int .i64 1) (.int .i64 0) (.int .i64 0) (.int .i64 (r:Int)) hR1;have y0:=cell_of (j:=0) hb;have y1:=cell_of (j:=1) hb;have y2:=cell_of (j:=2) hb;have y3:=cell_of (j:=3) hb;have fz:=fun j=>frozen_of (j:=j) hb;have HA1:=Lib.hid a1;have HA2:=Lib.hid a2;clear hb a1 a2 hR1;go_wp2_with fail
  change bodyPost _ _ _ _ _ (set4 w1 (w.heap.size+1) (.int .i64 1) (.int .i64 0) (.int .i64 0) (.int .i64 (r:Int)));generalize set4 w1 (w.heap.size+1) (.int .i64 1) (.int .i64 0) (.int .i64 0) (.int .i64 (r:Int))=W9 at *;have a0:=cell_of (j:=0) HA2.out;have a1:=cell_of (j:=1) HA2.out;have a2:=cell_of (j:=2) HA2.out;have a3:=cell_of (j:=3) HA2.out;refine bodyPost_ret (by simp[results,Tryz.results28,go_sem,a0,a1,a2,a3];try rfl) rfl ?_;refine⟨?_,A1,hA1,HA1.out⟩;rfl
theorem act_9(s:St)(N:Nat)(hI:Inv s N none_)(hN:N < 4095)(hL:s.boxes.length≤996000000)(hout:s.out.isSome=true)(hU:UntOk s)(e:P16.Evt)(hr:∀ j,0≤e j)(hw1:(Lit.int .i64 (e 1)).wf=true)(hk:e 0=9)(A:Adr)(w0:World)(F0:Nat→Prop)(w:World)(h:Rs w0 F0 w s A):
  Calls Tryz.prog 28 #[.pointer (some ⟨A.core,0,none⟩),.agg (P16.evc e)] w fun r w'=>r=.returned (ansV (actS s e).2)∧Ry w0 F0 w' (actS s e).1 A.core:=by
 have hT:actS s e=ansOf (doneS s (e 1)):=by unfold actS;rw[if_neg (by omega),if_neg (by omega),if_neg (by omega),if_neg (by omega),if_neg (by omega),if_neg (by omega),if_neg (by omega),if_neg (by omega),if_neg (by omega)]
 rw[hT];have hr1:=hr 1;obtain⟨wa,Fx,hwa,hBa,hza,hE,hca,hRa,hFlt,HEV,HB,HANS⟩:=act_pre h e;obtain⟨v0,v1,v2,v3,v4,v5,v6,v7,v8,v9⟩:=hE.ten;rw[hk] at v0;have hc:Calls Tryz.prog 55 #[.pointer (some ⟨A.core,0,none⟩),.int .i64 (e 1)] wa fun r w'=>r=.returned (.int .i64 ((doneS s (e 1)).2:Nat))∧Ry wa Fx w' (doneS s (e 1)).1 A.core:=(done55_any s N hI hN (by omega) hout A wa Fx (e 1) hw1 wa hRa).mono (fun r w' h9=>⟨h9.1,h9.2.ry⟩);obtain⟨⟨S,r⟩,hS⟩:∃ x,doneS s (e 1)=x:=⟨_,rfl⟩;rw[hS] at hc ⊢;unfold ansOf;dsimp only at hc ⊢;clear hT hS;by_cases hz:r=0
 ·subst hz
  rw[if_pos rfl];have hc:Calls Tryz.prog 55 #[.pointer (some ⟨A.core,0,none⟩),.int .i64 (e 1)] wa fun r w'=>r=.returned (.int .i64 0)∧Ry wa Fx w' S A.core:=hc;clear h hBa hza hE hca hRa hr hr1 hI;simp only[P16.evc,hk] at hwa hc ⊢;go_enter Tryz.func28,Tryz.ntmps28
  go_wp2_with fail
  refine hc.mono ?_;clear hc v0 v1 v2 v3 v4 v5 v6 v7 v8 v9;rintro r w1 ⟨rfl,A1,hA1,hR1⟩;have hb:=HB.out _ _ _ hR1;obtain⟨a1,a2⟩:=HANS.out w1 _ _ (.int .i64 0) (.int .i64 0) (.int .i64 0) (.int .i64 0) hR1;have y0:=cell_of (j:=0) hb;have y1:=cell_of (j:=1) hb;have y2:=cell_of (j:=2) hb;have y3:=cell_of (j:=3) hb;have fz:=fun j=>frozen_of (j:=j) hb;have HA1:=Lib.hid a1;have HA2:=Lib.hid a2;clear hb a1 a2 hR1;go_wp2_with fail
  change bodyPost _ _ _ _ _ (set4 w1 (w.heap.size+1) (.int .i64 0) (.int .i64 0) (.int .i64 0) (.int .i64 0));generalize set4 w1 (w.heap.size+1) (.int .i64 0) (.int .i64 0) (.int .i64 0) (.int .i64 0)=W9 at *;have a0:=cell_of (j:=0) HA2.out;have a1:=cell_of (j:=1) HA2.out;have a2:=cell_of (j:=2) HA2.out;have a3:=cell_of (j:=3) HA2.out;refine bodyPost_ret (by simp[results,Tryz.results28,go_sem,a0,a1,a2,a3];try rfl) rfl ?_;refine⟨?_,A1,hA1,HA1.out⟩;rfl
 ·rw[if_neg hz]
  have hzz:¬ (r:Int)=0:=by omega
  clear hz;clear h hBa hza hE hca hRa hr hr1 hI;simp only[P16.evc,hk] at hwa hc ⊢;go_enter Tryz.func28,Tryz.ntmps28
  go_wp2_with fail
  refine hc.mono ?_;clear hc v0 v1 v2 v3 v4 v5 v6 v7 v8 v9;rintro r9 w1 ⟨rfl,A1,hA1,hR1⟩;have hb:=HB.out _ _ _ hR1;obtain⟨a1,a2⟩:=HANS.out w1 _ _ (.int .i64 1) (.int .i64 0) (.int .i64 0) (.int .i64 (r:Int)) hR1;have y0:=cell_of (j:=0) hb;have y1:=cell_of (j:=1) hb;have y2:=cell_of (j:=2) hb;have y3:=cell_of (j:=3) hb;have fz:=fun j=>frozen_of (j:=j) hb;have HA1:=Lib.hid a1;have HA2:=Lib.hid a2;clear hb a1 a2 hR1;go_wp2_with fail
  change bodyPost _ _ _ _ _ (set4 w1 (w.heap.size+1) (.int .i64 1) (.int .i64 0) (.int .i64 0) (.int .i64 (r:Int)));generalize set4 w1 (w.heap.size+1) (.int .i64 1) (.int .i64 0) (.int .i64 0) (.int .i64 (r:Int))=W9 at *;have a0:=cell_of (j:=0) HA2.out;have a1:=cell_of (j:=1) HA2.out;have a2:=cell_of (j:=2) HA2.out;have a3:=cell_of (j:=3) HA2.out;refine bodyPost_ret (by simp[results,Tryz.results28,go_sem,a0,a1,a2,a3];try rfl) rfl ?_;refine⟨?_,A1,hA1,HA1.out⟩;rfl
theorem act_3arg(s:St)(N:Nat)(hI:Inv s N none_)(hN:N < 4095)(hL:s.boxes.length≤996000000)(hout:s.out.isSome=true)(hU:UntOk s)(e:P16.Evt)(hr:∀ j,0≤e j)(hw1:(Lit.int .i64 (e 1)).wf=true)(hk:e 0=3)(hb:e 1≥32∨e 3 < 1∨e 3 > 4096)(A:Adr)(w0:World)(F0:Nat→Prop)(w:World)(h:Rs w0 F0 w s A):
  Calls Tryz.prog 28 #[.pointer (some ⟨A.core,0,none⟩),.agg (P16.evc e)] w fun r w'=>r=.returned (ansV (actS s e).2)∧Ry w0 F0 w' (actS s e).1 A.core:=by
 have hT:actS s e=ansOf (hostS s e):=by unfold actS;rw[if_neg (by omega),if_neg (by omega),if_neg (by omega),if_pos hk]
 rw[hT];rw[hostS_arg hb];unfold ansOf;dsimp only;rw[if_neg (by decide)];have hr1:=hr 1;obtain⟨wa,Fx,hwa,hBa,hza,hE,hca,hRa,hFlt,HEV,HB,HANS⟩:=act_pre h e;obtain⟨v0,v1,v2,v3,v4,v5,v6,v7,v8,v9⟩:=hE.ten;rw[hk] at v0;have hc:=(add_rs hRa.drew (e 1) (e 3) hr1).1 hb;have d5:=hRa.drew.cc.2.2.2.2.2.1;obtain⟨-,d1,-,d3,-⟩:=(HEV.out wa.drew s A hRa.drew).ten;clear hT hb;clear h hBa hza hE hca hRa hr hr1 hI;simp only[P16.evc,hk] at hwa ⊢;go_enter Tryz.func28,Tryz.ntmps28
 go_wp2_with fail
 refine wp_region_still_tail 8 (by kernel_rfl) (by kernel_rfl) ?_;simp only[List.take_succ_cons,List.take_zero,List.drop_succ_cons,List.drop_zero]
 repeat still_step
 refine wpStill_nil ?_;change wpList _ _ _ _ _ wa.drew;go_wp2_with fail
 refine hc.mono ?_;clear hc v0 v1 v2 v3 v4 v5 v6 v7 v8 v9 d5 d1 d3;rintro r9 w1 ⟨rfl,hR1⟩;have hb:=HB.out _ _ _ hR1;obtain⟨a1,a2⟩:=HANS.out w1 _ _ (.int .i64 1) (.int .i64 0) (.int .i64 0) (.int .i64 1) hR1;have y0:=cell_of (j:=0) hb;have y1:=cell_of (j:=1) hb;have y2:=cell_of (j:=2) hb;have y3:=cell_of (j:=3) hb;have fz:=fun j=>frozen_of (j:=j) hb;have HA1:=Lib.hid a1;have HA2:=Lib.hid a2;clear hb a1 a2 hR1;go_wp2_with fail
 change bodyPost _ _ _ _ _ (set4 w1 (w.heap.size+1) (.int .i64 1) (.int .i64 0) (.int .i64 0) (.int .i64 1));generalize set4 w1 (w.heap.size+1) (.int .i64 1) (.int .i64 0) (.int .i64 0) (.int .i64 1)=W9 at *;have a0:=cell_of (j:=0) HA2.out;have a1:=cell_of (j:=1) HA2.out;have a2:=cell_of (j:=2) HA2.out;have a3:=cell_of (j:=3) HA2.out;refine bodyPost_ret (by simp[results,Tryz.results28,go_sem,a0,a1,a2,a3];try rfl) rfl ?_;refine⟨?_,A,rfl,HA1.out⟩;rfl
theorem act_3st(s:St)(N:Nat)(hI:Inv s N none_)(hN:N < 4095)(hL:s.boxes.length≤996000000)(hout:s.out.isSome=true)(hU:UntOk s)(e:P16.Evt)(hr:∀ j,0≤e j)(hw1:(Lit.int .i64 (e 1)).wf=true)(hk:e 0=3)(hb:¬ (e 1≥32∨e 3 < 1∨e 3 > 4096))(ht:(s.hosts (e 1).toNat).th=true)(A:Adr)(w0:World)(F0:Nat→Prop)(w:World)(h:Rs w0 F0 w s A):
  Calls Tryz.prog 28 #[.pointer (some ⟨A.core,0,none⟩),.agg (P16.evc e)] w fun r w'=>r=.returned (ansV (actS s e).2)∧Ry w0 F0 w' (actS s e).1 A.core:=by
 have hT:actS s e=ansOf (hostS s e):=by unfold actS;rw[if_neg (by omega),if_neg (by omega),if_neg (by omega),if_pos hk]
 rw[hT];rw[hostS_st hb ht];unfold ansOf;dsimp only;rw[if_neg (by decide)];have hr1:=hr 1;obtain⟨wa,Fx,hwa,hBa,hza,hE,hca,hRa,hFlt,HEV,HB,HANS⟩:=act_pre h e;obtain⟨v0,v1,v2,v3,v4,v5,v6,v7,v8,v9⟩:=hE.ten;rw[hk] at v0;have hc:=(add_rs hRa.drew (e 1) (e 3) hr1).2.1 hb ht;have d5:=hRa.drew.cc.2.2.2.2.2.1;obtain⟨-,d1,-,d3,-⟩:=(HEV.out wa.drew s A hRa.drew).ten;clear hT hb ht;clear h hBa hza hE hca hRa hr hr1 hI;simp only[P16.evc,hk] at hwa ⊢;go_enter Tryz.func28,Tryz.ntmps28
 go_wp2_with fail
 refine wp_region_still_tail 8 (by kernel_rfl) (by kernel_rfl) ?_;simp only[List.take_succ_cons,List.take_zero,List.drop_succ_cons,List.drop_zero]
 repeat still_step
 refine wpStill_nil ?_;change wpList _ _ _ _ _ wa.drew;go_wp2_with fail
 refine hc.mono ?_;clear hc v0 v1 v2 v3 v4 v5 v6 v7 v8 v9 d5 d1 d3;rintro r9 w1 ⟨rfl,hR1⟩;have hb:=HB.out _ _ _ hR1;obtain⟨a1,a2⟩:=HANS.out w1 _ _ (.int .i64 1) (.int .i64 0) (.int .i64 0) (.int .i64 3) hR1;have y0:=cell_of (j:=0) hb;have y1:=cell_of (j:=1) hb;have y2:=cell_of (j:=2) hb;have y3:=cell_of (j:=3) hb;have fz:=fun j=>frozen_of (j:=j) hb;have HA1:=Lib.hid a1;have HA2:=Lib.hid a2;clear hb a1 a2 hR1;go_wp2_with fail
 change bodyPost _ _ _ _ _ (set4 w1 (w.heap.size+1) (.int .i64 1) (.int .i64 0) (.int .i64 0) (.int .i64 3));generalize set4 w1 (w.heap.size+1) (.int .i64 1) (.int .i64 0) (.int .i64 0) (.int .i64 3)=W9 at *;have a0:=cell_of (j:=0) HA2.out;have a1:=cell_of (j:=1) HA2.out;have a2:=cell_of (j:=2) HA2.out;have a3:=cell_of (j:=3) HA2.out;refine bodyPost_ret (by simp[results,Tryz.results28,go_sem,a0,a1,a2,a3];try rfl) rfl ?_;refine⟨?_,A,rfl,HA1.out⟩;rfl
theorem act_3ok(s:St)(N:Nat)(hI:Inv s N none_)(hN:N < 4095)(hL:s.boxes.length≤996000000)(hout:s.out.isSome=true)(hU:UntOk s)(e:P16.Evt)(hr:∀ j,0≤e j)(hw1:(Lit.int .i64 (e 1)).wf=true)(hk:e 0=3)(hb:¬ (e 1≥32∨e 3 < 1∨e 3 > 4096))(ht:¬ (s.hosts (e 1).toNat).th=true)(A:Adr)(w0:World)(F0:Nat→Prop)(w:World)(h:Rs w0 F0 w s A):
  Calls Tryz.prog 28 #[.pointer (some ⟨A.core,0,none⟩),.agg (P16.evc e)] w fun r w'=>r=.returned (ansV (actS s e).2)∧Ry w0 F0 w' (actS s e).1 A.core:=by
 have hT:actS s e=ansOf (hostS s e):=by unfold actS;rw[if_neg (by omega),if_neg (by omega),if_neg (by omega),if_pos hk]
 rw[hT];rw[hostS_yes hb ht];unfold ansOf;dsimp only;rw[if_pos rfl];have hr1:=hr 1;obtain⟨wa,Fx,hwa,hBa,hza,hE,hca,hRa,hFlt,HEV,HB,HANS⟩:=act_pre h e;obtain⟨v0,v1,v2,v3,v4,v5,v6,v7,v8,v9⟩:=hE.ten;rw[hk] at v0;have hc:=(add_rs hRa.drew (e 1) (e 3) hr1).2.2 hb ht;have d5:=hRa.drew.cc.2.2.2.2.2.1;obtain⟨-,d1,-,d3,-⟩:=(HEV.out wa.drew s A hRa.drew).ten;have hTI:=hI.hostT_ (e:=e) (by omega) (by omega) ht;have HKA:Hid (∀ W,Rs wa Fx W (hostT s e) A→Calls Tryz.prog 49 #[.pointer (some ⟨A.core,0,none⟩)] W fun r w'=>r=.returned (.tuple #[])∧Ry wa Fx w' (keepAllS (hostT s e)) A.core):=fun W h'=>(keepAll_any (hostT s e) N hTI hN (by show s.boxes.length≤_;omega) hout A wa Fx W h').mono (fun r w' h9=>⟨h9.1,h9.2.ry⟩);have HNI:Hid (∀ W,Rs wa Fx W { s with hosts:=P13.put s.hosts (e 1).toNat ⟨true,false,e 3,0⟩ } A→W.cell? ⟨A.core,6,none⟩=some (.map (some A.cacM))∧W.cell? ⟨w.heap.size,1,none⟩=some (.int .i64 (e 1))∧∃ w',(Instr.mapUpdate 83 (.map (some A.cacM)) (.int .i64 (e 1)) (.pointer none)).run Tryz.prog W=.ok () w'∧Rs wa Fx w' (hostT s e) A):=fun W h'=>by
  obtain⟨-,k1,-⟩:=(HEV.out W _ A h').ten;obtain⟨w',r1,r2,-,-⟩:=cacNil_rs h' (e 1).toNat (by omega);rw[show (((e 1).toNat:Nat):Int)=e 1 by omega] at r1;exact⟨h'.cc.2.2.2.2.2.2.1,k1,w',r1,r2⟩
 obtain⟨S,hS⟩:∃ x,keepAllS (hostT s e)=x:=⟨_,rfl⟩;rw[hS] at HKA ⊢;clear hT hb ht hTI hS;clear h hBa hza hE hca hRa hr hr1 hI;simp only[P16.evc,hk] at hwa ⊢;go_enter Tryz.func28,Tryz.ntmps28
 go_wp2_with fail
 refine wp_region_still_tail 8 (by kernel_rfl) (by kernel_rfl) ?_;simp only[List.take_succ_cons,List.take_zero,List.drop_succ_cons,List.drop_zero]
 repeat still_step
 refine wpStill_nil ?_;change wpList _ _ _ _ _ wa.drew;go_wp2_with fail
 refine hc.mono ?_;clear hc v0 v1 v2 v3 v4 v5 v6 v7 v8 v9 d5 d1 d3;rintro r9 w1 ⟨rfl,hR1⟩;obtain⟨c6,c1,w2,hrun,hR2⟩:=HNI.out w1.drew hR1.drew;clear hR1;have hka:=HKA.out _ hR2;clear hR2;go_wp2_with fail
 refine wp_region_still_tail 6 (by kernel_rfl) (by kernel_rfl) ?_;simp only[List.take_succ_cons,List.take_zero,List.drop_succ_cons,List.drop_zero]
 repeat still_step
 refine wpStill_nil ?_;change wpList _ _ _ _ _ w1.drew;go_wp2_with fail
 clear hrun c6 c1;refine hka.mono ?_;clear hka;rintro r10 w3 ⟨rfl,A1,hA1,hR3⟩;have hb:=HB.out _ _ _ hR3;obtain⟨a1,a2⟩:=HANS.out w3 _ _ (.int .i64 0) (.int .i64 0) (.int .i64 0) (.int .i64 0) hR3;have y0:=cell_of (j:=0) hb;have y1:=cell_of (j:=1) hb;have y2:=cell_of (j:=2) hb;have y3:=cell_of (j:=3) hb;have fz:=fun j=>frozen_of (j:=j) hb;have HA1:=Lib.hid a1;have HA2:=Lib.hid a2;clear hb a1 a2 hR3;go_wp2_with fail
 change bodyPost _ _ _ _ _ (set4 w3 (w.heap.size+1) (.int .i64 0) (.int .i64 0) (.int .i64 0) (.int .i64 0));generalize set4 w3 (w.heap.size+1) (.int .i64 0) (.int .i64 0) (.int .i64 0) (.int .i64 0)=W9 at *;have a0:=cell_of (j:=0) HA2.out;have a1:=cell_of (j:=1) HA2.out;have a2:=cell_of (j:=2) HA2.out;have a3:=cell_of (j:=3) HA2.out;refine bodyPost_ret (by simp[results,Tryz.results28,go_sem,a0,a1,a2,a3];try rfl) rfl ?_;refine⟨?_,A1,hA1,HA1.out⟩;rfl
theorem act_any(s:St)(N:Nat)(hI:Inv s N none_)(hN:N < 4095)(hL:s.boxes.length≤996000000)(hout:s.out.isSome=true)(hU:UntOk s)(e:P16.Evt)(hr:∀ j,0≤e j)(hr9:e 0≤9)(hw1:(Lit.int .i64 (e 1)).wf=true)(A:Adr)(w0:World)(F0:Nat→Prop)(w:World)(h:Rs w0 F0 w s A):
  Calls Tryz.prog 28 #[.pointer (some ⟨A.core,0,none⟩),.agg (P16.evc e)] w fun r w'=>r=.returned (ansV (actS s e).2)∧Ry w0 F0 w' (actS s e).1 A.core:=by
 have h0:=hr 0;have hk:e 0=0∨e 0=1∨e 0=2∨e 0=3∨e 0=4∨e 0=5∨e 0=6∨e 0=7∨e 0=8∨e 0=9:=by omega
 rcases hk with hk|hk|hk|hk|hk|hk|hk|hk|hk|hk
 ·exact act_0 s N hI hN hL hout hU e hr hw1 hk A w0 F0 w h
 ·exact act_1 s N hI hN hL hout hU e hr hw1 hk A w0 F0 w h
 ·exact act_2 s N hI hN hL hout hU e hr hw1 hk A w0 F0 w h
 ·by_cases hb:e 1≥32∨e 3 < 1∨e 3 > 4096
  ·exact act_3arg s N hI hN hL hout hU e hr hw1 hk hb A w0 F0 w h
  ·by_cases ht:(s.hosts (e 1).toNat).th=true
   ·exact act_3st s N hI hN hL hout hU e hr hw1 hk hb ht A w0 F0 w h
   ·exact act_3ok s N hI hN hL hout hU e hr hw1 hk hb ht A w0 F0 w h
 ·exact act_4 s N hI hN hL hout hU e hr hw1 hk A w0 F0 w h
 ·exact act_5 s N hI hN hL hout hU e hr hw1 hk A w0 F0 w h
 ·exact act_6 s N hI hN hL hout hU e hr hw1 hk A w0 F0 w h
 ·exact act_7 s N hI hN hL hout hU e hr hw1 hk A w0 F0 w h
 ·exact act_8 s N hI hN hL hout hU e hr hw1 hk A w0 F0 w h
 ·exact act_9 s N hI hN hL hout hU e hr hw1 hk A w0 F0 w h
theorem outNil_rs{w0 w:World}{F0:Nat→Prop}{s:St}{A:Adr}(h:Rs w0 F0 w s A):Rs w0 F0 (w.setCell ⟨A.core,10,none⟩ (.slice none 0 0)) { s with out:=some [] } A:=by
 obtain⟨G,hGF,hGlt,hat,hnext⟩:=h.1.part .core;obtain⟨h1,ov,h2,h3⟩:=hat;have k:Kept (fun x=>x=A.core) w (w.setCell ⟨A.core,10,none⟩ (.slice none 0 0)):=Kept.set1 _ _ _ _;have hK:Kept G w (w.setCell ⟨A.core,10,none⟩ (.slice none 0 0)):=k.mono (fun b _ e=>by rw[e];exact h1);have hb:(w.setCell ⟨A.core,10,none⟩ (.slice none 0 0)).heap[A.core]?=some (.cells (coreCells { s with out:=some [] } A (.slice none 0 0)) 96 (0,0)):=set_same (i:=10) _ h2;refine h.next (hnext _ _ A hK ⟨.inl h1,.slice none 0 0,hb,fun l hl=>?_⟩ (fun q hq W H hH=>?_)) (Kept.grow hK hGF)
 ·cases hl
  exact⟨World.ownsRow_nil _ 0 43 4,fun g hg=>by cases hg⟩
 ·cases q with
  | core=>exact absurd rfl hq
  | _=>exact hH
def ansPut(a:Nat→Int)(k:Nat)(v:Int):Nat→Int:=fun j=>if j=k then v else a j
theorem coreCells_ans(s:St)(A:Adr)(ov:Value)(k:Nat)(hk:k < 5)(v:Int):(coreCells s A ov).setIfInBounds (11+k) (.int .i64 v)=coreCells { s with ans:=ansPut s.ans k v } A ov:=by
 rcases (by omega:k=0∨k=1∨k=2∨k=3∨k=4) with rfl|rfl|rfl|rfl|rfl <;> rfl
theorem ans_rs{w0 w:World}{F0:Nat→Prop}{s:St}{A:Adr}(h:Rs w0 F0 w s A)(k:Nat)(hk:k < 5)(v:Int):
  w.cell? ⟨A.core,11+k,none⟩=some (.int .i64 (s.ans k))∧w.frozen? ⟨A.core,11+k,none⟩=false∧Rs w0 F0 (w.setCell ⟨A.core,11+k,none⟩ (.int .i64 v)) { s with ans:=ansPut s.ans k v } A:=by
 obtain⟨ov,hc,hn⟩:=h.1.numTurn;refine⟨?_,frozen_of hc,?_⟩
 ·rcases (by omega:k=0∨k=1∨k=2∨k=3∨k=4) with rfl | rfl | rfl | rfl | rfl <;> exact(cell_of hc).trans rfl
 ·have hs:=set_same (i:=11+k) (.int .i64 v) hc
  rw[coreCells_ans s A ov k hk v] at hs;obtain⟨r1,r2⟩:=hn _ s.now s.next (ansPut s.ans k v) hs (Kept.set1 _ _ _ _);exact h.next r1 r2
theorem Sys.release{w:World}{s:St}{A:Adr}{F:Nat→Prop}(h:Sys w s A F)(l:List Cmd)(hl:s.out=some l):
  ∃ (ov:Value) (F':Nat→Prop),w.cell? ⟨A.core,10,none⟩=some ov∧Sys w { s with out:=none } A F'∧(∀ x,F' x→F x∧x < w.heap.size)∧w.ownsRow 0 43 4 ov l.length (outCells l)∧∀ g,ov.ownBlock=some g→¬ F' g∧F g:=by
 obtain⟨own,hS,hF⟩:=h;obtain⟨h1,ov,h2,h3⟩:=hS.at_ .core;obtain⟨r1,r2⟩:=h3 l hl;have key:∀ q x,(own q x∧ov.ownBlock≠some x)→own q x:=fun q x hx=>hx.1;refine⟨ov,fun x=>∃ q,own q x∧ov.ownBlock≠some x,(cell_of h2).trans rfl,⟨fun q x=>own q x∧ov.ownBlock≠some x,⟨fun q=>?_,fun q x hx=>hS.lt q x hx.1,fun q r x hx hy=>hS.sep q r x hx.1 hy.1⟩,fun q x hx=>⟨q,hx⟩⟩,fun x hx=>?_,r1,fun g hg=>⟨fun hx=>?_,hF _ _ (r2 g hg).1⟩⟩
 ·by_cases e:q=.core
  ·subst e
   exact⟨⟨h1,fun hg=>(r2 _ hg).2 rfl⟩,ov,h2,fun l' hl'=>by cases hl'⟩
  ·have hat:At { s with out:=none } A q w (own q):=by
    have:=hS.at_ q;cases q with
    | core=>exact absurd rfl e
    | _=>exact this
   have e1:(fun x=>own q x∧ov.ownBlock≠some x)=own q:=by
    funext x
    refine propext ⟨fun hx=>hx.1,fun hx=>⟨hx,fun hg=>?_⟩⟩;exact e (hS.sep q .core x hx (r2 x hg).1)
   rw[e1];exact hat
 ·obtain⟨q,hq,-⟩:=hx
  exact⟨hF q x hq,hS.lt q x hq⟩
 ·obtain⟨q,hq,hne⟩:=hx
  exact hne hg
theorem ansOf_kind(r:St×Nat):(ansOf r).2.1=0∨(ansOf r).2.1=1:=by
 unfold ansOf;simp only;split
 ·exact .inl rfl
 ·exact .inr rfl
theorem callS_kind(s:St)(n:Int):(callS s n).2.1=1∨(callS s n).2.1=2∨(callS s n).2.1=3∨(callS s n).2.1=4:=by
 unfold callS;split
 ·exact .inl rfl
 split
 ·exact .inr (.inr (.inr rfl))
 split
 ·exact .inr (.inr (.inr rfl))
 split
 ·exact .inl rfl
 split
 ·exact .inr (.inl rfl)
 split
 ·exact .inr (.inr (.inr rfl))
 split
 ·exact .inr (.inr (.inr rfl))
 split
 ·exact .inr (.inr (.inr rfl))
 ·exact .inr (.inr (.inl rfl))
theorem actS_kind(s:St)(e:P16.Evt):∃ k:Nat,k < 5∧(actS s e).2.1=(k:Int):=by
 have h1:∀ r,∃ k:Nat,k < 5∧(ansOf r).2.1=(k:Int):=fun r=>by
  rcases ansOf_kind r with h|h
  ·exact⟨0,by decide,h⟩
  ·exact⟨1,by decide,h⟩
 unfold actS;split
 ·exact h1 _
 split
 ·exact h1 _
 split
 ·exact h1 _
 split
 ·exact h1 _
 split
 ·exact h1 _
 split
 ·exact h1 _
 split
 ·rcases callS_kind s (e 1) with h | h | h | h
  ·exact⟨1,by decide,h⟩
  ·exact⟨2,by decide,h⟩
  ·exact⟨3,by decide,h⟩
  ·exact⟨4,by decide,h⟩
 split
 ·exact h1 _
 split
 ·exact h1 _
 ·exact h1 _
theorem Inv.act_{s:St}{N:Nat}(h:Inv s N none_)(ho:s.out.isSome=true)(hL:s.boxes.length≤996000000)(hU:UntOk s)(e:P16.Evt)(hr:∀ j,0≤e j):
  Inv (actS s e).1 (N+1) none_∧(actS s e).1.out.isSome=true∧s.boxes.length≤(actS s e).1.boxes.length∧(actS s e).1.boxes.length≤s.boxes.length+65000∧UntOk (actS s e).1:=by
 have up:∀ {t:St},Inv t N none_→Inv t (N+1) none_:=fun h=>h.up (by omega);have hx:∀ {t:St} {k:Nat},k≤65000→Inv t N none_∧t.out.isSome=true∧s.boxes.length≤t.boxes.length∧t.boxes.length≤s.boxes.length+k→UntOk t→Inv t (N+1) none_∧t.out.isSome=true∧s.boxes.length≤t.boxes.length∧t.boxes.length≤s.boxes.length+65000∧UntOk t:=
  fun hk h hu=>⟨up h.1,h.2.1,h.2.2.1,by have:=h.2.2.2;omega,hu⟩
 have hsame:Inv s N none_∧s.out.isSome=true∧s.boxes.length≤s.boxes.length∧s.boxes.length≤s.boxes.length+0:=⟨h,ho,Nat.le_refl _,Nat.le_refl _⟩;unfold actS;split
 ·refine hx (k:=64064) (by omega) (h.tick_ ho hL) ?_
  show UntOk (tickS s);by_cases hm:s.now=1099511627776
  ·rw[tickS_max hm];exact hU
  ·rw[tickS_eq hm]
   refine UntOk.ebb ?_ (ebb_keepAll _);have hT:=h.tickH_ hm
   suffices hs:∀ (n:Nat) (t:St),Inv t N none_→t.out.isSome=true→UntOk t→UntOk (timesS n t) from hs _ _ hT ho hU
   intro n
   induction n with
   | zero=>intro t _ _ hu;exact hu
   | succ n ih=>
    intro t hi hot hu;by_cases hd:due t
    ·rw[timesS_yes hd]
     obtain⟨k1,k2⟩:=hi.time1_ hot hd.1;refine ih _ k1.inv k1.out ?_;rw[time1_eq];split
     ·exact UntOk.ebb (show UntOk (dropT t) from hu) (ebb_kill _ _)
     ·exact UntOk.ahead (show UntOk (dropT t) from hu) (show (dropT t).next=_ from hi.next) _
    ·rw[timesS_no hd];exact hu
 split
 ·refine hx (k:=0) (by omega) ?_ (hU.ebb (ebb_account s e))
  have hr1:=hr 1;have hr2:=hr 2;by_cases h1:e 3 > 1000∨e 4 > 1000∨e 1≥16∨e 2 > 1000
  ·rw[accountS_arg h1];exact hsame
  ·by_cases h2:e 2 < P11.rs s.quo.fs (e 1).toNat 64
   ·rw[accountS_quo h1 h2];exact hsame
   ·rw[accountS_yes h1 h2];exact⟨h.accT_ (by omega) (by omega),ho,Nat.le_refl _,Nat.le_refl _⟩
 split
 ·exact hx (k:=1000) (by omega) (h.function_ ho (by omega) hr) (hU.ebb (ebb_function s e))
 split
 ·exact hx (k:=64000) (by omega) (h.host_ ho (by omega) hr) (hU.ebb (ebb_host s e))
 split
 ·obtain⟨k,hk⟩:∃ k:Nat,e 1=(k:Int):=⟨(e 1).toNat,by have:=hr 1;omega⟩
  rw[hk];obtain⟨a1,a2,-,-,a5,a6⟩:=h.drain_ (n:=k) ho (by omega);exact hx (k:=64000) (by omega) ⟨a1,a2,a5,a6⟩ (hU.ebb (ebb_drain s _))
 split
 ·obtain⟨k,hk⟩:∃ k:Nat,e 1=(k:Int):=⟨(e 1).toNat,by have:=hr 1;omega⟩
  rw[hk];obtain⟨a1,a2,-,-,a5,a6⟩:=h.fail_ (n:=k) ho (by omega);exact hx (k:=64000) (by omega) ⟨a1,a2,a5,a6⟩ (hU.ebb (ebb_fail s _))
 split
 ·obtain⟨a1,a2,a3,a4⟩:=h.call_ ho (e 1) (hr 1)
  exact⟨a1,a2,a3,by omega,hU.ebb (ebb_call s _)⟩
 split
 ·refine hx (k:=0) (by omega) ?_ (hU.ebb (ebb_booted s _))
  show Inv (bootedS s (e 1)).1 N none_∧(bootedS s (e 1)).1.out.isSome=true∧s.boxes.length≤(bootedS s (e 1)).1.boxes.length∧(bootedS s (e 1)).1.boxes.length≤s.boxes.length+0;cases hl:isLive s (e 1)
  ·rw[bootedS_no hl];exact hsame
  ·obtain⟨i,x,hi,-,hxx,-,-⟩:=live_some h hl
   rw[hi] at hl ⊢;cases hb:(P12.booted x s.now).2
   ·rw[bootedS_st hxx hl hb];exact hsame
   ·obtain⟨b1,b2⟩:=h.booted_ (by omega) hxx hl hb
    refine⟨b1,?_,by omega,by omega⟩;rw[bootedS_yes hxx hl hb];show (if _ then _ else _:St).out.isSome=true;split
    ·unfold idleS
     split
     ·exact ho
     ·split
      ·exact(killS_mild (bootH s i x) i ho).2.2
      ·split <;> exact ho
    ·exact ho
 split
 ·refine hx (k:=1000) (by omega) ?_ (hU.ebb (ebb_broke s _))
  show Inv (brokeS s (e 1)).1 N none_∧(brokeS s (e 1)).1.out.isSome=true∧s.boxes.length≤(brokeS s (e 1)).1.boxes.length∧(brokeS s (e 1)).1.boxes.length≤s.boxes.length+1000;cases hl:isLive s (e 1)
  ·rw[brokeS_no hl];exact⟨h,ho,Nat.le_refl _,by show s.boxes.length≤_;omega⟩
  ·obtain⟨i,x,hi,-,hxx,hst,-⟩:=live_some h hl
   rw[hi] at hl ⊢;rw[brokeS_at hxx hl];obtain⟨g1,-,g3⟩:=h.gone (fun j e=>e.elim) hxx hst;obtain⟨z,hz,z1,z2,z3⟩:=goneS_box hxx hst;obtain⟨f,hf,hzf,y,hy,-⟩:=(g1.box i z hz).fn;have hxf:x.fn.toNat=f:=by rw[← z2,hzf];omega
   rw[hxf];obtain⟨k1,k2,k3,k4⟩:=g1.keep_ ((lone_gone s i).out ho) (by rw[g3];omega) hy;exact⟨k1,k2.out,by show s.boxes.length≤(keepS f (goneS s i)).boxes.length;omega,by show (keepS f (goneS s i)).boxes.length≤_;omega⟩
 ·refine hx (k:=0) (by omega) ?_ (hU.ebb (ebb_done s _))
  show Inv (doneS s (e 1)).1 N none_∧(doneS s (e 1)).1.out.isSome=true∧s.boxes.length≤(doneS s (e 1)).1.boxes.length∧(doneS s (e 1)).1.boxes.length≤s.boxes.length+0;cases hl:isLive s (e 1)
  ·rw[doneS_no hl];exact hsame
  ·obtain⟨i,x,hi,-,hxx,-,-⟩:=live_some h hl
   rw[hi] at hl ⊢;cases hb:(P12.done x s.now).2
   ·rw[doneS_st hxx hl hb];exact hsame
   ·obtain⟨b1,b2,b3⟩:=h.done_ (by omega) ho hxx hl hb
    exact⟨b1,b3,by omega,by omega⟩
end Go.Proofs.YtigeldkbfbcpmaaGreat
namespace Go.Proofs.YtigeldkbfbcpmaaGreat
open Go.RowKit Go.Kpt
structure Eba (s t:St):Prop where
 ans:t.ans=s.ans
theorem Eba.refl(s:St):Eba s s:=⟨rfl⟩
theorem Eba.trans{s t u:St}(h:Eba s t)(k:Eba t u):Eba s u:=⟨k.ans.trans h.ans⟩
theorem Eba.pre{s t u:St}(k:Eba t u)(ha:t.ans=s.ans):Eba s u:=⟨k.ans.trans ha⟩
theorem eba_gone(s:St)(i:Nat):Eba s (goneS s i):=by
 unfold goneS;split
 ·exact Eba.refl s
 ·exact⟨rfl⟩
theorem eba_kill(s:St)(i:Nat):Eba s (killS s i):=by
 unfold killS;split
 ·exact Eba.refl s
 ·exact⟨(eba_gone s i).ans⟩
theorem eba_idle(s:St)(i:Nat)(e:Int):Eba s (idleS s i e):=by
 unfold idleS;split
 ·exact Eba.refl s
 ·split
  ·exact eba_kill s i
  ·split
   ·exact Eba.refl s
   ·exact⟨rfl⟩
theorem eba_start(s:St)(f h:Nat):Eba s (startS s f h):=by
 unfold startS;split
 ·exact Eba.refl s
 ·exact⟨rfl⟩
theorem eba_take(s:St)(k:Nat)(id:Int):Eba s (takeS s k id):=⟨rfl⟩
theorem eba_takeB(s:St)(i:Nat):Eba s (takeB s i):=by unfold takeB;split;exact eba_take _ _ _;exact Eba.refl s
theorem eba_pinB(s:St)(i:Nat)(v:Bool):Eba s (pinB s i v):=by
 unfold pinB;split
 ·exact⟨rfl⟩
 ·exact Eba.refl s
theorem eba_evict1(s:St)(h:Nat):Eba s (evict1 s h):=by
 unfold evict1;exact(eba_kill _ _).pre rfl
theorem eba_evictS(mem:Int)(h:Nat):∀ (n:Nat) (s:St),Eba s (evictS mem h n s):=by
 intro n
 induction n with
 | zero=>intro s;exact Eba.refl s
 | succ n ih=>
  intro s;unfold evictS;split
  ·exact(eba_evict1 s h).trans (ih _)
  ·exact Eba.refl s
theorem eba_roomFrom(mem:Int):∀ (n h:Nat) (s:St),Eba s (roomFrom mem n h s).1:=by
 intro n
 induction n with
 | zero=>intro h s;exact Eba.refl s
 | succ n ih=>
  intro h s;unfold roomFrom;split
  ·exact eba_evictS mem h 4097 s
  ·exact ih (h+1) s
theorem eba_room(s:St)(mem:Int):Eba s (roomS s mem).1:=by
 unfold roomS;split
 ·exact Eba.refl s
 ·exact eba_roomFrom mem 32 0 s
theorem eba_roomE{s r:St}{m:Int}{k:Option Nat}(e:roomS s m=(r,k)):Eba s r:=by
 have:=eba_room s m;rw[e] at this;exact this
theorem eba_unpin(f:Nat)(s:St)(id:Int):Eba s (unpin f s id):=by
 unfold unpin;split
 ·exact(eba_pinB s _ _).trans (eba_idle _ _ _)
 ·exact eba_pinB s _ _
theorem eba_pin1(s:St)(i:Nat):Eba s (pin1 s i):=(eba_takeB s i).trans (eba_pinB _ _ _)
theorem eba_pinMore(s:St)(f:Nat):Eba s (pinMore s f).1:=by
 unfold pinMore;split
 ·exact eba_pin1 s _
 ·have h:=eba_room s (memF s f)
  split
  ·rename_i e;rw[e] at h;exact h
  ·rename_i e;rw[e] at h;exact(h.trans (eba_start _ _ _)).trans (eba_pin1 _ _)
theorem eba_pinUp(f:Nat):∀ (n:Nat) (s:St),Eba s (pinUp f n s):=by
 intro n
 induction n with
 | zero=>intro s;exact Eba.refl s
 | succ n ih=>
  intro s;unfold pinUp;split
  ·exact(eba_pinMore s f).trans (ih _)
  ·exact eba_pinMore s f
theorem eba_fold(g:St→Int→St)(hg:∀ s x,Eba s (g s x)):∀ (l:List Int) (s:St),Eba s (l.foldl g s):=by
 intro l
 induction l with
 | nil=>intro s;exact Eba.refl s
 | cons a l ih=>intro s;exact(hg s a).trans (ih _)
theorem eba_keep(f:Nat)(s:St):Eba s (keepS f s):=by
 unfold keepS;split
 ·exact Eba.refl s
 ·exact(eba_fold _ (eba_unpin f) _ s).trans (eba_pinUp f _ _)
theorem eba_keepAll(s:St):Eba s (keepAllS s):=eba_fold _ (fun s x=>eba_keep x.toNat s) _ s
theorem eba_begin(s:St)(f i:Nat):Eba s (beginS s f i):=by
 unfold beginS;split
 ·exact⟨rfl⟩
 ·exact Eba.refl s
theorem eba_call(s:St)(n:Int):Eba s (callS s n).1:=by
 unfold callS;split
 ·exact Eba.refl s
 ·split
  ·exact Eba.refl s
  ·split
   ·exact Eba.refl s
   ·split
    ·exact Eba.refl s
    ·split
     ·exact eba_begin _ _ _
     ·split
      ·exact Eba.refl s
      ·split
       ·exact Eba.refl s
       ·split
        ·rename_i e
         exact eba_roomE e
        ·rename_i e
         have h:=eba_roomE e;refine(h.trans ?_).trans (eba_begin _ _ _);exact(eba_start _ _ _).pre rfl
theorem eba_account(s:St)(e:P16.Evt):Eba s (accountS s e).1:=by
 unfold accountS;split
 ·exact Eba.refl s
 ·split
  ·exact Eba.refl s
  ·exact⟨rfl⟩
theorem eba_function(s:St)(e:P16.Evt):Eba s (functionS s e).1:=by
 unfold functionS;split
 ·exact Eba.refl s
 split
 ·exact Eba.refl s
 split
 ·exact Eba.refl s
 split
 ·exact Eba.refl s
 split
 ·exact Eba.refl s
 ·exact(eba_keep _ _).pre rfl
theorem eba_host(s:St)(e:P16.Evt):Eba s (hostS s e).1:=by
 unfold hostS;split
 ·exact Eba.refl s
 split
 ·exact Eba.refl s
 ·exact(eba_keepAll _).pre rfl
theorem eba_drain1(s:St)(x:Int):Eba s (drain1 s x):=by unfold drain1;split;exact eba_pinB _ _ _;exact eba_kill _ _
theorem eba_drain(s:St)(n:Int):Eba s (drainS s n).1:=by
 unfold drainS;split
 ·exact Eba.refl s
 split
 ·exact Eba.refl s
 ·show Eba s (keepAllS (List.foldl drain1 { s with hosts:=P13.put s.hosts n.toNat (P13.swept { s.hosts n.toNat with dr:=true }) } _))
  refine Eba.trans ?_ (eba_keepAll _);exact(eba_fold drain1 eba_drain1 _ _).pre rfl
theorem eba_fail(s:St)(n:Int):Eba s (failS s n).1:=by
 unfold failS;split
 ·exact Eba.refl s
 ·exact(eba_fold (fun s id=>goneS s (id.toNat - 1)) (fun s x=>eba_gone s _) _ s).trans ((eba_keepAll _).pre rfl)
theorem eba_booted(s:St)(n:Int):Eba s (bootedS s n).1:=by
 unfold bootedS;split
 ·exact Eba.refl s
 split
 ·exact Eba.refl s
 split
 ·exact Eba.refl s
 ·have h:∀ b q,Eba s { s with boxes:=s.boxes.set b q,unt:=gdel s.unt n }:=fun b q=>⟨rfl⟩
  show Eba s (if _ then _ else _);split
  ·exact(h _ _).trans (eba_idle _ _ _)
  ·exact h _ _
theorem eba_broke(s:St)(n:Int):Eba s (brokeS s n).1:=by
 unfold brokeS;split
 ·exact Eba.refl s
 split
 ·exact Eba.refl s
 ·exact(eba_gone _ _).trans (eba_keep _ _)
theorem eba_done(s:St)(n:Int):Eba s (doneS s n).1:=by
 unfold doneS;split
 ·exact Eba.refl s
 split
 ·exact Eba.refl s
 split
 ·exact Eba.refl s
 ·have h:∀ b q c,Eba s { s with boxes:=s.boxes.set b q,quo:=c,fns:=lastF s.fns b s.now }:=fun b q c=>⟨rfl⟩
  show Eba s (if _ then _ else if _ then _ else if _ then _ else _);split
  ·exact(eba_kill _ _).pre rfl
  split
  ·exact⟨rfl⟩
  split
  ·exact(eba_kill _ _).pre rfl
  ·exact(eba_idle _ _ _).pre rfl
theorem eba_ahead(s:St)(f:Nat):Eba s (aheadS s f):=by
 unfold aheadS;split
 ·exact Eba.refl s
 split
 ·exact Eba.refl s
 split
 ·exact Eba.refl s
 ·exact⟨(eba_start s _ _).ans⟩
theorem eba_time1(s:St):Eba s (time1 s):=by
 unfold time1;simp only;split
 ·exact(eba_kill _ _).pre rfl
 ·exact(eba_ahead _ _).pre rfl
theorem eba_times:∀ (n:Nat) (s:St),Eba s (timesS n s):=by
 intro n
 induction n with
 | zero=>intro s;exact Eba.refl s
 | succ n ih=>
  intro s;unfold timesS;split
  ·exact(eba_time1 s).trans (ih _)
  ·exact Eba.refl s
theorem eba_tick(s:St):Eba s (tickS s):=by
 unfold tickS;split
 ·exact Eba.refl s
 ·exact((eba_keepAll _).ans.trans (eba_times s.tim.length (tickH s)).ans).trans rfl |> Eba.mk
theorem act_ans(s:St)(e:P16.Evt):(actS s e).1.ans=s.ans:=by
 unfold actS;split
 ·exact(eba_tick s).ans
 split
 ·exact(eba_account s e).ans
 split
 ·exact(eba_function s e).ans
 split
 ·exact(eba_host s e).ans
 split
 ·exact(eba_drain s _).ans
 split
 ·exact(eba_fail s _).ans
 split
 ·exact(eba_call s _).ans
 split
 ·exact(eba_booted s _).ans
 split
 ·exact(eba_broke s _).ans
 ·exact(eba_done s _).ans
end Go.Proofs.YtigeldkbfbcpmaaGreat
