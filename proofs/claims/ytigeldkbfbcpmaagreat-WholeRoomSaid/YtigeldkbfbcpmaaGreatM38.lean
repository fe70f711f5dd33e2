/- A part of the proof: what the functions of the program come to, and what holds at all times. -/
import Derived.Test.YtigeldkbfbcpmaaGreatM37
set_option linter.unusedVariables false
set_option linter.unusedSectionVars false
set_option linter.unusedSimpArgs false
set_option maxRecDepth 100000
set_option maxHeartbeats 8000000
namespace Go.Proofs.YtigeldkbfbcpmaaGreat
open Go.RowKit Go.Kpt Go.Shelf Go.Maps
def ansV(a:Ans):Value:=.agg #[.int .i64 a.1,.int .i64 a.2.1,.int .i64 a.2.2.1,.int .i64 a.2.2.2]
def set4(w:World)(b:Nat)(u0 u1 u2 u3:Value):World:=(((w.setCell ⟨b,0,none⟩ u0).setCell ⟨b,1,none⟩ u1).setCell ⟨b,2,none⟩ u2).setCell ⟨b,3,none⟩ u3
theorem set4_block{w:World}{b:Nat}{v0 v1 v2 v3:Value}{ty:TypeId}(h:w.heap[b]?=some (.cells #[v0,v1,v2,v3] ty (0,0)))(u0 u1 u2 u3:Value):(set4 w b u0 u1 u2 u3).heap[b]?=some (.cells #[u0,u1,u2,u3] ty (0,0)):=
 set_same (i:=3) u3 (set_same (i:=2) u2 (set_same (i:=1) u1 (set_same (i:=0) u0 h)))
theorem set4_kept(w:World)(b:Nat)(u0 u1 u2 u3:Value):Kept (fun x=>x=b) w (set4 w b u0 u1 u2 u3):=
 (((Kept.set1 w b 0 u0).trans (Kept.set1 _ _ _ _) (fun _ _ e=>e)).trans (Kept.set1 _ _ _ _) (fun _ _ e=>e)).trans (Kept.set1 _ _ _ _) (fun _ _ e=>e)
theorem Rs.answer{w0 w wa W W':World}{F0 Fx:Nat→Prop}{s s':St}{A A':Adr}(h:Rs w0 F0 w s A)(hB:Below w.heap.size w wa)(hz:wa.heap.size=w.heap.size+1)(hr:Rs wa Fx W s' A')(hF:∀ x,Fx x→x < w.heap.size∧Grow F0 w0 w x)(k:Kept (fun x=>x=w.heap.size) W W'):Rs w0 F0 W' s' A':=by
 have hn:=Rs.nest h.2 hB hr (fun x hx=>(hF x hx).2);have h0:=h.2.size;have hzW:wa.heap.size≤W.heap.size:=hr.2.size;have hzW':W.heap.size≤W'.heap.size:=k.size;refine⟨(hr.1.kept k (fun x hx e=>?_)).mono (fun x hx=>?_),hn.2.trans k (fun x hx e=>by omega)⟩
 ·rcases hx with hx | hx
  ·have:=(hF x hx).1;omega
  ·have:=hx.1;omega
 ·rcases hx with hx | hx
  ·obtain⟨h1,h2⟩:=hF x hx
   rcases h2 with h2|h2
   ·exact .inl h2
   ·exact .inr ⟨h2.1,by omega⟩
  ·exact .inr ⟨by have:=hx.1;omega,by have:=hx.2;omega⟩
theorem call_no(s:St)(N:Nat)(hI:Inv s N none_)(n:Int)(hn:0≤n)(h2:n≥64∨(s.quo.fs n.toNat).th=false)(A:Adr)(w0:World)(F0:Nat→Prop)(w:World)(h:Rs w0 F0 w s A):
  Calls Tryz.prog 52 #[.pointer (some ⟨A.core,0,none⟩),.int .i64 n] w fun e w'=>e=.returned (ansV (callS s n).2)∧Ry w0 F0 w' (callS s n).1 A.core:=by
 obtain⟨wa,hwa⟩:∃ wa,w.alloc (.cells #[.int .i64 0,.int .i64 0,.int .i64 0,.int .i64 0] 38)=wa:=⟨_,rfl⟩;have hBa:Below w.heap.size w wa:=by subst hwa;exact(Below.refl _ w).alloc (Nat.le_refl _) _
 have hza:wa.heap.size=w.heap.size+1:=by subst hwa;simp
 have hca:wa.heap[w.heap.size]?=some (.cells #[.int .i64 0,.int .i64 0,.int .i64 0,.int .i64 0] 38 (0,0)):=by subst hwa;exact heap_alloc_new _ _
 have hRa:=h.fresh hBa;obtain⟨Fx,hFx⟩:∃ Fx:Nat→Prop,(fun x=>Grow F0 w0 w x∧x < w.heap.size)=Fx:=⟨_,rfl⟩;rw[hFx] at hRa;have hFlt:Hid (∀ x,Fx x→x < w.heap.size∧Grow F0 w0 w x):=fun x hx=>by rw[← hFx] at hx;exact⟨hx.2,hx.1⟩
 have HB:Hid (∀ (W:World) (s':St) (A':Adr),Rs wa Fx W s' A'→W.heap[w.heap.size]?=some (.cells #[.int .i64 0,.int .i64 0,.int .i64 0,.int .i64 0] 38 (0,0))):=fun W s' A' h'=>(h'.2.block _ (by omega) (fun x=>by have:=(hFlt.out _ x).1;omega)).trans hca;have HANS:Hid (∀ (W:World) (s':St) (A':Adr) (u0 u1 u2 u3:Value),Rs wa Fx W s' A'→Rs w0 F0 (set4 W w.heap.size u0 u1 u2 u3) s' A'∧(set4 W w.heap.size u0 u1 u2 u3).heap[w.heap.size]?=some (.cells #[u0,u1,u2,u3] 38 (0,0))):=fun W s' A' u0 u1 u2 u3 h'=>
  ⟨Rs.answer h hBa hza h' (hFlt.out) (set4_kept W w.heap.size u0 u1 u2 u3),set4_block (HB.out W s' A' h') u0 u1 u2 u3⟩
 have b2:=hRa.cc.2.2.1;obtain⟨ka1,ka2⟩:=ask_rs hRa hI.quo n hn;rw[callS_no h2];have k1:=ka1 h2;clear h hBa hza hca hRa hFx ka1 ka2 h2;go_enter Tryz.func52,Tryz.ntmps52
 go_wp2_with fail
 refine k1.mono ?_;clear k1;rintro e w1 ⟨⟨r,rfl⟩,hR1⟩;have hb:=HB.out _ _ _ hR1;obtain⟨a1,a2⟩:=HANS.out w1 _ _ (.int .i64 1) (.int .i64 0) (.int .i64 0) (.int .i64 2) hR1;have y0:=cell_of (j:=0) hb;have y1:=cell_of (j:=1) hb;have y2:=cell_of (j:=2) hb;have y3:=cell_of (j:=3) hb;have fz:=fun j=>frozen_of (j:=j) hb;have HA1:=Lib.hid a1;have HA2:=Lib.hid a2;clear hb a1 a2 hR1;go_wp2_with fail
 change bodyPost _ _ _ _ _ (set4 w1 w.heap.size (.int .i64 1) (.int .i64 0) (.int .i64 0) (.int .i64 2));generalize set4 w1 w.heap.size (.int .i64 1) (.int .i64 0) (.int .i64 0) (.int .i64 2)=W9 at *;have a0:=cell_of (j:=0) HA2.out;have a1:=cell_of (j:=1) HA2.out;have a2:=cell_of (j:=2) HA2.out;have a3:=cell_of (j:=3) HA2.out;refine bodyPost_ret (by simp[results,Tryz.results52,go_sem,a0,a1,a2,a3];try rfl) rfl ?_;exact⟨rfl,A,rfl,HA1.out⟩
theorem call_fun(s:St)(N:Nat)(hI:Inv s N none_)(n:Int)(hn:0≤n)(h1:¬ (n≥64∨(s.quo.fs n.toNat).th=false))(h2:P11.askR s.quo n.toNat=1)(A:Adr)(w0:World)(F0:Nat→Prop)(w:World)(h:Rs w0 F0 w s A):
  Calls Tryz.prog 52 #[.pointer (some ⟨A.core,0,none⟩),.int .i64 n] w fun e w'=>e=.returned (ansV (callS s n).2)∧Ry w0 F0 w' (callS s n).1 A.core:=by
 obtain⟨wa,hwa⟩:∃ wa,w.alloc (.cells #[.int .i64 0,.int .i64 0,.int .i64 0,.int .i64 0] 38)=wa:=⟨_,rfl⟩;have hBa:Below w.heap.size w wa:=by subst hwa;exact(Below.refl _ w).alloc (Nat.le_refl _) _
 have hza:wa.heap.size=w.heap.size+1:=by subst hwa;simp
 have hca:wa.heap[w.heap.size]?=some (.cells #[.int .i64 0,.int .i64 0,.int .i64 0,.int .i64 0] 38 (0,0)):=by subst hwa;exact heap_alloc_new _ _
 have hRa:=h.fresh hBa;obtain⟨Fx,hFx⟩:∃ Fx:Nat→Prop,(fun x=>Grow F0 w0 w x∧x < w.heap.size)=Fx:=⟨_,rfl⟩;rw[hFx] at hRa;have hFlt:Hid (∀ x,Fx x→x < w.heap.size∧Grow F0 w0 w x):=fun x hx=>by rw[← hFx] at hx;exact⟨hx.2,hx.1⟩
 have HB:Hid (∀ (W:World) (s':St) (A':Adr),Rs wa Fx W s' A'→W.heap[w.heap.size]?=some (.cells #[.int .i64 0,.int .i64 0,.int .i64 0,.int .i64 0] 38 (0,0))):=fun W s' A' h'=>(h'.2.block _ (by omega) (fun x=>by have:=(hFlt.out _ x).1;omega)).trans hca;have HANS:Hid (∀ (W:World) (s':St) (A':Adr) (u0 u1 u2 u3:Value),Rs wa Fx W s' A'→Rs w0 F0 (set4 W w.heap.size u0 u1 u2 u3) s' A'∧(set4 W w.heap.size u0 u1 u2 u3).heap[w.heap.size]?=some (.cells #[u0,u1,u2,u3] 38 (0,0))):=fun W s' A' u0 u1 u2 u3 h'=>
  ⟨Rs.answer h hBa hza h' (hFlt.out) (set4_kept W w.heap.size u0 u1 u2 u3),set4_block (HB.out W s' A' h') u0 u1 u2 u3⟩
 have b2:=hRa.cc.2.2.1;obtain⟨ka1,ka2⟩:=ask_rs hRa hI.quo n hn;rw[callS_fun h1 h2];have k1:=ka2 h1;rw[h2] at k1;clear h hBa hza hca hRa hFx ka1 ka2 h1 h2;go_enter Tryz.func52,Tryz.ntmps52
 go_wp2_with fail
 refine k1.mono ?_;clear k1;rintro e w1 ⟨rfl,hR1⟩;have hb:=HB.out _ _ _ hR1;obtain⟨a1,a2⟩:=HANS.out w1 _ _ (.int .i64 4) (.int .i64 0) (.int .i64 1) (.int .i64 0) hR1;have y0:=cell_of (j:=0) hb;have y1:=cell_of (j:=1) hb;have y2:=cell_of (j:=2) hb;have y3:=cell_of (j:=3) hb;have fz:=fun j=>frozen_of (j:=j) hb;have HA1:=Lib.hid a1;have HA2:=Lib.hid a2;clear hb a1 a2 hR1;go_wp2_with fail
 change bodyPost _ _ _ _ _ (set4 w1 w.heap.size (.int .i64 4) (.int .i64 0) (.int .i64 1) (.int .i64 0));generalize set4 w1 w.heap.size (.int .i64 4) (.int .i64 0) (.int .i64 1) (.int .i64 0)=W9 at *;have a0:=cell_of (j:=0) HA2.out;have a1:=cell_of (j:=1) HA2.out;have a2:=cell_of (j:=2) HA2.out;have a3:=cell_of (j:=3) HA2.out;refine bodyPost_ret (by simp[results,Tryz.results52,go_sem,a0,a1,a2,a3];try rfl) rfl ?_;exact⟨rfl,A,rfl,HA1.out⟩
theorem call_acc(s:St)(N:Nat)(hI:Inv s N none_)(n:Int)(hn:0≤n)(h1:¬ (n≥64∨(s.quo.fs n.toNat).th=false))(h2:P11.askR s.quo n.toNat=2)(A:Adr)(w0:World)(F0:Nat→Prop)(w:World)(h:Rs w0 F0 w s A):
  Calls Tryz.prog 52 #[.pointer (some ⟨A.core,0,none⟩),.int .i64 n] w fun e w'=>e=.returned (ansV (callS s n).2)∧Ry w0 F0 w' (callS s n).1 A.core:=by
 obtain⟨wa,hwa⟩:∃ wa,w.alloc (.cells #[.int .i64 0,.int .i64 0,.int .i64 0,.int .i64 0] 38)=wa:=⟨_,rfl⟩;have hBa:Below w.heap.size w wa:=by subst hwa;exact(Below.refl _ w).alloc (Nat.le_refl _) _
 have hza:wa.heap.size=w.heap.size+1:=by subst hwa;simp
 have hca:wa.heap[w.heap.size]?=some (.cells #[.int .i64 0,.int .i64 0,.int .i64 0,.int .i64 0] 38 (0,0)):=by subst hwa;exact heap_alloc_new _ _
 have hRa:=h.fresh hBa;obtain⟨Fx,hFx⟩:∃ Fx:Nat→Prop,(fun x=>Grow F0 w0 w x∧x < w.heap.size)=Fx:=⟨_,rfl⟩;rw[hFx] at hRa;have hFlt:Hid (∀ x,Fx x→x < w.heap.size∧Grow F0 w0 w x):=fun x hx=>by rw[← hFx] at hx;exact⟨hx.2,hx.1⟩
 have HB:Hid (∀ (W:World) (s':St) (A':Adr),Rs wa Fx W s' A'→W.heap[w.heap.size]?=some (.cells #[.int .i64 0,.int .i64 0,.int .i64 0,.int .i64 0] 38 (0,0))):=fun W s' A' h'=>(h'.2.block _ (by omega) (fun x=>by have:=(hFlt.out _ x).1;omega)).trans hca;have HANS:Hid (∀ (W:World) (s':St) (A':Adr) (u0 u1 u2 u3:Value),Rs wa Fx W s' A'→Rs w0 F0 (set4 W w.heap.size u0 u1 u2 u3) s' A'∧(set4 W w.heap.size u0 u1 u2 u3).heap[w.heap.size]?=some (.cells #[u0,u1,u2,u3] 38 (0,0))):=fun W s' A' u0 u1 u2 u3 h'=>
  ⟨Rs.answer h hBa hza h' (hFlt.out) (set4_kept W w.heap.size u0 u1 u2 u3),set4_block (HB.out W s' A' h') u0 u1 u2 u3⟩
 have b2:=hRa.cc.2.2.1;obtain⟨ka1,ka2⟩:=ask_rs hRa hI.quo n hn;rw[callS_acc h1 h2];have k1:=ka2 h1;rw[h2] at k1;clear h hBa hza hca hRa hFx ka1 ka2 h1 h2;go_enter Tryz.func52,Tryz.ntmps52
 go_wp2_with fail
 refine k1.mono ?_;clear k1;rintro e w1 ⟨rfl,hR1⟩;have hb:=HB.out _ _ _ hR1;obtain⟨a1,a2⟩:=HANS.out w1 _ _ (.int .i64 4) (.int .i64 0) (.int .i64 2) (.int .i64 0) hR1;have y0:=cell_of (j:=0) hb;have y1:=cell_of (j:=1) hb;have y2:=cell_of (j:=2) hb;have y3:=cell_of (j:=3) hb;have fz:=fun j=>frozen_of (j:=j) hb;have HA1:=Lib.hid a1;have HA2:=Lib.hid a2;clear hb a1 a2 hR1;go_wp2_with fail
 change bodyPost _ _ _ _ _ (set4 w1 w.heap.size (.int .i64 4) (.int .i64 0) (.int .i64 2) (.int .i64 0));generalize set4 w1 w.heap.size (.int .i64 4) (.int .i64 0) (.int .i64 2) (.int .i64 0)=W9 at *;have a0:=cell_of (j:=0) HA2.out;have a1:=cell_of (j:=1) HA2.out;have a2:=cell_of (j:=2) HA2.out;have a3:=cell_of (j:=3) HA2.out;refine bodyPost_ret (by simp[results,Tryz.results52,go_sem,a0,a1,a2,a3];try rfl) rfl ?_;exact⟨rfl,A,rfl,HA1.out⟩
theorem call_warm(s:St)(N:Nat)(hI:Inv s N none_)(hN:N < 4095)(hL:s.boxes.length≤997000000)(n:Int)(hn:0≤n)(h1:¬ (n≥64∨(s.quo.fs n.toNat).th=false))(h2:P11.askR s.quo n.toNat=0)(x:Fnc)(hx:s.fns n.toNat=some x)(i:Nat)(hi:freeOf s n=some i)(A:Adr)(w0:World)(F0:Nat→Prop)(w:World)(h:Rs w0 F0 w s A):
  Calls Tryz.prog 52 #[.pointer (some ⟨A.core,0,none⟩),.int .i64 n] w fun e w'=>e=.returned (ansV (callS s n).2)∧Ry w0 F0 w' (callS s n).1 A.core:=by
 obtain⟨wa,hwa⟩:∃ wa,w.alloc (.cells #[.int .i64 0,.int .i64 0,.int .i64 0,.int .i64 0] 38)=wa:=⟨_,rfl⟩;have hBa:Below w.heap.size w wa:=by subst hwa;exact(Below.refl _ w).alloc (Nat.le_refl _) _
 have hza:wa.heap.size=w.heap.size+1:=by subst hwa;simp
 have hca:wa.heap[w.heap.size]?=some (.cells #[.int .i64 0,.int .i64 0,.int .i64 0,.int .i64 0] 38 (0,0)):=by subst hwa;exact heap_alloc_new _ _
 have hRa:=h.fresh hBa;obtain⟨Fx,hFx⟩:∃ Fx:Nat→Prop,(fun x=>Grow F0 w0 w x∧x < w.heap.size)=Fx:=⟨_,rfl⟩;rw[hFx] at hRa;have hFlt:Hid (∀ x,Fx x→x < w.heap.size∧Grow F0 w0 w x):=fun x hx=>by rw[← hFx] at hx;exact⟨hx.2,hx.1⟩
 have HB:Hid (∀ (W:World) (s':St) (A':Adr),Rs wa Fx W s' A'→W.heap[w.heap.size]?=some (.cells #[.int .i64 0,.int .i64 0,.int .i64 0,.int .i64 0] 38 (0,0))):=fun W s' A' h'=>(h'.2.block _ (by omega) (fun x=>by have:=(hFlt.out _ x).1;omega)).trans hca;have HANS:Hid (∀ (W:World) (s':St) (A':Adr) (u0 u1 u2 u3:Value),Rs wa Fx W s' A'→Rs w0 F0 (set4 W w.heap.size u0 u1 u2 u3) s' A'∧(set4 W w.heap.size u0 u1 u2 u3).heap[w.heap.size]?=some (.cells #[u0,u1,u2,u3] 38 (0,0))):=fun W s' A' u0 u1 u2 u3 h'=>
  ⟨Rs.answer h hBa hza h' (hFlt.out) (set4_kept W w.heap.size u0 u1 u2 u3),set4_block (HB.out W s' A' h') u0 u1 u2 u3⟩
 have b2:=hRa.cc.2.2.1;obtain⟨ka1,ka2⟩:=ask_rs hRa hI.quo n hn;rw[callS_warm h1 h2 hx hi];have k1:=ka2 h1;rw[h2] at k1;have hf:n.toNat < 64:=by omega
 obtain⟨f,rfl⟩:∃ f:Nat,n=(f:Int):=⟨n.toNat,by omega⟩;rw[Int.toNat_natCast] at hf hx;have HLK:Hid (∀ (W:World) (s':St) (A':Adr),s'.fns=s.fns→A'.fn=A.fn→A'.fnM=A.fnM→Rs wa Fx W s' A'→(Instr.lookup 81 (.map (some A.fnM)) (.int .i64 (f:Int)) false).run Tryz.prog W=.ok (.pointer (some ⟨A.fn f,0,none⟩)) W):=fun W s' A' e1 e2 e3 h'=>by
  have:=h'.1.look_fn (f:Int) (WalkArith.wf_i64 (by omega)) _ (mFn_of (by omega) _ rfl);rw[e1,e2,e3,Int.toNat_natCast,hx] at this;exact this
 have hst:∀ (i:Nat) (x:P12.Bx),s.boxes[i]?=some x→x.st < 4:=fun i x hx=>(hI.box i x hx).st;have HFR:Hid (∀ W,Rs wa Fx W s A→Calls Tryz.prog 89 #[.pointer (some ⟨A.core,0,none⟩),.int .i64 (f:Int)] W fun e w'=>e=.returned (pv ((freeOf s (f:Int)).map A.box))∧Rs wa Fx w' s A):=fun W h'=>(free_any s A _ (by omega) hst (f:Int) W h'.1).mono (fun e w' h9=>⟨h9.1,h'.below h9.2⟩);rw[Int.toNat_natCast];rw[hi] at HFR;simp only[Option.map_some,pv] at HFR;obtain⟨b,hbx,-,hbf,hbs⟩:=freeOf_is hi;have hbid:=(hI.box i b hbx).id;have HBG:Hid (∀ W,Rs wa Fx W s A→Calls Tryz.prog 90 #[.pointer (some ⟨A.core,0,none⟩),.int .i64 f,.pointer (some ⟨A.box i,0,none⟩)] W fun e w'=>e=.returned (.tuple #[])∧∃ cac:Nat→Nat,Rs wa Fx w' (beginS s f i) { A with cac:=cac }):=fun W h'=>begin_any s N hI hN (by omega) A wa Fx f x hx i b hbx W h';obtain⟨g1,g2,-⟩:=hI.begin_ hx hbx hbf (.inl hbs) (by rw[← h2,Int.toNat_natCast]);have HID:Hid (∀ W cac,Rs wa Fx W (beginS s f i) { A with cac:=cac }→W.cell? ⟨A.box i,0,none⟩=some (.int .i64 ((i:Int)+1))):=fun W cac h'=>by
  obtain⟨z0,-⟩:=(h'.bq (i:=i) (x:=(P12.call b s.now).1) (by rw[g2];exact set_same' hbx)).cells;rw[(call_facts (now:=s.now) (hI.box i b hbx).bound (.inl hbs)).1,hbid] at z0;exact z0
 clear h hBa hza hca hRa hFx ka1 ka2 h1 h2 hx hi hst hbx hbf hbs hbid g1 g2 hI;go_enter Tryz.func52,Tryz.ntmps52
 go_wp2_with fail
 refine k1.mono ?_;clear k1;rintro e w1 ⟨rfl,hR1⟩;have b4:=hR1.cc.2.2.2.2.1;have hlk:=HLK.out _ s A rfl rfl rfl hR1;have hfr:=HFR.out _ hR1;clear b2 hR1;go_wp2_with fail
 refine hfr.mono ?_;clear hfr hlk b4;rintro e w2 ⟨rfl,hR2⟩;have hbg:=HBG.out _ hR2;clear hR2;go_wp2_with fail
 refine hbg.mono ?_;clear hbg;rintro e w3 ⟨rfl,cac,hR3⟩;have hid:=HID.out _ _ hR3;have hb:=HB.out _ _ _ hR3;obtain⟨a1,a2⟩:=HANS.out w3 _ _ (.int .i64 2) (.int .i64 ((i:Int)+1)) (.int .i64 0) (.int .i64 0) hR3;have y0:=cell_of (j:=0) hb;have y1:=cell_of (j:=1) hb;have y2:=cell_of (j:=2) hb;have y3:=cell_of (j:=3) hb;have fz:=fun j=>frozen_of (j:=j) hb;have HA1:=Lib.hid a1;have HA2:=Lib.hid a2;clear hb a1 a2 hR3;go_wp2_with fail
 change bodyPost _ _ _ _ _ (set4 w3 w.heap.size (.int .i64 2) (.int .i64 ((i:Int)+1)) (.int .i64 0) (.int .i64 0));generalize set4 w3 w.heap.size (.int .i64 2) (.int .i64 ((i:Int)+1)) (.int .i64 0) (.int .i64 0)=W9 at *;have a0:=cell_of (j:=0) HA2.out;have a1:=cell_of (j:=1) HA2.out;have a2:=cell_of (j:=2) HA2.out;have a3:=cell_of (j:=3) HA2.out;refine bodyPost_ret (by simp[results,Tryz.results52,go_sem,a0,a1,a2,a3];try rfl) rfl ?_;exact⟨rfl,{ A with cac:=cac },rfl,HA1.out⟩
theorem takeTok_rs{w0 w:World}{F0:Nat→Prop}{s:St}{A:Adr}(h:Rs w0 F0 w s A){a:Nat}{t:Bkt}(ht:s.tok a=some t)(h0:0 < t.t)(h1:t.t≤1000):
  Calls Tryz.prog 93 #[.pointer (some ⟨A.tok a,0,none⟩)] w fun e w'=>e=.returned (.bool true)∧Rs w0 F0 w' { s with tok:=tset s.tok a { t with t:=t.t - 1 } } A:=by
 obtain⟨hb,hnx⟩:=h.1.tokTurn a t ht;refine(P10.take_yes (A.tok a) t.s t.r t.t w hb h0 h1).mono ?_;rintro e w' ⟨rfl,h2,h3⟩;obtain⟨r1,r2⟩:=hnx w' { t with t:=t.t - 1 } h2 h3;exact⟨rfl,h.next r1 r2⟩
theorem tokens_rs{w0 w:World}{F0:Nat→Prop}{s:St}{A:Adr}(h:Rs w0 F0 w s A){a:Nat}{t:Bkt}(ht:s.tok a=some t):
  Calls Tryz.prog 91 #[.pointer (some ⟨A.tok a,0,none⟩)] w fun e w'=>e=.returned (.int .i64 t.t)∧Rs w0 F0 w' s A:=by
 obtain⟨hb,-⟩:=h.1.tokTurn a t ht;refine(P10.tokens_any (A.tok a) t.s t.r t.t w hb).mono ?_;rintro e w' ⟨rfl,rfl⟩;exact⟨rfl,h⟩
theorem call_tok(s:St)(N:Nat)(hI:Inv s N none_)(hN:N < 4095)(hL:s.boxes.length≤997000000)(hout:s.out.isSome=true)(n:Int)(hn:0≤n)(h1:¬ (n≥64∨(s.quo.fs n.toNat).th=false))(h2:P11.askR s.quo n.toNat=0)(x:Fnc)(hx:s.fns n.toNat=some x)(hi:freeOf s n=none)(t:Bkt)(ht:s.tok x.account=some t)(h0:t.t=0)(A:Adr)(w0:World)(F0:Nat→Prop)(w:World)(h:Rs w0 F0 w s A):
  Calls Tryz.prog 52 #[.pointer (some ⟨A.core,0,none⟩),.int .i64 n] w fun e w'=>e=.returned (ansV (callS s n).2)∧Ry w0 F0 w' (callS s n).1 A.core:=by
 obtain⟨wa,hwa⟩:∃ wa,w.alloc (.cells #[.int .i64 0,.int .i64 0,.int .i64 0,.int .i64 0] 38)=wa:=⟨_,rfl⟩;have hBa:Below w.heap.size w wa:=by subst hwa;exact(Below.refl _ w).alloc (Nat.le_refl _) _
 have hza:wa.heap.size=w.heap.size+1:=by subst hwa;simp
 have hca:wa.heap[w.heap.size]?=some (.cells #[.int .i64 0,.int .i64 0,.int .i64 0,.int .i64 0] 38 (0,0)):=by subst hwa;exact heap_alloc_new _ _
 have hRa:=h.fresh hBa;obtain⟨Fx,hFx⟩:∃ Fx:Nat→Prop,(fun x=>Grow F0 w0 w x∧x < w.heap.size)=Fx:=⟨_,rfl⟩;rw[hFx] at hRa;have hFlt:Hid (∀ x,Fx x→x < w.heap.size∧Grow F0 w0 w x):=fun x hx=>by rw[← hFx] at hx;exact⟨hx.2,hx.1⟩
 have HB:Hid (∀ (W:World) (s':St) (A':Adr),Rs wa Fx W s' A'→W.heap[w.heap.size]?=some (.cells #[.int .i64 0,.int .i64 0,.int .i64 0,.int .i64 0] 38 (0,0))):=fun W s' A' h'=>(h'.2.block _ (by omega) (fun x=>by have:=(hFlt.out _ x).1;omega)).trans hca;have HANS:Hid (∀ (W:World) (s':St) (A':Adr) (u0 u1 u2 u3:Value),Rs wa Fx W s' A'→Rs w0 F0 (set4 W w.heap.size u0 u1 u2 u3) s' A'∧(set4 W w.heap.size u0 u1 u2 u3).heap[w.heap.size]?=some (.cells #[u0,u1,u2,u3] 38 (0,0))):=fun W s' A' u0 u1 u2 u3 h'=>
  ⟨Rs.answer h hBa hza h' (hFlt.out) (set4_kept W w.heap.size u0 u1 u2 u3),set4_block (HB.out W s' A' h') u0 u1 u2 u3⟩
 have b2:=hRa.cc.2.2.1;obtain⟨ka1,ka2⟩:=ask_rs hRa hI.quo n hn;rw[callS_tok h1 h2 hx hi ht h0];have k1:=ka2 h1;rw[h2] at k1;have hf:n.toNat < 64:=by omega
 obtain⟨f,rfl⟩:∃ f:Nat,n=(f:Int):=⟨n.toNat,by omega⟩;rw[Int.toNat_natCast] at hf hx;have HLK:Hid (∀ (W:World) (s':St) (A':Adr),s'.fns=s.fns→A'.fn=A.fn→A'.fnM=A.fnM→Rs wa Fx W s' A'→(Instr.lookup 81 (.map (some A.fnM)) (.int .i64 (f:Int)) false).run Tryz.prog W=.ok (.pointer (some ⟨A.fn f,0,none⟩)) W):=fun W s' A' e1 e2 e3 h'=>by
  have:=h'.1.look_fn (f:Int) (WalkArith.wf_i64 (by omega)) _ (mFn_of (by omega) _ rfl);rw[e1,e2,e3,Int.toNat_natCast,hx] at this;exact this
 have hst:∀ (i:Nat) (x:P12.Bx),s.boxes[i]?=some x→x.st < 4:=fun i x hx=>(hI.box i x hx).st;have HFR:Hid (∀ W,Rs wa Fx W s A→Calls Tryz.prog 89 #[.pointer (some ⟨A.core,0,none⟩),.int .i64 (f:Int)] W fun e w'=>e=.returned (pv ((freeOf s (f:Int)).map A.box))∧Rs wa Fx w' s A):=fun W h'=>(free_any s A _ (by omega) hst (f:Int) W h'.1).mono (fun e w' h9=>⟨h9.1,h'.below h9.2⟩);rw[hi] at HFR;simp only[Option.map_none,pv] at HFR;have hfo:=hI.fn f x hx;have hto:=hI.tok _ t ht;have HT3:Hid (∀ (W:World),Rs wa Fx W s A→W.cell? ⟨A.core,3,none⟩=some (.map (some A.tokM))∧W.cell? ⟨A.fn f,0,none⟩=some (.int .i64 x.account)∧W.cell? ⟨A.fn f,1,none⟩=some (.int .i64 x.mem)∧(Instr.lookup 80 (.map (some A.tokM)) (.int .i64 x.account) false).run Tryz.prog W=.ok (.pointer (some ⟨A.tok x.account,0,none⟩)) W):=fun W h'=>by
  have:=h'.1.look_tok (x.account:Int) (WalkArith.wf_i64 (by have:=hfo.acc;omega)) _ (mTok_of (by have:=hfo.acc;omega) _ rfl);rw[Int.toNat_natCast,ht] at this;exact⟨h'.cc.2.2.2.1,(cell_of (h'.1.fn hx).1).trans rfl,(cell_of (h'.1.fn hx).1).trans rfl,this⟩
 have HTK:Hid (∀ W,Rs wa Fx W s A→Calls Tryz.prog 91 #[.pointer (some ⟨A.tok x.account,0,none⟩)] W fun e w'=>e=.returned (.int .i64 t.t)∧Rs wa Fx w' s A):=fun W h'=>tokens_rs h' ht;rw[h0] at HTK;clear h hBa hza hca hRa hFx ka1 ka2 h1 h2 hx hi hst ht h0 hI hfo hto;go_enter Tryz.func52,Tryz.ntmps52
 go_wp2_with fail
 refine k1.mono ?_;clear k1;rintro e w1 ⟨rfl,hR1⟩;have b4:=hR1.cc.2.2.2.2.1;have hlk:=HLK.out _ s A rfl rfl rfl hR1;have hfr:=HFR.out _ hR1;clear b2 hR1;go_wp2_with fail
 refine hfr.mono ?_;clear hfr hlk b4;rintro e w2 ⟨rfl,hR2⟩;have H2:=Lib.hid hR2;clear hR2;go_wp2_with fail
 obtain⟨c3,f0,-,lk3⟩:=HT3.out _ H2.out.drew;refine wp_region_still_tail 9 (by kernel_rfl) (by kernel_rfl) ?_;simp only[List.take_succ_cons,List.take_zero,List.drop_succ_cons,List.drop_zero]
 repeat still_step
 refine wpStill_nil ?_;change wpList _ _ _ _ _ w2.drew;clear c3 f0 lk3;have htk:=HTK.out _ H2.out.drew;go_wp2_with fail
 refine htk.mono ?_;clear htk;rintro e w3 ⟨rfl,hR3⟩;have hb:=HB.out _ _ _ hR3;obtain⟨a1,a2⟩:=HANS.out w3 _ _ (.int .i64 4) (.int .i64 0) (.int .i64 3) (.int .i64 0) hR3;have y0:=cell_of (j:=0) hb;have y1:=cell_of (j:=1) hb;have y2:=cell_of (j:=2) hb;have y3:=cell_of (j:=3) hb;have fz:=fun j=>frozen_of (j:=j) hb;have HA1:=Lib.hid a1;have HA2:=Lib.hid a2;clear hb a1 a2 hR3;go_wp2_with fail
 change bodyPost _ _ _ _ _ (set4 w3 w.heap.size (.int .i64 4) (.int .i64 0) (.int .i64 3) (.int .i64 0));generalize set4 w3 w.heap.size (.int .i64 4) (.int .i64 0) (.int .i64 3) (.int .i64 0)=W9 at *;have a0:=cell_of (j:=0) HA2.out;have a1:=cell_of (j:=1) HA2.out;have a2:=cell_of (j:=2) HA2.out;have a3:=cell_of (j:=3) HA2.out;refine bodyPost_ret (by simp[results,Tryz.results52,go_sem,a0,a1,a2,a3];try rfl) rfl ?_;exact⟨rfl,A,rfl,HA1.out⟩
theorem call_room(s:St)(N:Nat)(hI:Inv s N none_)(hN:N < 4095)(hL:s.boxes.length≤997000000)(hout:s.out.isSome=true)(n:Int)(hn:0≤n)(h1:¬ (n≥64∨(s.quo.fs n.toNat).th=false))(h2:P11.askR s.quo n.toNat=0)(x:Fnc)(hx:s.fns n.toNat=some x)(hi:freeOf s n=none)(t:Bkt)(ht:s.tok x.account=some t)(h0:t.t≠0)(hr:(roomS s x.mem).2=none)(A:Adr)(w0:World)(F0:Nat→Prop)(w:World)(h:Rs w0 F0 w s A):
  Calls Tryz.prog 52 #[.pointer (some ⟨A.core,0,none⟩),.int .i64 n] w fun e w'=>e=.returned (ansV (callS s n).2)∧Ry w0 F0 w' (callS s n).1 A.core:=by
 obtain⟨wa,hwa⟩:∃ wa,w.alloc (.cells #[.int .i64 0,.int .i64 0,.int .i64 0,.int .i64 0] 38)=wa:=⟨_,rfl⟩;have hBa:Below w.heap.size w wa:=by subst hwa;exact(Below.refl _ w).alloc (Nat.le_refl _) _
 have hza:wa.heap.size=w.heap.size+1:=by subst hwa;simp
 have hca:wa.heap[w.heap.size]?=some (.cells #[.int .i64 0,.int .i64 0,.int .i64 0,.int .i64 0] 38 (0,0)):=by subst hwa;exact heap_alloc_new _ _
 have hRa:=h.fresh hBa;obtain⟨Fx,hFx⟩:∃ Fx:Nat→Prop,(fun x=>Grow F0 w0 w x∧x < w.heap.size)=Fx:=⟨_,rfl⟩;rw[hFx] at hRa;have hFlt:Hid (∀ x,Fx x→x < w.heap.size∧Grow F0 w0 w x):=fun x hx=>by rw[← hFx] at hx;exact⟨hx.2,hx.1⟩
 have HB:Hid (∀ (W:World) (s':St) (A':Adr),Rs wa Fx W s' A'→W.heap[w.heap.size]?=some (.cells #[.int .i64 0,.int .i64 0,.int .i64 0,.int .i64 0] 38 (0,0))):=fun W s' A' h'=>(h'.2.block _ (by omega) (fun x=>by have:=(hFlt.out _ x).1;omega)).trans hca;have HANS:Hid (∀ (W:World) (s':St) (A':Adr) (u0 u1 u2 u3:Value),Rs wa Fx W s' A'→Rs w0 F0 (set4 W w.heap.size u0 u1 u2 u3) s' A'∧(set4 W w.heap.size u0 u1 u2 u3).heap[w.heap.size]?=some (.cells #[u0,u1,u2,u3] 38 (0,0))):=fun W s' A' u0 u1 u2 u3 h'=>
  ⟨Rs.answer h hBa hza h' (hFlt.out) (set4_kept W w.heap.size u0 u1 u2 u3),set4_block (HB.out W s' A' h') u0 u1 u2 u3⟩
 have b2:=hRa.cc.2.2.1;obtain⟨ka1,ka2⟩:=ask_rs hRa hI.quo n hn;rw[callS_room h1 h2 hx hi ht h0 hr];have k1:=ka2 h1;rw[h2] at k1;have hf:n.toNat < 64:=by omega
 obtain⟨f,rfl⟩:∃ f:Nat,n=(f:Int):=⟨n.toNat,by omega⟩;rw[Int.toNat_natCast] at hf hx;have HLK:Hid (∀ (W:World) (s':St) (A':Adr),s'.fns=s.fns→A'.fn=A.fn→A'.fnM=A.fnM→Rs wa Fx W s' A'→(Instr.lookup 81 (.map (some A.fnM)) (.int .i64 (f:Int)) false).run Tryz.prog W=.ok (.pointer (some ⟨A.fn f,0,none⟩)) W):=fun W s' A' e1 e2 e3 h'=>by
  have:=h'.1.look_fn (f:Int) (WalkArith.wf_i64 (by omega)) _ (mFn_of (by omega) _ rfl);rw[e1,e2,e3,Int.toNat_natCast,hx] at this;exact this
 have hst:∀ (i:Nat) (x:P12.Bx),s.boxes[i]?=some x→x.st < 4:=fun i x hx=>(hI.box i x hx).st;have HFR:Hid (∀ W,Rs wa Fx W s A→Calls Tryz.prog 89 #[.pointer (some ⟨A.core,0,none⟩),.int .i64 (f:Int)] W fun e w'=>e=.returned (pv ((freeOf s (f:Int)).map A.box))∧Rs wa Fx w' s A):=fun W h'=>(free_any s A _ (by omega) hst (f:Int) W h'.1).mono (fun e w' h9=>⟨h9.1,h'.below h9.2⟩);rw[hi] at HFR;simp only[Option.map_none,pv] at HFR;have hfo:=hI.fn f x hx;have hto:=hI.tok _ t ht;have HT3:Hid (∀ (W:World),Rs wa Fx W s A→W.cell? ⟨A.core,3,none⟩=some (.map (some A.tokM))∧W.cell? ⟨A.fn f,0,none⟩=some (.int .i64 x.account)∧W.cell? ⟨A.fn f,1,none⟩=some (.int .i64 x.mem)∧(Instr.lookup 80 (.map (some A.tokM)) (.int .i64 x.account) false).run Tryz.prog W=.ok (.pointer (some ⟨A.tok x.account,0,none⟩)) W):=fun W h'=>by
  have:=h'.1.look_tok (x.account:Int) (WalkArith.wf_i64 (by have:=hfo.acc;omega)) _ (mTok_of (by have:=hfo.acc;omega) _ rfl);rw[Int.toNat_natCast,ht] at this;exact⟨h'.cc.2.2.2.1,(cell_of (h'.1.fn hx).1).trans rfl,(cell_of (h'.1.fn hx).1).trans rfl,this⟩
 have HTK:Hid (∀ W,Rs wa Fx W s A→Calls Tryz.prog 91 #[.pointer (some ⟨A.tok x.account,0,none⟩)] W fun e w'=>e=.returned (.int .i64 t.t)∧Rs wa Fx w' s A):=fun W h'=>tokens_rs h' ht;obtain⟨r1,rl,rfn,rnow,rtok,rquo,rout,rk,-,-⟩:=hI.room hout (x.mem:Int);have HRM:Hid (∀ W,Rs wa Fx W s A→Calls Tryz.prog 92 #[.pointer (some ⟨A.core,0,none⟩),.int .i64 x.mem] W fun e w'=>e=.returned (.tuple #[.int .i64 (((roomS s x.mem).2.getD 0:Nat):Int),.bool (roomS s x.mem).2.isSome])∧∃ cac:Nat→Nat,Rs wa Fx w' (roomS s x.mem).1 { A with cac:=cac }):=fun W h'=>room_any s N hI (by omega) hout A wa Fx (x.mem:Int) (by have:=hfo.mem;omega) W h';rw[hr] at HRM;clear h hBa hza hca hRa hFx ka1 ka2 h1 h2 hx hi hst ht hI hfo hto r1 rl rfn rnow rtok rquo rout rk hr;go_enter Tryz.func52,Tryz.ntmps52
 go_wp2_with fail
 refine k1.mono ?_;clear k1;rintro e w1 ⟨rfl,hR1⟩;have b4:=hR1.cc.2.2.2.2.1;have hlk:=HLK.out _ s A rfl rfl rfl hR1;have hfr:=HFR.out _ hR1;clear b2 hR1;go_wp2_with fail
 refine hfr.mono ?_;clear hfr hlk b4;rintro e w2 ⟨rfl,hR2⟩;have H2:=Lib.hid hR2;clear hR2;go_wp2_with fail
 obtain⟨c3,f0,-,lk3⟩:=HT3.out _ H2.out.drew;refine wp_region_still_tail 9 (by kernel_rfl) (by kernel_rfl) ?_;simp only[List.take_succ_cons,List.take_zero,List.drop_succ_cons,List.drop_zero]
 repeat still_step
 refine wpStill_nil ?_;change wpList _ _ _ _ _ w2.drew;clear c3 f0 lk3;have htk:=HTK.out _ H2.out.drew;go_wp2_with fail
 refine htk.mono ?_;clear htk;rintro e w3 ⟨rfl,hR3⟩;have hz:¬ t.t=0:=h0;obtain⟨tt,htt⟩:∃ v,t.t=v:=⟨_,rfl⟩;rw[htt] at hz
 try rw[htt]
 have H3:=Lib.hid hR3;have hrm:=HRM.out _ hR3;obtain⟨-,-,f1,-⟩:=HT3.out _ hR3;have HTT:=Lib.hid (And.intro htt h0);clear hR3 htt h0;go_wp2_with fail
 refine hrm.mono ?_;clear hrm f1;rintro e w4 ⟨rfl,cac,hR4⟩;have hb:=HB.out _ _ _ hR4;obtain⟨a1,a2⟩:=HANS.out w4 _ _ (.int .i64 4) (.int .i64 0) (.int .i64 4) (.int .i64 0) hR4;have y0:=cell_of (j:=0) hb;have y1:=cell_of (j:=1) hb;have y2:=cell_of (j:=2) hb;have y3:=cell_of (j:=3) hb;have fz:=fun j=>frozen_of (j:=j) hb;have HA1:=Lib.hid a1;have HA2:=Lib.hid a2;clear hb a1 a2 hR4;go_wp2_with fail
 change bodyPost _ _ _ _ _ (set4 w4 w.heap.size (.int .i64 4) (.int .i64 0) (.int .i64 4) (.int .i64 0));generalize set4 w4 w.heap.size (.int .i64 4) (.int .i64 0) (.int .i64 4) (.int .i64 0)=W9 at *;have a0:=cell_of (j:=0) HA2.out;have a1:=cell_of (j:=1) HA2.out;have a2:=cell_of (j:=2) HA2.out;have a3:=cell_of (j:=3) HA2.out;refine bodyPost_ret (by simp[results,Tryz.results52,go_sem,a0,a1,a2,a3];try rfl) rfl ?_;exact⟨rfl,{ A with cac:=cac },rfl,HA1.out⟩
theorem call_cold(s:St)(N:Nat)(hI:Inv s N none_)(hN:N < 4095)(hL:s.boxes.length≤997000000)(hout:s.out.isSome=true)(n:Int)(hn:0≤n)(h1:¬ (n≥64∨(s.quo.fs n.toNat).th=false))(h2:P11.askR s.quo n.toNat=0)(x:Fnc)(hx:s.fns n.toNat=some x)(hi:freeOf s n=none)(t:Bkt)(ht:s.tok x.account=some t)(h0:t.t≠0)(k:Nat)(hr:(roomS s x.mem).2=some k)(A:Adr)(w0:World)(F0:Nat→Prop)(w:World)(h:Rs w0 F0 w s A):
  Calls Tryz.prog 52 #[.pointer (some ⟨A.core,0,none⟩),.int .i64 n] w fun e w'=>e=.returned (ansV (callS s n).2)∧Ry w0 F0 w' (callS s n).1 A.core:=by
 obtain⟨wa,hwa⟩:∃ wa,w.alloc (.cells #[.int .i64 0,.int .i64 0,.int .i64 0,.int .i64 0] 38)=wa:=⟨_,rfl⟩;have hBa:Below w.heap.size w wa:=by subst hwa;exact(Below.refl _ w).alloc (Nat.le_refl _) _
 have hza:wa.heap.size=w.heap.size+1:=by subst hwa;simp
 have hca:wa.heap[w.heap.size]?=some (.cells #[.int .i64 0,.int .i64 0,.int .i64 0,.int .i64 0] 38 (0,0)):=by subst hwa;exact heap_alloc_new _ _
 have hRa:=h.fresh hBa;obtain⟨Fx,hFx⟩:∃ Fx:Nat→Prop,(fun x=>Grow F0 w0 w x∧x < w.heap.size)=Fx:=⟨_,rfl⟩;rw[hFx] at hRa;have hFlt:Hid (∀ x,Fx x→x < w.heap.size∧Grow F0 w0 w x):=fun x hx=>by rw[← hFx] at hx;exact⟨hx.2,hx.1⟩
 have HB:Hid (∀ (W:World) (s':St) (A':Adr),Rs wa Fx W s' A'→W.heap[w.heap.size]?=some (.cells #[.int .i64 0,.int .i64 0,.int .i64 0,.int .i64 0] 38 (0,0))):=fun W s' A' h'=>(h'.2.block _ (by omega) (fun x=>by have:=(hFlt.out _ x).1;omega)).trans hca;have HANS:Hid (∀ (W:World) (s':St) (A':Adr) (u0 u1 u2 u3:Value),Rs wa Fx W s' A'→Rs w0 F0 (set4 W w.heap.size u0 u1 u2 u3) s' A'∧(set4 W w.heap.size u0 u1 u2 u3).heap[w.heap.size]?=some (.cells #[u0,u1,u2,u3] 38 (0,0))):=fun W s' A' u0 u1 u2 u3 h'=>
  ⟨Rs.answer h hBa hza h' (hFlt.out) (set4_kept W w.heap.size u0 u1 u2 u3),set4_block (HB.out W s' A' h') u0 u1 u2 u3⟩
 have b2:=hRa.cc.2.2.1;obtain⟨ka1,ka2⟩:=ask_rs hRa hI.quo n hn;rw[callS_cold h1 h2 hx hi ht h0 hr];have k1:=ka2 h1;rw[h2] at k1;have hf:n.toNat < 64:=by omega
 obtain⟨f,rfl⟩:∃ f:Nat,n=(f:Int):=⟨n.toNat,by omega⟩;rw[Int.toNat_natCast] at hf hx;have HLK:Hid (∀ (W:World) (s':St) (A':Adr),s'.fns=s.fns→A'.fn=A.fn→A'.fnM=A.fnM→Rs wa Fx W s' A'→(Instr.lookup 81 (.map (some A.fnM)) (.int .i64 (f:Int)) false).run Tryz.prog W=.ok (.pointer (some ⟨A.fn f,0,none⟩)) W):=fun W s' A' e1 e2 e3 h'=>by
  have:=h'.1.look_fn (f:Int) (WalkArith.wf_i64 (by omega)) _ (mFn_of (by omega) _ rfl);rw[e1,e2,e3,Int.toNat_natCast,hx] at this;exact this
 have hst:∀ (i:Nat) (x:P12.Bx),s.boxes[i]?=some x→x.st < 4:=fun i x hx=>(hI.box i x hx).st;have HFR:Hid (∀ W,Rs wa Fx W s A→Calls Tryz.prog 89 #[.pointer (some ⟨A.core,0,none⟩),.int .i64 (f:Int)] W fun e w'=>e=.returned (pv ((freeOf s (f:Int)).map A.box))∧Rs wa Fx w' s A):=fun W h'=>(free_any s A _ (by omega) hst (f:Int) W h'.1).mono (fun e w' h9=>⟨h9.1,h'.below h9.2⟩);rw[hi] at HFR;simp only[Option.map_none,pv] at HFR;have hfo:=hI.fn f x hx;have hto:=hI.tok _ t ht;have HT3:Hid (∀ (W:World),Rs wa Fx W s A→W.cell? ⟨A.core,3,none⟩=some (.map (some A.tokM))∧W.cell? ⟨A.fn f,0,none⟩=some (.int .i64 x.account)∧W.cell? ⟨A.fn f,1,none⟩=some (.int .i64 x.mem)∧(Instr.lookup 80 (.map (some A.tokM)) (.int .i64 x.account) false).run Tryz.prog W=.ok (.pointer (some ⟨A.tok x.account,0,none⟩)) W):=fun W h'=>by
  have:=h'.1.look_tok (x.account:Int) (WalkArith.wf_i64 (by have:=hfo.acc;omega)) _ (mTok_of (by have:=hfo.acc;omega) _ rfl);rw[Int.toNat_natCast,ht] at this;exact⟨h'.cc.2.2.2.1,(cell_of (h'.1.fn hx).1).trans rfl,(cell_of (h'.1.fn hx).1).trans rfl,this⟩
 have HTK:Hid (∀ W,Rs wa Fx W s A→Calls Tryz.prog 91 #[.pointer (some ⟨A.tok x.account,0,none⟩)] W fun e w'=>e=.returned (.int .i64 t.t)∧Rs wa Fx w' s A):=fun W h'=>tokens_rs h' ht;obtain⟨r1,rl,rfn,rnow,rtok,rquo,rout,rk,-,-⟩:=hI.room hout (x.mem:Int);have HRM:Hid (∀ W,Rs wa Fx W s A→Calls Tryz.prog 92 #[.pointer (some ⟨A.core,0,none⟩),.int .i64 x.mem] W fun e w'=>e=.returned (.tuple #[.int .i64 (((roomS s x.mem).2.getD 0:Nat):Int),.bool (roomS s x.mem).2.isSome])∧∃ cac:Nat→Nat,Rs wa Fx w' (roomS s x.mem).1 { A with cac:=cac }):=fun W h'=>room_any s N hI (by omega) hout A wa Fx (x.mem:Int) (by have:=hfo.mem;omega) W h';rw[hr] at HRM;rw[Int.toNat_natCast];obtain⟨g1,g2,g3,g4,g5,g6,g7,g8,g9⟩:=hI.cold_ hout hx ht h0 hr;obtain⟨T,hT⟩:∃ T,coldT s x t=T:=⟨_,rfl⟩;have hTe:T={ (roomS s x.mem).1 with tok:=tset (roomS s x.mem).1.tok x.account { t with t:=t.t - 1 } }:=by rw[← hT];rfl
 rw[hT] at g1 g2 g3 g4 g5 g6 g8 g9 ⊢;have hxT:T.fns f=some x:=by rw[g3];exact hx
 obtain⟨s1,s2,s3⟩:=g1.start hxT g7 g8 g9;have hb:=start_box (s:=T) (f:=f) (k:=k) hxT;have hxS:(startS T f k).fns f=some x:=by rw[(start_fns _ _ _).1];exact hxT
 obtain⟨m1,m2,-⟩:=s1.begin_ hxS hb rfl (.inr ⟨rfl,rfl⟩) (by rw[(start_fns _ _ _).2.1,g5,← h2,Int.toNat_natCast]);have HTA:Hid (∀ W cac,Rs wa Fx W (roomS s x.mem).1 { A with cac:=cac }→Calls Tryz.prog 93 #[.pointer (some ⟨A.tok x.account,0,none⟩)] W fun e w'=>e=.returned (.bool true)∧Rs wa Fx w' T { A with cac:=cac }):=fun W cac h'=>by
  rw[hTe];exact takeTok_rs h' (by rw[rtok];exact ht) (by have:=hto.tt;omega) (by have:=hto.tt;have:=hto.ts;omega)
 have HSA:Hid (∀ W cac,Rs wa Fx W T { A with cac:=cac }→Calls Tryz.prog 94 #[.pointer (some ⟨A.core,0,none⟩),.int .i64 f,.int .i64 k] W fun e w'=>∃ bb:Nat,e=.returned (.pointer (some ⟨bb,0,none⟩))∧Rs wa Fx w' (startS T f k) { A with cac:=cac,box:=bxput A.box T.boxes.length bb }):=fun W cac h'=>
  start_any T N g1.low g1.next (by omega) (outl T) (out_some g6) (out_len g1 (by omega)) { A with cac:=cac } wa Fx f x hxT k g7 W h'
 have HBG:Hid (∀ W cac bb,Rs wa Fx W (startS T f k) { A with cac:=cac,box:=bxput A.box T.boxes.length bb }→Calls Tryz.prog 90 #[.pointer (some ⟨A.core,0,none⟩),.int .i64 f,.pointer (some ⟨bb,0,none⟩)] W fun e w'=>e=.returned (.tuple #[])∧∃ cac2:Nat→Nat,Rs wa Fx w' (beginS (startS T f k) f T.boxes.length) { A with cac:=cac2,box:=bxput A.box T.boxes.length bb }):=fun W cac bb h'=>by
  have:=begin_any (startS T f k) N s1 hN (by omega) { A with cac:=cac,box:=bxput A.box T.boxes.length bb } wa Fx f x hxS T.boxes.length _ hb W h';have e1:({ A with cac:=cac,box:=bxput A.box T.boxes.length bb }:Adr).box T.boxes.length=bb:=by simp[bxput]
  rw[e1] at this;exact this
 have HID:Hid (∀ W cac bb,Rs wa Fx W (beginS (startS T f k) f T.boxes.length) { A with cac:=cac,box:=bxput A.box T.boxes.length bb }→W.cell? ⟨bb,0,none⟩=some (.int .i64 T.next)):=fun W cac bb h'=>by
  obtain⟨z0,-⟩:=(h'.bq (i:=T.boxes.length) (by rw[m2];exact set_same' hb)).cells;rw[(call_facts (x:=⟨T.next,f,k,x.mem,0,false,false,T.now⟩) (now:=(startS T f k).now) (fun e=>by cases e) (.inr ⟨rfl,rfl⟩)).1] at z0;have e1:({ A with cac:=cac,box:=bxput A.box T.boxes.length bb }:Adr).box T.boxes.length=bb:=by simp[bxput]
  rw[e1] at z0;exact z0
 obtain⟨B9,hB9⟩:∃ B,beginS (startS T f k) f T.boxes.length=B:=⟨_,rfl⟩;rw[hB9] at HBG HID ⊢;obtain⟨nx,hnx⟩:∃ v,T.next=v:=⟨_,rfl⟩;rw[hnx] at HID ⊢;have HK9:=Lib.hid (And.intro hB9 hnx);have htpos:t.t≠0:=h0;clear h hBa hza hca hRa hFx ka1 ka2 h1 h2 hx hi hst ht hI hfo hto r1 rl rfn rnow rtok rquo rout rk hr g1 g2 g3 g4 g5 g6 g8 g9 hT hTe hxT s1 s2 s3 hb hxS m1 m2 hB9 hnx;go_enter Tryz.func52,Tryz.ntmps52
 go_wp2_with fail
 refine k1.mono ?_;clear k1;rintro e w1 ⟨rfl,hR1⟩;have b4:=hR1.cc.2.2.2.2.1;have hlk:=HLK.out _ s A rfl rfl rfl hR1;have hfr:=HFR.out _ hR1;clear b2 hR1;go_wp2_with fail
 refine hfr.mono ?_;clear hfr hlk b4;rintro e w2 ⟨rfl,hR2⟩;have H2:=Lib.hid hR2;clear hR2;go_wp2_with fail
 obtain⟨c3,f0,-,lk3⟩:=HT3.out _ H2.out.drew;refine wp_region_still_tail 9 (by kernel_rfl) (by kernel_rfl) ?_;simp only[List.take_succ_cons,List.take_zero,List.drop_succ_cons,List.drop_zero]
 repeat still_step
 refine wpStill_nil ?_;change wpList _ _ _ _ _ w2.drew;clear c3 f0 lk3;have htk:=HTK.out _ H2.out.drew;go_wp2_with fail
 refine htk.mono ?_;clear htk;rintro e w3 ⟨rfl,hR3⟩;have hz:¬ t.t=0:=h0;obtain⟨tt,htt⟩:∃ v,t.t=v:=⟨_,rfl⟩;rw[htt] at hz
 try rw[htt]
 have H3:=Lib.hid hR3;have hrm:=HRM.out _ hR3;obtain⟨-,-,f1,-⟩:=HT3.out _ hR3;have HTT:=Lib.hid (And.intro htt h0);clear hR3 htt h0;go_wp2_with fail
 refine hrm.mono ?_;clear hrm f1;rintro e w4 ⟨rfl,cac,hR4⟩;have hta:=HTA.out _ _ hR4;clear hR4;go_wp2_with fail
 refine hta.mono ?_;clear hta;rintro e w5 ⟨rfl,hR5⟩;have hsa:=HSA.out _ _ hR5;clear hR5;go_wp2_with fail
 refine hsa.mono ?_;clear hsa;rintro e w6 ⟨bb,rfl,hR6⟩;have hbg:=HBG.out _ _ _ hR6;clear hR6;go_wp2_with fail
 refine hbg.mono ?_;clear hbg;rintro e w7 ⟨rfl,cac2,hR7⟩;have hid:=HID.out _ _ _ hR7;have hb:=HB.out _ _ _ hR7;obtain⟨a1,a2⟩:=HANS.out w7 _ _ (.int .i64 3) (.int .i64 nx) (.int .i64 0) (.int .i64 0) hR7;have y0:=cell_of (j:=0) hb;have y1:=cell_of (j:=1) hb;have y2:=cell_of (j:=2) hb;have y3:=cell_of (j:=3) hb;have fz:=fun j=>frozen_of (j:=j) hb;have HA1:=Lib.hid a1;have HA2:=Lib.hid a2;clear hb a1 a2 hR7;go_wp2_with fail
 change bodyPost _ _ _ _ _ (set4 w7 w.heap.size (.int .i64 3) (.int .i64 nx) (.int .i64 0) (.int .i64 0));generalize set4 w7 w.heap.size (.int .i64 3) (.int .i64 nx) (.int .i64 0) (.int .i64 0)=W9 at *;have a0:=cell_of (j:=0) HA2.out;have a1:=cell_of (j:=1) HA2.out;have a2:=cell_of (j:=2) HA2.out;have a3:=cell_of (j:=3) HA2.out;refine bodyPost_ret (by simp[results,Tryz.results52,go_sem,a0,a1,a2,a3];try rfl) rfl ?_;exact⟨rfl,{ A with cac:=cac2,box:=bxput A.box T.boxes.length bb },rfl,HA1.out⟩
theorem call_any(s:St)(N:Nat)(hI:Inv s N none_)(hN:N < 4095)(hL:s.boxes.length≤997000000)(hout:s.out.isSome=true)(n:Int)(hn:0≤n)(A:Adr)(w0:World)(F0:Nat→Prop)(w:World)(h:Rs w0 F0 w s A):
  Calls Tryz.prog 52 #[.pointer (some ⟨A.core,0,none⟩),.int .i64 n] w fun e w'=>e=.returned (ansV (callS s n).2)∧Ry w0 F0 w' (callS s n).1 A.core:=by
 by_cases h1:n≥64∨(s.quo.fs n.toNat).th=false
 ·exact call_no s N hI n hn h1 A w0 F0 w h
 rcases ask_cases s.quo n.toNat with h2|h2|h2
 ·obtain⟨x,hx⟩:∃ x,s.fns n.toNat=some x:=Option.isSome_iff_exists.1 (by
   rw[← hI.fnq _ (by omega)];cases e:(s.quo.fs n.toNat).th
   ·exact absurd (.inr e) h1
   ·rfl)
  cases hi:freeOf s n with
  | some i=>exact call_warm s N hI hN hL n hn h1 h2 x hx i hi A w0 F0 w h
  | none=>
   obtain⟨t,ht⟩:∃ t,s.tok x.account=some t:=Option.isSome_iff_exists.1 (hI.fn _ _ hx).tok;by_cases h0:t.t=0
   ·exact call_tok s N hI hN hL hout n hn h1 h2 x hx hi t ht h0 A w0 F0 w h
   ·cases hr:(roomS s x.mem).2 with
    | none=>exact call_room s N hI hN hL hout n hn h1 h2 x hx hi t ht h0 hr A w0 F0 w h
    | some k=>exact call_cold s N hI hN hL hout n hn h1 h2 x hx hi t ht h0 k hr A w0 F0 w h
 ·exact call_fun s N hI n hn h1 h2 A w0 F0 w h
 ·exact call_acc s N hI n hn h1 h2 A w0 F0 w h
end Go.Proofs.YtigeldkbfbcpmaaGreat
