/- A part of the proof: what the functions of the program come to, and what holds at all times. -/
import Derived.StillTailTactics
import Derived.Test.YtigeldkbfbcpmaaGreatM40
import Derived.Test.YtigeldkbfbcpmaaGreatM25
import Derived.Test.YtigeldkbfbcpmaaGreatM20
set_option linter.unusedVariables false
set_option linter.unusedSectionVars false
set_option linter.unusedSimpArgs false
set_option maxRecDepth 100000
set_option maxHeartbeats 8000000
namespace Go.Proofs.YtigeldkbfbcpmaaGreat
open Go.RowKit Go.Kpt Go.Shelf Go.Maps
def Done9(w:World)(F:Nat→Prop)(core:Nat)(s:St)(a:Ans)(l:List Cmd)(r:Ending)(w':World):Prop:=
 ∃ (ov:Value) (A':Adr) (F':Nat→Prop),r=.returned (.tuple #[ansV a,ov])∧A'.core=core∧Sys w' s A' F'∧Kept F w w'∧(∀ x,F' x→(F x∨w.heap.size≤x)∧x < w'.heap.size)∧w'.ownsRow 0 43 4 ov l.length (outCells l)∧∀ g,ov.ownBlock=some g→¬ F' g∧(F g∨w.heap.size≤g)
theorem doS_no{s:St}{e:P16.Evt}(h:¬ P16.right e):doS s e=(s,(1,0,0,1),[]):=by unfold doS;rw[if_neg h]
def act0(s:St)(e:P16.Evt):St×Ans:=actS { s with out:=some [] } e
theorem doS_yes{s:St}{e:P16.Evt}(h:P16.right e):doS s e=({ (act0 s e).1 with out:=none,ans:=fun k=>if (k:Int)=(act0 s e).2.1 then (act0 s e).1.ans k+1 else (act0 s e).1.ans k },(act0 s e).2,outl (act0 s e).1):=by
 unfold doS act0;rw[if_pos h]
theorem do_end{w wa w5:World}{F Fx:Nat→Prop}{S5:St}{A1:Adr}{l:List Cmd}(hBa:Below w.heap.size w wa)(hza:wa.heap.size=w.heap.size+2)(hF:∀ x,Fx x→x < w.heap.size∧Grow F w w x)(R5:Rs wa Fx w5 S5 A1)(hl:S5.out=some l):
  ∃ ov,w5.cell? ⟨A1.core,10,none⟩=some ov∧∀ (W9:World) (core:Nat) (a:Ans),Kept (fun x=>x=w.heap.size+1) w5 W9→A1.core=core→Done9 w F core { S5 with out:=none } a l (.returned (.tuple #[ansV a,ov])) W9:=by
 obtain⟨ov,F',g10,gS,gF,grow,gown⟩:=R5.1.release l hl;refine⟨ov,g10,fun W9 core a k hc=>?_⟩;have hz5:wa.heap.size≤w5.heap.size:=R5.2.size;have hz9:w5.heap.size≤W9.heap.size:=k.size;have hne:∀ x,Grow Fx wa w5 x→(F x∨w.heap.size≤x)∧x≠w.heap.size+1:=fun x hx=>by
  rcases hx with hx|hx
  ·obtain⟨h1,h2⟩:=hF x hx
   rcases h2 with h2|h2
   ·exact⟨.inl h2,by omega⟩
   ·omega
  ·have:=hx.1
   exact⟨.inr (by omega),by omega⟩
 refine⟨ov,A1,F',rfl,hc,gS.kept k (fun x hx=>(hne x (gF x hx).1).2),?_,fun x hx=>⟨(hne x (gF x hx).1).1,by have:=(gF x hx).2;omega⟩,P14.row_kept grow k (fun g hg=>(hne g (gown g hg).2).2),fun g hg=>⟨(gown g hg).1,(hne g (gown g hg).2).1⟩⟩;refine((Kept.of_below (F:=F) hBa).trans R5.2 (fun x hx hh=>?_)).trans k (fun x hx hh=>by omega);rcases (hF x hh).2 with h2|h2
 ·exact h2
 ·omega
theorem do_no(s:St)(e:P16.Evt)(hne:¬ P16.right e)(A:Adr)(F:Nat→Prop)(w:World)(h0:Sys w s A F):
  Calls Tryz.prog 14 #[.pointer (some ⟨A.core,0,none⟩),.agg (P16.evc e)] w fun r w'=>Done9 w F A.core s (1,0,0,1) [] r w':=by
 obtain⟨wa,hwa⟩:∃ wa,(w.alloc (.cells (P16.evc e) 28)).alloc (.cells #[.int .i64 0,.int .i64 0,.int .i64 0,.int .i64 0] 38)=wa:=⟨_,rfl⟩;have hBa:Below w.heap.size w wa:=by subst hwa;exact((Below.refl _ w).alloc (Nat.le_refl _) _).alloc (by simp) _
 have hza:wa.heap.size=w.heap.size+2:=by subst hwa;simp
 have hE:P16.Ev wa w.heap.size e:=by
  subst hwa;exact(Below.heap_alloc _ _ _ (by simp)).trans (P16.Ev.new w e)
 have hca:wa.heap[w.heap.size+1]?=some (.cells #[.int .i64 0,.int .i64 0,.int .i64 0,.int .i64 0] 38 (0,0)):=by
  subst hwa;have:=heap_alloc_new (w.alloc (.cells (P16.evc e) 28)) (.cells #[.int .i64 0,.int .i64 0,.int .i64 0,.int .i64 0] 38);rw[World.size_alloc] at this;exact this
 have hri:=P16.right_any e wa;rw[decide_eq_false hne] at hri;obtain⟨v0,v1,v2,v3,v4,v5,v6,v7,v8,v9⟩:=hE.ten;have HX:=Lib.hid (And.intro h0 (And.intro hBa (And.intro hza hca)));clear h0 hBa hza hca hE;simp only[P16.evc] at hwa hri ⊢;go_enter Tryz.func14,Tryz.ntmps14
 go_wp2_with fail
 refine hri.mono ?_;clear hri v0 v1 v2 v3 v4 v5 v6 v7 v8 v9;rintro r w1 ⟨rfl,hB1⟩;have hb:w1.heap[w.heap.size+1]?=some (.cells #[.int .i64 0,.int .i64 0,.int .i64 0,.int .i64 0] 38 (0,0)):=(hB1.block _ (by have:=HX.out.2.2.1;omega)).trans HX.out.2.2.2;have hB2:Below w.heap.size w w1:=HX.out.2.1.trans (hB1.mono (by have:=HX.out.2.2.1;omega));have y0:=cell_of (j:=0) hb;have y1:=cell_of (j:=1) hb;have y2:=cell_of (j:=2) hb;have y3:=cell_of (j:=3) hb;have fz:=fun j=>frozen_of (j:=j) hb;have HZ:=Lib.hid (And.intro hb (And.intro hB1 hB2));clear hb hB1 hB2;go_wp2_with fail
 change bodyPost _ _ _ _ _ (set4 w1 (w.heap.size+1) (.int .i64 1) (.int .i64 0) (.int .i64 0) (.int .i64 1));have k4:=set4_kept w1 (w.heap.size+1) (.int .i64 1) (.int .i64 0) (.int .i64 0) (.int .i64 1);have b4:=set4_block HZ.out.1 (.int .i64 1) (.int .i64 0) (.int .i64 0) (.int .i64 1);generalize set4 w1 (w.heap.size+1) (.int .i64 1) (.int .i64 0) (.int .i64 0) (.int .i64 1)=W9 at *;have a0:=cell_of (j:=0) b4;have a1:=cell_of (j:=1) b4;have a2:=cell_of (j:=2) b4;have a3:=cell_of (j:=3) b4;have hz1:=HZ.out.2.1.size;have hz4:=k4.size;have hz:=HX.out.2.2.1;have hB9:Below w.heap.size w W9:=HZ.out.2.2.trans (k4.below (by omega) (fun x hx e=>by omega));refine bodyPost_ret (by simp[results,Tryz.results14,go_sem,a0,a1,a2,a3];try rfl) rfl ?_;exact⟨_,A,fun x=>F x∧x < w.heap.size,rfl,rfl,HX.out.1.lt.below hB9,Kept.of_below hB9,fun x hx=>⟨.inl hx.1,by omega⟩,World.ownsRow_nil _ 0 43 4,fun g hg=>by cases hg⟩
theorem do_yes(s:St)(N M:Nat)(hI:Inv s N none_)(hN:N < 4095)(hL:s.boxes.length≤996000000)(hU:UntOk s)(hA:∀ k,0≤s.ans k∧s.ans k≤1000000000)(e:P16.Evt)(hri0:P16.right e)(A:Adr)(F:Nat→Prop)(w:World)(h0:Sys w s A F):
  Calls Tryz.prog 14 #[.pointer (some ⟨A.core,0,none⟩),.agg (P16.evc e)] w fun r w'=>Done9 w F A.core (doS s e).1 (doS s e).2.1 (doS s e).2.2 r w':=by
 rw[doS_yes hri0];have hr:∀ j,0≤e j:=fun j=>by
  rcases hri0.2.2 j with h|h|h
  ·subst h;exact hri0.1.1
  ·exact(hri0.2.1 j h).1
  ·omega
 have hr9:e 0≤9:=hri0.1.2;have hw1:(Lit.int .i64 (e 1)).wf=true:=WalkArith.wf_i64 (by
  have h1:=hr 1;rcases hri0.2.2 1 with h|h|h
  ·cases h
  ·have:=(hri0.2.1 1 h).2;omega
  ·omega)
 have h:Rs w F w s A:=Rs.start h0;obtain⟨wa,hwa⟩:∃ wa,(w.alloc (.cells (P16.evc e) 28)).alloc (.cells #[.int .i64 0,.int .i64 0,.int .i64 0,.int .i64 0] 38)=wa:=⟨_,rfl⟩;have hBa:Below w.heap.size w wa:=by subst hwa;exact((Below.refl _ w).alloc (Nat.le_refl _) _).alloc (by simp) _
 have hza:wa.heap.size=w.heap.size+2:=by subst hwa;simp
 have hE:P16.Ev wa w.heap.size e:=by
  subst hwa;exact(Below.heap_alloc _ _ _ (by simp)).trans (P16.Ev.new w e)
 have hca:wa.heap[w.heap.size+1]?=some (.cells #[.int .i64 0,.int .i64 0,.int .i64 0,.int .i64 0] 38 (0,0)):=by
  subst hwa;have:=heap_alloc_new (w.alloc (.cells (P16.evc e) 28)) (.cells #[.int .i64 0,.int .i64 0,.int .i64 0,.int .i64 0] 38);rw[World.size_alloc] at this;exact this
 have hRa:=h.fresh hBa;obtain⟨Fx,hFx⟩:∃ Fx:Nat→Prop,(fun x=>Grow F w w x∧x < w.heap.size)=Fx:=⟨_,rfl⟩;rw[hFx] at hRa;have hFlt:Hid (∀ x,Fx x→x < w.heap.size∧Grow F w w x):=fun x hx=>by rw[← hFx] at hx;exact⟨hx.2,hx.1⟩
 have HEV:Hid (∀ (W:World) (s':St) (A':Adr),Rs wa Fx W s' A'→P16.Ev W w.heap.size e):=fun W s' A' h'=>(h'.2.block _ (by omega) (fun x=>by have:=(hFlt.out _ x).1;omega)).trans hE;have HB:Hid (∀ (W:World) (s':St) (A':Adr),Rs wa Fx W s' A'→W.heap[w.heap.size+1]?=some (.cells #[.int .i64 0,.int .i64 0,.int .i64 0,.int .i64 0] 38 (0,0))):=fun W s' A' h'=>(h'.2.block _ (by omega) (fun x=>by have:=(hFlt.out _ x).1;omega)).trans hca;have HANS:Hid (∀ (W:World) (s':St) (A':Adr) (u0 u1 u2 u3:Value),Rs wa Fx W s' A'→Rs w F (set4 W (w.heap.size+1) u0 u1 u2 u3) s' A'∧(set4 W (w.heap.size+1) u0 u1 u2 u3).heap[w.heap.size+1]?=some (.cells #[u0,u1,u2,u3] 38 (0,0))):=fun W s' A' u0 u1 u2 u3 h'=>
  ⟨Rs.answer2 h hBa ⟨by omega,by omega⟩ h' (hFlt.out) (set4_kept W (w.heap.size+1) u0 u1 u2 u3),set4_block (HB.out W s' A' h') u0 u1 u2 u3⟩
 obtain⟨v0,v1,v2,v3,v4,v5,v6,v7,v8,v9⟩:=hE.ten;have hri:=P16.right_any e wa;rw[decide_eq_true hri0] at hri;have hI0:Inv { s with out:=some [] } N none_:=hI.aside (some []) s.unt s.ans (by have:=(dead_bd s).1;show ((0:Nat):Int)≤_;omega);have HACT:Hid (∀ W,Rs wa Fx W { s with out:=some [] } A→Calls Tryz.prog 28 #[.pointer (some ⟨A.core,0,none⟩),.agg (P16.evc e)] W fun r w'=>r=.returned (ansV (act0 s e).2)∧Ry wa Fx w' (act0 s e).1 A.core):=fun W h'=>act_any { s with out:=some [] } N hI0 hN hL rfl hU e hr hr9 hw1 A wa Fx W h';obtain⟨i1,i2,-⟩:=hI0.act_ rfl hL hU e hr;have i2:(act0 s e).1.out.isSome=true:=i2;have hans:(act0 s e).1.ans=s.ans:=act_ans _ e;obtain⟨k,hk5,hkk⟩:∃ k:Nat,k < 5∧(act0 s e).2.1=(k:Int):=actS_kind { s with out:=some [] } e;obtain⟨⟨S,x0,x1,x2,x3⟩,hS⟩:∃ x,act0 s e=x:=⟨_,rfl⟩;rw[hS] at HACT i2 hans hkk ⊢;dsimp only[ansV] at HACT i2 hans hkk ⊢;obtain⟨l,hl⟩:=Option.isSome_iff_exists.1 i2;have hol:outl S=l:=by unfold outl;rw[hl];rfl
 have hfin:({ S with out:=none,ans:=fun j=>if (j:Int)=x0 then S.ans j+1 else S.ans j }:St)={ ({ S with ans:=ansPut S.ans k (S.ans k+1) }:St) with out:=none }:=by
  have:(fun j:Nat=>if (j:Int)=x0 then S.ans j+1 else S.ans j)=ansPut S.ans k (S.ans k+1):=by
   funext j
   unfold ansPut;by_cases e:j=k
   ·subst e;rw[if_pos rfl,if_pos hkk.symm]
   ·rw[if_neg e,if_neg (by omega)]
  rw[this]
 rw[hol,hfin];have hak:0≤S.ans k∧S.ans k≤1000000000:=by rw[hans];exact hA k
 have HP:=Lib.hid (And.intro hl (And.intro hBa (And.intro hza (And.intro hFx h))));have HZB:Hid (∀ W,Rs wa Fx W s A→Rs wa Fx (W.setCell ⟨A.core,10,none⟩ (.slice none 0 0)) { s with out:=some [] } A∧(∃ ov,W.cell? ⟨A.core,10,none⟩=some ov)∧W.frozen? ⟨A.core,10,none⟩=false):=fun W h'=>by
  obtain⟨ov,hc,-⟩:=h'.1.core;exact⟨outNil_rs h',⟨_,(cell_of hc).trans rfl⟩,frozen_of hc⟩
 have HRA:=Lib.hid hRa;clear h h0 hBa hza hE hca hRa hFx hr hI hI0 hU hA i1 i2 hans hl hol hfin hr9 hw1 hS;simp only[P16.evc] at hwa hri HACT ⊢;go_enter Tryz.func14,Tryz.ntmps14
 go_wp2_with fail
 refine hri.mono ?_;clear hri v0 v1 v2 v3 v4 v5 v6 v7 v8 v9;rintro r w1 ⟨rfl,hB1⟩;have h1:=HRA.out.below hB1;obtain⟨h2,⟨ov0,q10⟩,fr10⟩:=HZB.out w1 h1;obtain⟨v0,v1,v2,v3,v4,v5,v6,v7,v8,v9⟩:=(HEV.out _ _ _ h2).ten;have hac:=HACT.out _ h2;clear hB1 h1 h2;go_wp2_with fail
 refine hac.mono ?_;clear hac v0 v1 v2 v3 v4 v5 v6 v7 v8 v9 q10 fr10;rintro r w3 ⟨rfl,A1,hA1,h3⟩;have hcc:A.core < w3.heap.size:=by have:=h3.lt;rw[hA1] at this;exact this
 obtain⟨w4,hw4⟩:∃ w4,w3.alloc (.cells #[.int .i64 x0,.int .i64 x1,.int .i64 x2,.int .i64 x3] 38)=w4:=⟨_,rfl⟩;have hB4:Below w3.heap.size w3 w4:=by rw[← hw4];exact(Below.refl _ w3).alloc (Nat.le_refl _) _
 have hb6:w4.heap[w3.heap.size]?=some (.cells #[.int .i64 x0,.int .i64 x1,.int .i64 x2,.int .i64 x3] 38 (0,0)):=by rw[← hw4];exact heap_alloc_new _ _
 have h4:=h3.below hB4;have HZ3:Hid (wa.heap.size≤w3.heap.size):=h3.2.size;have H4:=Lib.hid (And.intro h4 (And.intro hak hkk));clear h3 hB4 h4 hak hkk;have HB6:=Lib.hid (And.intro hb6 hcc);clear hb6 hcc;go_wp2_with fail
 obtain⟨b6,hb6e⟩:∃ b,w3.heap.size=b:=⟨_,rfl⟩;have HBL:Hid (wa.heap.size≤w3.heap.size):=HZ3.out;rw[hb6e] at HB6 HBL ⊢;clear hb6e hw4;rcases (by omega:k=0∨k=1∨k=2∨k=3∨k=4) with rfl|rfl|rfl|rfl|rfl
 ·obtain rfl:x0=0:=H4.out.2.2
  obtain⟨q1,q2,h5⟩:=ans_rs H4.out.1.drew 0 (by decide) (S.ans 0+1);rw[hA1] at q1 q2 h5;have hcn:=count_any A.core (11+0) (S.ans 0) H4.out.2.1 w4.drew q1 q2;obtain⟨vv,hvv⟩:∃ v,S.ans 0+1=v:=⟨_,rfl⟩;rw[hvv] at hcn h5;have z0:w4.drew.cell? ⟨b6,0,none⟩=some (.int .i64 0):=cell_of (j:=0) HB6.out.1;have HH5:=Lib.hid (And.intro h5 hvv);clear h5 q1 q2 hvv;refine wp_region_still_tail 6 (by kernel_rfl) (by kernel_rfl) ?_;simp only[List.take_succ_cons,List.take_zero,List.drop_succ_cons,List.drop_zero]
  repeat still_step
  refine wpStill_nil ?_;change wpList _ _ _ _ _ w4.drew;clear z0;go_wp2_with fail
  refine hcn.mono ?_;clear hcn;rintro r w5 ⟨rfl,hw5⟩;have h5:=HH5.out.1;have hb6:(w4.drew.setCell ⟨A.core,11+0,none⟩ (.int .i64 vv)).heap[b6]?=some (.cells #[.int .i64 0,.int .i64 x1,.int .i64 x2,.int .i64 x3] 38 (0,0)):=((Kept.set1 w4.drew A.core (11+0) (.int .i64 vv)).block b6 (lt_of (show w4.drew.heap[b6]?=_ from HB6.out.1)) (by have:=HB6.out.2;omega)).trans HB6.out.1;have hw5':w5=w4.drew.setCell ⟨A.core,11+0,none⟩ (.int .i64 vv):=hw5;rw[← hw5'] at h5 hb6;clear hw5 hw5';have hb:=HB.out w5 _ _ h5;obtain⟨ov,g10,hend⟩:=do_end HP.out.2.1 HP.out.2.2.1 hFlt.out h5 HP.out.1;rw[hA1] at g10;have y0:=cell_of (j:=0) hb;have y1:=cell_of (j:=1) hb;have y2:=cell_of (j:=2) hb;have y3:=cell_of (j:=3) hb;have fz:=fun j=>frozen_of (j:=j) hb;have z0:=cell_of (j:=0) hb6;have z1:=cell_of (j:=1) hb6;have z2:=cell_of (j:=2) hb6;have z3:=cell_of (j:=3) hb6;have b4:=set4_block (show w5.drew.heap[w.heap.size+1]?=_ from hb) (.int .i64 0) (.int .i64 x1) (.int .i64 x2) (.int .i64 x3);have k4:=(Kept.refl (fun x=>x=w.heap.size+1) w5).drew.trans (set4_kept w5.drew (w.heap.size+1) (.int .i64 0) (.int .i64 x1) (.int .i64 x2) (.int .i64 x3)) (fun _ _ e=>e);have HE:=Lib.hid (And.intro hend (And.intro b4 k4));have HVV:=HH5.out.2;have hS6:∀ W,Kept (fun x=>x=w.heap.size+1) w5 W→W.cell? ⟨b6,0,none⟩=some (.int .i64 0)∧W.cell? ⟨b6,1,none⟩=some (.int .i64 x1)∧W.cell? ⟨b6,2,none⟩=some (.int .i64 x2)∧W.cell? ⟨b6,3,none⟩=some (.int .i64 x3)∧W.cell? ⟨A.core,10,none⟩=some ov:=fun W hk=>by
   have e1:W.heap[b6]?=w5.heap[b6]?:=hk.block _ (lt_of hb6) (fun e=>by have:=HB6.out.2;have:=HBL.out;have:=HP.out.2.2.1;omega);have e2:W.heap[A.core]?=w5.heap[A.core]?:=hk.block _ (World.block_lt_of_cell? w5 _ g10) (fun e=>by have:=HP.out.2.2.2.2.lt;omega);exact⟨by rw[World.cell?_of_block e1];exact z0,by rw[World.cell?_of_block e1];exact z1,by rw[World.cell?_of_block e1];exact z2,by rw[World.cell?_of_block e1];exact z3,by rw[World.cell?_of_block e2];exact g10⟩
  have HS6:=Lib.hid hS6;clear h5 hb hb6 hend b4 k4 hS6;go_wp2_with fail
  refine wp_region_held_drew (S:=fun W=>W.cell? ⟨b6,0,none⟩=some (.int .i64 0)∧W.cell? ⟨b6,1,none⟩=some (.int .i64 x1)∧W.cell? ⟨b6,2,none⟩=some (.int .i64 x2)∧W.cell? ⟨b6,3,none⟩=some (.int .i64 x3)∧W.cell? ⟨A.core,10,none⟩=some ov) (by kernel_rfl) (HS6.out w5.drew ((Kept.refl _ w5).drew)) (fun hHeld=>?_);refine tkH 0 (v:=?v0k0) rfl ?hy0k0 ?rest0k0
  case hy0k0=>intro w hSw;(try dsimp only at hSw);go_simp;try with_reducible rfl
  simp only[Act.put,List.setIfInBounds_toArray,List.set_cons_zero,List.set_cons_succ];refine tkH 1 (v:=?v1k0) rfl ?hy1k0 ?rest1k0
  case hy1k0=>intro w hSw;(try dsimp only at hSw);go_simp;try with_reducible rfl
  simp only[Act.put,List.setIfInBounds_toArray,List.set_cons_zero,List.set_cons_succ];refine tkH 2 (v:=?v2k0) rfl ?hy2k0 ?rest2k0
  case hy2k0=>intro w hSw;(try dsimp only at hSw);go_simp;try with_reducible rfl
  simp only[Act.put,List.setIfInBounds_toArray,List.set_cons_zero,List.set_cons_succ];refine tkH 3 (v:=?v3k0) rfl ?hy3k0 ?rest3k0
  case hy3k0=>intro w hSw;(try dsimp only at hSw);go_simp;try with_reducible rfl
  simp only[Act.put,List.setIfInBounds_toArray,List.set_cons_zero,List.set_cons_succ];refine tkH 4 (v:=?v4k0) rfl ?hy4k0 ?rest4k0
  case hy4k0=>intro w hSw;(try dsimp only at hSw);go_simp;try with_reducible rfl
  simp only[Act.put,List.setIfInBounds_toArray,List.set_cons_zero,List.set_cons_succ];refine wpAnyH_ready (rs:=[5]) (by kernel_rfl) (by simp) ?_;refine AllReadyH.cons (o:=_) rfl (fun K hK=>?_) AllReadyH.nil;go_simp
  refine hK.out _ _ (HS6.out _ HE.out.2.2) (fun hHeld=>?_);clear hK K;refine wpAnyH_ready (rs:=[6]) (by kernel_rfl) (by simp) ?_;refine AllReadyH.cons (o:=_) rfl (fun K hK=>?_) AllReadyH.nil;go_simp
  refine hK.out _ _ (HS6.out _ HE.out.2.2) (fun hHeld=>?_);clear hK K;refine wpAnyH_done (by kernel_rfl) ?_ _;go_wp2_with fail
  change bodyPost _ _ _ _ _ (set4 w5.drew (w.heap.size+1) (.int .i64 0) (.int .i64 x1) (.int .i64 x2) (.int .i64 x3));have b4:=HE.out.2.1;have k4:=HE.out.2.2;generalize set4 w5.drew (w.heap.size+1) (.int .i64 0) (.int .i64 x1) (.int .i64 x2) (.int .i64 x3)=W9 at *;have a0:=cell_of (j:=0) b4;have a1:=cell_of (j:=1) b4;have a2:=cell_of (j:=2) b4;have a3:=cell_of (j:=3) b4;refine bodyPost_ret (by simp[results,Tryz.results14,go_sem,a0,a1,a2,a3];try rfl) rfl ?_;have hd:=HE.out.1 W9 A.core (0,x1,x2,x3) k4 hA1;rw[← HVV] at hd;exact hd
 ·obtain rfl:x0=1:=H4.out.2.2
  obtain⟨q1,q2,h5⟩:=ans_rs H4.out.1.drew 1 (by decide) (S.ans 1+1);rw[hA1] at q1 q2 h5;have hcn:=count_any A.core (11+1) (S.ans 1) H4.out.2.1 w4.drew q1 q2;obtain⟨vv,hvv⟩:∃ v,S.ans 1+1=v:=⟨_,rfl⟩;rw[hvv] at hcn h5;have z0:w4.drew.cell? ⟨b6,0,none⟩=some (.int .i64 1):=cell_of (j:=0) HB6.out.1;have HH5:=Lib.hid (And.intro h5 hvv);clear h5 q1 q2 hvv;refine wp_region_still_tail 6 (by kernel_rfl) (by kernel_rfl) ?_;simp only[List.take_succ_cons,List.take_zero,List.drop_succ_cons,List.drop_zero]
  repeat still_step
  refine wpStill_nil ?_;change wpList _ _ _ _ _ w4.drew;clear z0;go_wp2_with fail
  refine hcn.mono ?_;clear hcn;rintro r w5 ⟨rfl,hw5⟩;have h5:=HH5.out.1;have hb6:(w4.drew.setCell ⟨A.core,11+1,none⟩ (.int .i64 vv)).heap[b6]?=some (.cells #[.int .i64 1,.int .i64 x1,.int .i64 x2,.int .i64 x3] 38 (0,0)):=((Kept.set1 w4.drew A.core (11+1) (.int .i64 vv)).block b6 (lt_of (show w4.drew.heap[b6]?=_ from HB6.out.1)) (by have:=HB6.out.2;omega)).trans HB6.out.1;have hw5':w5=w4.drew.setCell ⟨A.core,11+1,none⟩ (.int .i64 vv):=hw5;rw[← hw5'] at h5 hb6;clear hw5 hw5';have hb:=HB.out w5 _ _ h5;obtain⟨ov,g10,hend⟩:=do_end HP.out.2.1 HP.out.2.2.1 hFlt.out h5 HP.out.1;rw[hA1] at g10;have y0:=cell_of (j:=0) hb;have y1:=cell_of (j:=1) hb;have y2:=cell_of (j:=2) hb;have y3:=cell_of (j:=3) hb;have fz:=fun j=>frozen_of (j:=j) hb;have z0:=cell_of (j:=0) hb6;have z1:=cell_of (j:=1) hb6;have z2:=cell_of (j:=2) hb6;have z3:=cell_of (j:=3) hb6;have b4:=set4_block (show w5.drew.heap[w.heap.size+1]?=_ from hb) (.int .i64 1) (.int .i64 x1) (.int .i64 x2) (.int .i64 x3);have k4:=(Kept.refl (fun x=>x=w.heap.size+1) w5).drew.trans (set4_kept w5.drew (w.heap.size+1) (.int .i64 1) (.int .i64 x1) (.int .i64 x2) (.int .i64 x3)) (fun _ _ e=>e);have HE:=Lib.hid (And.intro hend (And.intro b4 k4));have HVV:=HH5.out.2;have hS6:∀ W,Kept (fun x=>x=w.heap.size+1) w5 W→W.cell? ⟨b6,0,none⟩=some (.int .i64 1)∧W.cell? ⟨b6,1,none⟩=some (.int .i64 x1)∧W.cell? ⟨b6,2,none⟩=some (.int .i64 x2)∧W.cell? ⟨b6,3,none⟩=some (.int .i64 x3)∧W.cell? ⟨A.core,10,none⟩=some ov:=fun W hk=>by
   have e1:W.heap[b6]?=w5.heap[b6]?:=hk.block _ (lt_of hb6) (fun e=>by have:=HB6.out.2;have:=HBL.out;have:=HP.out.2.2.1;omega);have e2:W.heap[A.core]?=w5.heap[A.core]?:=hk.block _ (World.block_lt_of_cell? w5 _ g10) (fun e=>by have:=HP.out.2.2.2.2.lt;omega);exact⟨by rw[World.cell?_of_block e1];exact z0,by rw[World.cell?_of_block e1];exact z1,by rw[World.cell?_of_block e1];exact z2,by rw[World.cell?_of_block e1];exact z3,by rw[World.cell?_of_block e2];exact g10⟩
  have HS6:=Lib.hid hS6;clear h5 hb hb6 hend b4 k4 hS6;go_wp2_with fail
  refine wp_region_held_drew (S:=fun W=>W.cell? ⟨b6,0,none⟩=some (.int .i64 1)∧W.cell? ⟨b6,1,none⟩=some (.int .i64 x1)∧W.cell? ⟨b6,2,none⟩=some (.int .i64 x2)∧W.cell? ⟨b6,3,none⟩=some (.int .i64 x3)∧W.cell? ⟨A.core,10,none⟩=some ov) (by kernel_rfl) (HS6.out w5.drew ((Kept.refl _ w5).drew)) (fun hHeld=>?_);refine tkH 0 (v:=?v0k1) rfl ?hy0k1 ?rest0k1
  case hy0k1=>intro w hSw;(try dsimp only at hSw);go_simp;try with_reducible rfl
  simp only[Act.put,List.setIfInBounds_toArray,List.set_cons_zero,List.set_cons_succ];refine tkH 1 (v:=?v1k1) rfl ?hy1k1 ?rest1k1
  case hy1k1=>intro w hSw;(try dsimp only at hSw);go_simp;try with_reducible rfl
  simp only[Act.put,List.setIfInBounds_toArray,List.set_cons_zero,List.set_cons_succ];refine tkH 2 (v:=?v2k1) rfl ?hy2k1 ?rest2k1
  case hy2k1=>intro w hSw;(try dsimp only at hSw);go_simp;try with_reducible rfl
  simp only[Act.put,List.setIfInBounds_toArray,List.set_cons_zero,List.set_cons_succ];refine tkH 3 (v:=?v3k1) rfl ?hy3k1 ?rest3k1
  case hy3k1=>intro w hSw;(try dsimp only at hSw);go_simp;try with_reducible rfl
  simp only[Act.put,List.setIfInBounds_toArray,List.set_cons_zero,List.set_cons_succ];refine tkH 4 (v:=?v4k1) rfl ?hy4k1 ?rest4k1
  case hy4k1=>intro w hSw;(try dsimp only at hSw);go_simp;try with_reducible rfl
  simp only[Act.put,List.setIfInBounds_toArray,List.set_cons_zero,List.set_cons_succ];refine wpAnyH_ready (rs:=[5]) (by kernel_rfl) (by simp) ?_;refine AllReadyH.cons (o:=_) rfl (fun K hK=>?_) AllReadyH.nil;go_simp
  refine hK.out _ _ (HS6.out _ HE.out.2.2) (fun hHeld=>?_);clear hK K;refine wpAnyH_ready (rs:=[6]) (by kernel_rfl) (by simp) ?_;refine AllReadyH.cons (o:=_) rfl (fun K hK=>?_) AllReadyH.nil;go_simp
  refine hK.out _ _ (HS6.out _ HE.out.2.2) (fun hHeld=>?_);clear hK K;refine wpAnyH_done (by kernel_rfl) ?_ _;go_wp2_with fail
  change bodyPost _ _ _ _ _ (set4 w5.drew (w.heap.size+1) (.int .i64 1) (.int .i64 x1) (.int .i64 x2) (.int .i64 x3));have b4:=HE.out.2.1;have k4:=HE.out.2.2;generalize set4 w5.drew (w.heap.size+1) (.int .i64 1) (.int .i64 x1) (.int .i64 x2) (.int .i64 x3)=W9 at *;have a0:=cell_of (j:=0) b4;have a1:=cell_of (j:=1) b4;have a2:=cell_of (j:=2) b4;have a3:=cell_of (j:=3) b4;refine bodyPost_ret (by simp[results,Tryz.results14,go_sem,a0,a1,a2,a3];try rfl) rfl ?_;have hd:=HE.out.1 W9 A.core (1,x1,x2,x3) k4 hA1;rw[← HVV] at hd;exact hd
 ·obtain rfl:x0=2:=H4.out.2.2
  obtain⟨q1,q2,h5⟩:=ans_rs H4.out.1.drew 2 (by decide) (S.ans 2+1);rw[hA1] at q1 q2 h5;have hcn:=count_any A.core (11+2) (S.ans 2) H4.out.2.1 w4.drew q1 q2;obtain⟨vv,hvv⟩:∃ v,S.ans 2+1=v:=⟨_,rfl⟩;rw[hvv] at hcn h5;have z0:w4.drew.cell? ⟨b6,0,none⟩=some (.int .i64 2):=cell_of (j:=0) HB6.out.1;have HH5:=Lib.hid (And.intro h5 hvv);clear h5 q1 q2 hvv;refine wp_region_still_tail 6 (by kernel_rfl) (by kernel_rfl) ?_;simp only[List.take_succ_cons,List.take_zero,List.drop_succ_cons,List.drop_zero]
  repeat still_step
  refine wpStill_nil ?_;change wpList _ _ _ _ _ w4.drew;clear z0;go_wp2_with fail
  refine hcn.mono ?_;clear hcn;rintro r w5 ⟨rfl,hw5⟩;have h5:=HH5.out.1;have hb6:(w4.drew.setCell ⟨A.core,11+2,none⟩ (.int .i64 vv)).heap[b6]?=some (.cells #[.int .i64 2,.int .i64 x1,.int .i64 x2,.int .i64 x3] 38 (0,0)):=((Kept.set1 w4.drew A.core (11+2) (.int .i64 vv)).block b6 (lt_of (show w4.drew.heap[b6]?=_ from HB6.out.1)) (by have:=HB6.out.2;omega)).trans HB6.out.1;have hw5':w5=w4.drew.setCell ⟨A.core,11+2,none⟩ (.int .i64 vv):=hw5;rw[← hw5'] at h5 hb6;clear hw5 hw5';have hb:=HB.out w5 _ _ h5;obtain⟨ov,g10,hend⟩:=do_end HP.out.2.1 HP.out.2.2.1 hFlt.out h5 HP.out.1;rw[hA1] at g10;have y0:=cell_of (j:=0) hb;have y1:=cell_of (j:=1) hb;have y2:=cell_of (j:=2) hb;have y3:=cell_of (j:=3) hb;have fz:=fun j=>frozen_of (j:=j) hb;have z0:=cell_of (j:=0) hb6;have z1:=cell_of (j:=1) hb6;have z2:=cell_of (j:=2) hb6;have z3:=cell_of (j:=3) hb6;have b4:=set4_block (show w5.drew.heap[w.heap.size+1]?=_ from hb) (.int .i64 2) (.int .i64 x1) (.int .i64 x2) (.int .i64 x3);have k4:=(Kept.refl (fun x=>x=w.heap.size+1) w5).drew.trans (set4_kept w5.drew (w.heap.size+1) (.int .i64 2) (.int .i64 x1) (.int .i64 x2) (.int .i64 x3)) (fun _ _ e=>e);have HE:=Lib.hid (And.intro hend (And.intro b4 k4));have HVV:=HH5.out.2;have hS6:∀ W,Kept (fun x=>x=w.heap.size+1) w5 W→W.cell? ⟨b6,0,none⟩=some (.int .i64 2)∧W.cell? ⟨b6,1,none⟩=some (.int .i64 x1)∧W.cell? ⟨b6,2,none⟩=some (.int .i64 x2)∧W.cell? ⟨b6,3,none⟩=some (.int .i64 x3)∧W.cell? ⟨A.core,10,none⟩=some ov:=fun W hk=>by
   have e1:W.heap[b6]?=w5.heap[b6]?:=hk.block _ (lt_of hb6) (fun e=>by have:=HB6.out.2;have:=HBL.out;have:=HP.out.2.2.1;omega);have e2:W.heap[A.core]?=w5.heap[A.core]?:=hk.block _ (World.block_lt_of_cell? w5 _ g10) (fun e=>by have:=HP.out.2.2.2.2.lt;omega);exact⟨by rw[World.cell?_of_block e1];exact z0,by rw[World.cell?_of_block e1];exact z1,by rw[World.cell?_of_block e1];exact z2,by rw[World.cell?_of_block e1];exact z3,by rw[World.cell?_of_block e2];exact g10⟩
  have HS6:=Lib.hid hS6;clear h5 hb hb6 hend b4 k4 hS6;go_wp2_with fail
  refine wp_region_held_drew (S:=fun W=>W.cell? ⟨b6,0,none⟩=some (.int .i64 2)∧W.cell? ⟨b6,1,none⟩=some (.int .i64 x1)∧W.cell? ⟨b6,2,none⟩=some (.int .i64 x2)∧W.cell? ⟨b6,3,none⟩=some (.int .i64 x3)∧W.cell? ⟨A.core,10,none⟩=some ov) (by kernel_rfl) (HS6.out w5.drew ((Kept.refl _ w5).drew)) (fun hHeld=>?_);refine tkH 0 (v:=?v0k2) rfl ?hy0k2 ?rest0k2
  case hy0k2=>intro w hSw;(try dsimp only at hSw);go_simp;try with_reducible rfl
  simp only[Act.put,List.setIfInBounds_toArray,List.set_cons_zero,List.set_cons_succ];refine tkH 1 (v:=?v1k2) rfl ?hy1k2 ?rest1k2
  case hy1k2=>intro w hSw;(try dsimp only at hSw);go_simp;try with_reducible rfl
  simp only[Act.put,List.setIfInBounds_toArray,List.set_cons_zero,List.set_cons_succ];refine tkH 2 (v:=?v2k2) rfl ?hy2k2 ?rest2k2
  case hy2k2=>intro w hSw;(try dsimp only at hSw);go_simp;try with_reducible rfl
  simp only[Act.put,List.setIfInBounds_toArray,List.set_cons_zero,List.set_cons_succ];refine tkH 3 (v:=?v3k2) rfl ?hy3k2 ?rest3k2
  case hy3k2=>intro w hSw;(try dsimp only at hSw);go_simp;try with_reducible rfl
  simp only[Act.put,List.setIfInBounds_toArray,List.set_cons_zero,List.set_cons_succ];refine tkH 4 (v:=?v4k2) rfl ?hy4k2 ?rest4k2
  case hy4k2=>intro w hSw;(try dsimp only at hSw);go_simp;try with_reducible rfl
  simp only[Act.put,List.setIfInBounds_toArray,List.set_cons_zero,List.set_cons_succ];refine wpAnyH_ready (rs:=[5]) (by kernel_rfl) (by simp) ?_;refine AllReadyH.cons (o:=_) rfl (fun K hK=>?_) AllReadyH.nil;go_simp
  refine hK.out _ _ (HS6.out _ HE.out.2.2) (fun hHeld=>?_);clear hK K;refine wpAnyH_ready (rs:=[6]) (by kernel_rfl) (by simp) ?_;refine AllReadyH.cons (o:=_) rfl (fun K hK=>?_) AllReadyH.nil;go_simp
  refine hK.out _ _ (HS6.out _ HE.out.2.2) (fun hHeld=>?_);clear hK K;refine wpAnyH_done (by kernel_rfl) ?_ _;go_wp2_with fail
  change bodyPost _ _ _ _ _ (set4 w5.drew (w.heap.size+1) (.int .i64 2) (.int .i64 x1) (.int .i64 x2) (.int .i64 x3));have b4:=HE.out.2.1;have k4:=HE.out.2.2;generalize set4 w5.drew (w.heap.size+1) (.int .i64 2) (.int .i64 x1) (.int .i64 x2) (.int .i64 x3)=W9 at *;have a0:=cell_of (j:=0) b4;have a1:=cell_of (j:=1) b4;have a2:=cell_of (j:=2) b4;have a3:=cell_of (j:=3) b4;refine bodyPost_ret (by simp[results,Tryz.results14,go_sem,a0,a1,a2,a3];try rfl) rfl ?_;have hd:=HE.out.1 W9 A.core (2,x1,x2,x3) k4 hA1;rw[← HVV] at hd;exact hd
 ·obtain rfl:x0=3:=H4.out.2.2
  obtain⟨q1,q2,h5⟩:=ans_rs H4.out.1.drew 3 (by decide) (S.ans 3+1);rw[hA1] at q1 q2 h5;have hcn:=count_any A.core (11+3) (S.ans 3) H4.out.2.1 w4.drew q1 q2;obtain⟨vv,hvv⟩:∃ v,S.ans 3+1=v:=⟨_,rfl⟩;rw[hvv] at hcn h5;have z0:w4.drew.cell? ⟨b6,0,none⟩=some (.int .i64 3):=cell_of (j:=0) HB6.out.1;have HH5:=Lib.hid (And.intro h5 hvv);clear h5 q1 q2 hvv;refine wp_region_still_tail 6 (by kernel_rfl) (by kernel_rfl) ?_;simp only[List.take_succ_cons,List.take_zero,List.drop_succ_cons,List.drop_zero]
  repeat still_step
  refine wpStill_nil ?_;change wpList _ _ _ _ _ w4.drew;clear z0;go_wp2_with fail
  refine hcn.mono ?_;clear hcn;rintro r w5 ⟨rfl,hw5⟩;have h5:=HH5.out.1;have hb6:(w4.drew.setCell ⟨A.core,11+3,none⟩ (.int .i64 vv)).heap[b6]?=some (.cells #[.int .i64 3,.int .i64 x1,.int .i64 x2,.int .i64 x3] 38 (0,0)):=((Kept.set1 w4.drew A.core (11+3) (.int .i64 vv)).block b6 (lt_of (show w4.drew.heap[b6]?=_ from HB6.out.1)) (by have:=HB6.out.2;omega)).trans HB6.out.1;have hw5':w5=w4.drew.setCell ⟨A.core,11+3,none⟩ (.int .i64 vv):=hw5;rw[← hw5'] at h5 hb6;clear hw5 hw5';have hb:=HB.out w5 _ _ h5;obtain⟨ov,g10,hend⟩:=do_end HP.out.2.1 HP.out.2.2.1 hFlt.out h5 HP.out.1;rw[hA1] at g10;have y0:=cell_of (j:=0) hb;have y1:=cell_of (j:=1) hb;have y2:=cell_of (j:=2) hb;have y3:=cell_of (j:=3) hb;have fz:=fun j=>frozen_of (j:=j) hb;have z0:=cell_of (j:=0) hb6;have z1:=cell_of (j:=1) hb6;have z2:=cell_of (j:=2) hb6;have z3:=cell_of (j:=3) hb6;have b4:=set4_block (show w5.drew.heap[w.heap.size+1]?=_ from hb) (.int .i64 3) (.int .i64 x1) (.int .i64 x2) (.int .i64 x3);have k4:=(Kept.refl (fun x=>x=w.heap.size+1) w5).drew.trans (set4_kept w5.drew (w.heap.size+1) (.int .i64 3) (.int .i64 x1) (.int .i64 x2) (.int .i64 x3)) (fun _ _ e=>e);have HE:=Lib.hid (And.intro hend (And.intro b4 k4));have HVV:=HH5.out.2;have hS6:∀ W,Kept (fun x=>x=w.heap.size+1) w5 W→W.cell? ⟨b6,0,none⟩=some (.int .i64 3)∧W.cell? ⟨b6,1,none⟩=some (.int .i64 x1)∧W.cell? ⟨b6,2,none⟩=some (.int .i64 x2)∧W.cell? ⟨b6,3,none⟩=some (.int .i64 x3)∧W.cell? ⟨A.core,10,none⟩=some ov:=fun W hk=>by
   have e1:W.heap[b6]?=w5.heap[b6]?:=hk.block _ (lt_of hb6) (fun e=>by have:=HB6.out.2;have:=HBL.out;have:=HP.out.2.2.1;omega);have e2:W.heap[A.core]?=w5.heap[A.core]?:=hk.block _ (World.block_lt_of_cell? w5 _ g10) (fun e=>by have:=HP.out.2.2.2.2.lt;omega);exact⟨by rw[World.cell?_of_block e1];exact z0,by rw[World.cell?_of_block e1];exact z1,by rw[World.cell?_of_block e1];exact z2,by rw[World.cell?_of_block e1];exact z3,by rw[World.cell?_of_block e2];exact g10⟩
  have HS6:=Lib.hid hS6;clear h5 hb hb6 hend b4 k4 hS6;go_wp2_with fail
  refine wp_region_held_drew (S:=fun W=>W.cell? ⟨b6,0,none⟩=some (.int .i64 3)∧W.cell? ⟨b6,1,none⟩=some (.int .i64 x1)∧W.cell? ⟨b6,2,none⟩=some (.int .i64 x2)∧W.cell? ⟨b6,3,none⟩=some (.int .i64 x3)∧W.cell? ⟨A.core,10,none⟩=some ov) (by kernel_rfl) (HS6.out w5.drew ((Kept.refl _ w5).drew)) (fun hHeld=>?_);refine tkH 0 (v:=?v0k3) rfl ?hy0k3 ?rest0k3
  case hy0k3=>intro w hSw;(try dsimp only at hSw);go_simp;try with_reducible rfl
  simp only[Act.put,List.setIfInBounds_toArray,List.set_cons_zero,List.set_cons_succ];refine tkH 1 (v:=?v1k3) rfl ?hy1k3 ?rest1k3
  case hy1k3=>intro w hSw;(try dsimp only at hSw);go_simp;try with_reducible rfl
  simp only[Act.put,List.setIfInBounds_toArray,List.set_cons_zero,List.set_cons_succ];refine tkH 2 (v:=?v2k3) rfl ?hy2k3 ?rest2k3
  case hy2k3=>intro w hSw;(try dsimp only at hSw);go_simp;try with_reducible rfl
  simp only[Act.put,List.setIfInBounds_toArray,List.set_cons_zero,List.set_cons_succ];refine tkH 3 (v:=?v3k3) rfl ?hy3k3 ?rest3k3
  case hy3k3=>intro w hSw;(try dsimp only at hSw);go_simp;try with_reducible rfl
  simp only[Act.put,List.setIfInBounds_toArray,List.set_cons_zero,List.set_cons_succ];refine tkH 4 (v:=?v4k3) rfl ?hy4k3 ?rest4k3
  case hy4k3=>intro w hSw;(try dsimp only at hSw);go_simp;try with_reducible rfl
  simp only[Act.put,List.setIfInBounds_toArray,List.set_cons_zero,List.set_cons_succ];refine wpAnyH_ready (rs:=[5]) (by kernel_rfl) (by simp) ?_;refine AllReadyH.cons (o:=_) rfl (fun K hK=>?_) AllReadyH.nil;go_simp
  refine hK.out _ _ (HS6.out _ HE.out.2.2) (fun hHeld=>?_);clear hK K;refine wpAnyH_ready (rs:=[6]) (by kernel_rfl) (by simp) ?_;refine AllReadyH.cons (o:=_) rfl (fun K hK=>?_) AllReadyH.nil;go_simp
  refine hK.out _ _ (HS6.out _ HE.out.2.2) (fun hHeld=>?_);clear hK K;refine wpAnyH_done (by kernel_rfl) ?_ _;go_wp2_with fail
  change bodyPost _ _ _ _ _ (set4 w5.drew (w.heap.size+1) (.int .i64 3) (.int .i64 x1) (.int .i64 x2) (.int .i64 x3));have b4:=HE.out.2.1;have k4:=HE.out.2.2;generalize set4 w5.drew (w.heap.size+1) (.int .i64 3) (.int .i64 x1) (.int .i64 x2) (.int .i64 x3)=W9 at *;have a0:=cell_of (j:=0) b4;have a1:=cell_of (j:=1) b4;have a2:=cell_of (j:=2) b4;have a3:=cell_of (j:=3) b4;refine bodyPost_ret (by simp[results,Tryz.results14,go_sem,a0,a1,a2,a3];try rfl) rfl ?_;have hd:=HE.out.1 W9 A.core (3,x1,x2,x3) k4 hA1;rw[← HVV] at hd;exact hd
 ·obtain rfl:x0=4:=H4.out.2.2
  obtain⟨q1,q2,h5⟩:=ans_rs H4.out.1.drew 4 (by decide) (S.ans 4+1);rw[hA1] at q1 q2 h5;have hcn:=count_any A.core (11+4) (S.ans 4) H4.out.2.1 w4.drew q1 q2;obtain⟨vv,hvv⟩:∃ v,S.ans 4+1=v:=⟨_,rfl⟩;rw[hvv] at hcn h5;have z0:w4.drew.cell? ⟨b6,0,none⟩=some (.int .i64 4):=cell_of (j:=0) HB6.out.1;have HH5:=Lib.hid (And.intro h5 hvv);clear h5 q1 q2 hvv;refine wp_region_still_tail 6 (by kernel_rfl) (by kernel_rfl) ?_;simp only[List.take_succ_cons,List.take_zero,List.drop_succ_cons,List.drop_zero]
  repeat still_step
  refine wpStill_nil ?_;change wpList _ _ _ _ _ w4.drew;clear z0;go_wp2_with fail
  refine hcn.mono ?_;clear hcn;rintro r w5 ⟨rfl,hw5⟩;have h5:=HH5.out.1;have hb6:(w4.drew.setCell ⟨A.core,11+4,none⟩ (.int .i64 vv)).heap[b6]?=some (.cells #[.int .i64 4,.int .i64 x1,.int .i64 x2,.int .i64 x3] 38 (0,0)):=((Kept.set1 w4.drew A.core (11+4) (.int .i64 vv)).block b6 (lt_of (show w4.drew.heap[b6]?=_ from HB6.out.1)) (by have:=HB6.out.2;omega)).trans HB6.out.1;have hw5':w5=w4.drew.setCell ⟨A.core,11+4,none⟩ (.int .i64 vv):=hw5;rw[← hw5'] at h5 hb6;clear hw5 hw5';have hb:=HB.out w5 _ _ h5;obtain⟨ov,g10,hend⟩:=do_end HP.out.2.1 HP.out.2.2.1 hFlt.out h5 HP.out.1;rw[hA1] at g10;have y0:=cell_of (j:=0) hb;have y1:=cell_of (j:=1) hb;have y2:=cell_of (j:=2) hb;have y3:=cell_of (j:=3) hb;have fz:=fun j=>frozen_of (j:=j) hb;have z0:=cell_of (j:=0) hb6;have z1:=cell_of (j:=1) hb6;have z2:=cell_of (j:=2) hb6;have z3:=cell_of (j:=3) hb6;have b4:=set4_block (show w5.drew.heap[w.heap.size+1]?=_ from hb) (.int .i64 4) (.int .i64 x1) (.int .i64 x2) (.int .i64 x3);have k4:=(Kept.refl (fun x=>x=w.heap.size+1) w5).drew.trans (set4_kept w5.drew (w.heap.size+1) (.int .i64 4) (.int .i64 x1) (.int .i64 x2) (.int .i64 x3)) (fun _ _ e=>e);have HE:=Lib.hid (And.intro hend (And.intro b4 k4));have HVV:=HH5.out.2;have hS6:∀ W,Kept (fun x=>x=w.heap.size+1) w5 W→W.cell? ⟨b6,0,none⟩=some (.int .i64 4)∧W.cell? ⟨b6,1,none⟩=some (.int .i64 x1)∧W.cell? ⟨b6,2,none⟩=some (.int .i64 x2)∧W.cell? ⟨b6,3,none⟩=some (.int .i64 x3)∧W.cell? ⟨A.core,10,none⟩=some ov:=fun W hk=>by
   have e1:W.heap[b6]?=w5.heap[b6]?:=hk.block _ (lt_of hb6) (fun e=>by have:=HB6.out.2;have:=HBL.out;have:=HP.out.2.2.1;omega);have e2:W.heap[A.core]?=w5.heap[A.core]?:=hk.block _ (World.block_lt_of_cell? w5 _ g10) (fun e=>by have:=HP.out.2.2.2.2.lt;omega);exact⟨by rw[World.cell?_of_block e1];exact z0,by rw[World.cell?_of_block e1];exact z1,by rw[World.cell?_of_block e1];exact z2,by rw[World.cell?_of_block e1];exact z3,by rw[World.cell?_of_block e2];exact g10⟩
  have HS6:=Lib.hid hS6;clear h5 hb hb6 hend b4 k4 hS6;go_wp2_with fail
  refine wp_region_held_drew (S:=fun W=>W.cell? ⟨b6,0,none⟩=some (.int .i64 4)∧W.cell? ⟨b6,1,none⟩=some (.int .i64 x1)∧W.cell? ⟨b6,2,none⟩=some (.int .i64 x2)∧W.cell? ⟨b6,3,none⟩=some (.int .i64 x3)∧W.cell? ⟨A.core,10,none⟩=some ov) (by kernel_rfl) (HS6.out w5.drew ((Kept.refl _ w5).drew)) (fun hHeld=>?_);refine tkH 0 (v:=?v0k4) rfl ?hy0k4 ?rest0k4
  case hy0k4=>intro w hSw;(try dsimp only at hSw);go_simp;try with_reducible rfl
  simp only[Act.put,List.setIfInBounds_toArray,List.set_cons_zero,List.set_cons_succ];refine tkH 1 (v:=?v1k4) rfl ?hy1k4 ?rest1k4
  case hy1k4=>intro w hSw;(try dsimp only at hSw);go_simp;try with_reducible rfl
  simp only[Act.put,List.setIfInBounds_toArray,List.set_cons_zero,List.set_cons_succ];refine tkH 2 (v:=?v2k4) rfl ?hy2k4 ?rest2k4
  case hy2k4=>intro w hSw;(try dsimp only at hSw);go_simp;try with_reducible rfl
  simp only[Act.put,List.setIfInBounds_toArray,List.set_cons_zero,List.set_cons_succ];refine tkH 3 (v:=?v3k4) rfl ?hy3k4 ?rest3k4
  case hy3k4=>intro w hSw;(try dsimp only at hSw);go_simp;try with_reducible rfl
  simp only[Act.put,List.setIfInBounds_toArray,List.set_cons_zero,List.set_cons_succ];refine tkH 4 (v:=?v4k4) rfl ?hy4k4 ?rest4k4
  case hy4k4=>intro w hSw;(try dsimp only at hSw);go_simp;try with_reducible rfl
  simp only[Act.put,List.setIfInBounds_toArray,List.set_cons_zero,List.set_cons_succ];refine wpAnyH_ready (rs:=[5]) (by kernel_rfl) (by simp) ?_;refine AllReadyH.cons (o:=_) rfl (fun K hK=>?_) AllReadyH.nil;go_simp
  refine hK.out _ _ (HS6.out _ HE.out.2.2) (fun hHeld=>?_);clear hK K;refine wpAnyH_ready (rs:=[6]) (by kernel_rfl) (by simp) ?_;refine AllReadyH.cons (o:=_) rfl (fun K hK=>?_) AllReadyH.nil;go_simp
  refine hK.out _ _ (HS6.out _ HE.out.2.2) (fun hHeld=>?_);clear hK K;refine wpAnyH_done (by kernel_rfl) ?_ _;go_wp2_with fail
  change bodyPost _ _ _ _ _ (set4 w5.drew (w.heap.size+1) (.int .i64 4) (.int .i64 x1) (.int .i64 x2) (.int .i64 x3));have b4:=HE.out.2.1;have k4:=HE.out.2.2;generalize set4 w5.drew (w.heap.size+1) (.int .i64 4) (.int .i64 x1) (.int .i64 x2) (.int .i64 x3)=W9 at *;have a0:=cell_of (j:=0) b4;have a1:=cell_of (j:=1) b4;have a2:=cell_of (j:=2) b4;have a3:=cell_of (j:=3) b4;refine bodyPost_ret (by simp[results,Tryz.results14,go_sem,a0,a1,a2,a3];try rfl) rfl ?_;have hd:=HE.out.1 W9 A.core (4,x1,x2,x3) k4 hA1;rw[← HVV] at hd;exact hd
end Go.Proofs.YtigeldkbfbcpmaaGreat
namespace Go.Proofs.YtigeldkbfbcpmaaGreat
open Go.RowKit Go.Kpt
def wa(s:St)(a:Nat→Int):St:={ s with ans:=a }
def nz(s:St):St:=wa s (fun _=>0)
abbrev Stp:=P16.Evt×Ans×List Cmd
def evs(s:St):List P16.Evt→St×List Stp
 | []=>(s,[])
 | e :: l=>((evs (doS s e).1 l).1,(e,(doS s e).2) :: (evs (doS s e).1 l).2)
theorem evs_append(s:St)(l k:List P16.Evt):evs s (l++k)=((evs (evs s l).1 k).1,(evs s l).2++(evs (evs s l).1 k).2):=by
 induction l generalizing s with
 | nil=>rfl
 | cons e l ih=>simp only[List.cons_append,evs,ih]
theorem evs_len(s:St)(l:List P16.Evt):(evs s l).2.length=l.length:=by
 induction l generalizing s with
 | nil=>rfl
 | cons e l ih=>simp only[evs,List.length_cons,ih]
def takenOf(l:List Stp):List P16.Evt:=(l.filter fun x=>decide (x.2.1.1≠1)).map (·.1)
end Go.Proofs.YtigeldkbfbcpmaaGreat
