/- A part of the proof: what the functions of the program come to, and what holds at all times. -/
import Derived.Test.YtigeldkbfbcpmaaGreatM38
set_option linter.unusedVariables false
set_option linter.unusedSectionVars false
set_option linter.unusedSimpArgs false
set_option maxRecDepth 100000
set_option maxHeartbeats 8000000
namespace Go.Proofs.YtigeldkbfbcpmaaGreat
open Go.RowKit Go.Kpt Go.Shelf Go.Maps
theorem drain50_any(s:St)(N:Nat)(hI:Inv s N none_)(hN:N < 4095)(hL:s.boxes.length≤997000000)(hout:s.out.isSome=true)(A:Adr)(w0:World)(F0:Nat→Prop)(n:Int)(hn:0≤n)(w:World)(h:Rs w0 F0 w s A):
  Calls Tryz.prog 50 #[.pointer (some ⟨A.core,0,none⟩),.int .i64 n] w fun e w'=>e=.returned (.int .i64 (drainS s n).2)∧Ry w0 F0 w' (drainS s n).1 A.core:=by
 obtain⟨k,rfl⟩:∃ k:Nat,n=(k:Int):=⟨n.toNat,by omega⟩;by_cases hb:32≤k∨(s.hosts k).th=false∨(s.hosts k).dr=true
 ·refine(drain_bad s A w0 F0 k hb w h).mono ?_
  rintro e w' ⟨rfl,h'⟩;exact⟨rfl,h'.ry⟩
 ·have h1:k < 32:=by omega
  have h2:(s.hosts k).th=true:=by cases e:(s.hosts k).th;exact absurd (.inr (.inl e)) hb;rfl
  have h3:(s.hosts k).dr=false:=by cases e:(s.hosts k).dr;rfl;exact absurd (.inr (.inr e)) hb
  have h4:(drainS s (k:Int)).2=0:=by rw[drainS_eq s k h1 h2 h3]
  refine(drain_good s N hI hN hL hout A w0 F0 k h1 h2 h3 w h).mono ?_;rintro e w' ⟨rfl,h'⟩;rw[h4];exact⟨rfl,h'.ry⟩
theorem fail51_any(s:St)(N:Nat)(hI:Inv s N none_)(hN:N < 4095)(hL:s.boxes.length≤997000000)(hout:s.out.isSome=true)(A:Adr)(w0:World)(F0:Nat→Prop)(n:Int)(hn:0≤n)(w:World)(h:Rs w0 F0 w s A):
  Calls Tryz.prog 51 #[.pointer (some ⟨A.core,0,none⟩),.int .i64 n] w fun e w'=>e=.returned (.int .i64 (failS s n).2)∧Ry w0 F0 w' (failS s n).1 A.core:=by
 obtain⟨k,rfl⟩:∃ k:Nat,n=(k:Int):=⟨n.toNat,by omega⟩;by_cases hb:32≤k∨(s.hosts k).th=false
 ·refine(fail_bad s A w0 F0 k hb w h).mono ?_
  rintro e w' ⟨rfl,h'⟩;rw[failS_bad s k hb];exact⟨rfl,h'.ry⟩
 ·have h1:k < 32:=by omega
  have h2:(s.hosts k).th=true:=by cases e:(s.hosts k).th;exact absurd (.inr e) hb;rfl
  have h4:(failS s (k:Int)).2=0:=by rw[failS_eq s k h1 h2]
  refine(fail_good s N hI hN hL hout A w0 F0 k h1 h2 w h).mono ?_;rintro e w' ⟨rfl,h'⟩;rw[h4];exact⟨rfl,h'.ry⟩
theorem add_rs{w0 w:World}{F0:Nat→Prop}{s:St}{A:Adr}(h:Rs w0 F0 w s A)(k n:Int)(hk:0≤k):
  ((k≥32∨n < 1∨n > 4096)→Calls Tryz.prog 48 #[.pointer (some ⟨A.hosts,0,none⟩),.int .i64 k,.int .i64 n] w fun e w'=>e=.returned (.int .i64 1)∧Rs w0 F0 w' s A) ∧
  (¬ (k≥32∨n < 1∨n > 4096)→(s.hosts k.toNat).th=true→Calls Tryz.prog 48 #[.pointer (some ⟨A.hosts,0,none⟩),.int .i64 k,.int .i64 n] w fun e w'=>e=.returned (.int .i64 3)∧Rs w0 F0 w' s A) ∧
  (¬ (k≥32∨n < 1∨n > 4096)→¬ (s.hosts k.toNat).th=true→Calls Tryz.prog 48 #[.pointer (some ⟨A.hosts,0,none⟩),.int .i64 k,.int .i64 n] w fun e w'=>e=.returned (.int .i64 0)∧Rs w0 F0 w' { s with hosts:=P13.put s.hosts k.toNat ⟨true,false,n,0⟩ } A):=by
 obtain⟨hq,hnx⟩:=h.1.hostsTurn;obtain⟨m,rfl⟩:∃ m:Nat,k=(m:Int):=⟨k.toNat,by omega⟩;simp only[Int.toNat_natCast];refine⟨fun h1=>?_,fun h1 h2=>?_,fun h1 h2=>?_⟩
 ·by_cases h3:32≤m
  ·refine(P13.add_far A.hosts m h3 n w).mono ?_
   rintro e w' ⟨rfl,rfl⟩;exact⟨rfl,h⟩
  by_cases h4:n < 1
  ·refine(P13.add_low A.hosts m (by omega) n h4 w).mono ?_
   rintro e w' ⟨rfl,rfl⟩;exact⟨rfl,h⟩
  ·refine(P13.add_high A.hosts m (by omega) n (by omega) w).mono ?_
   rintro e w' ⟨rfl,rfl⟩;exact⟨rfl,h⟩
 ·refine(P13.add_there A.hosts s.hosts m (by omega) n (by omega) (by omega) h2 w hq).mono ?_
  rintro e w' ⟨rfl,rfl⟩;exact⟨rfl,h⟩
 ·refine(P13.add_any A.hosts s.hosts m (by omega) n (by omega) (by omega) (by cases e:(s.hosts m).th;rfl;exact absurd e h2) w hq).mono ?_
  rintro e w' ⟨rfl,h3,h4⟩;obtain⟨r1,r2⟩:=hnx w' _ h3 h4;exact⟨rfl,h.next r1 r2⟩
theorem cacNil_rs{w0 w:World}{F0:Nat→Prop}{s:St}{A:Adr}(h:Rs w0 F0 w s A)(k:Nat)(hk:k < 32):
  ∃ w',(Instr.mapUpdate 83 (.map (some A.cacM)) (.int .i64 (k:Int)) (.pointer none)).run Tryz.prog w=.ok () w'∧Rs w0 F0 w' { s with cac:=fun j=>if j=k then none else s.cac j } A∧Kept (fun x=>x=A.cacM) w w'∧A.cacM≠A.core:=by
 have hne:A.cacM≠A.core:=by
  obtain⟨own,hS,-⟩:=h.1;obtain⟨a1,-⟩:=hS.at_ .cacM;obtain⟨a2,-⟩:=hS.at_ .core;intro x;have:=hS.sep .cacM .core _ a1 (by rw[x];exact a2);cases this
 obtain⟨G,hGF,hGlt,hat,hnext⟩:=h.1.part .cacM;obtain⟨h1,c,m,hp,h2,h3⟩:=hat;have hc:c≤32:=Gm.count hp 32 h2;obtain⟨D,d1,d2⟩:=hp;have hw:(Lit.int .i64 (k:Int)).wf=true:=WalkArith.wf_i64 (by omega);obtain⟨w',r0,r1,r2⟩:=d1.update (key:=.int .i64 (k:Int)) (val:=.pointer none) intK.keyed Tryz.underlying83 (by unfold maxLen;omega) (intK.of (k:Int) hw) (ptrE.R_val none);have r3:=gm_put d1 d2 (k:Int) hw none r1;have kk:Kept (fun x=>x=A.cacM) w w':=Kept.of_grown1 r2;have hK:Kept G w w':=kk.mono (fun b _ e=>by rw[e];exact h1);have hS:=hnext w' { s with cac:=fun j=>if j=k then none else s.cac j } A hK ⟨.inl h1,_,_,r3,fun j hj=>?_,fun j=>?_⟩ (fun q hq W H hH=>?_)
 ·exact⟨w',r0,h.next hS (Kept.grow hK hGF),kk,hne⟩
 ·unfold gput at hj
  split at hj
  ·omega
  ·exact h2 j hj
 ·have h4:=h3 j
  unfold gput;by_cases e:j=(k:Int)
  ·rw[if_pos e]
   subst e;unfold mCac;simp
  ·rw[if_neg e,h4]
   unfold mCac;by_cases e2:0≤j∧j < 32
   ·rw[if_pos e2,if_pos e2]
    have e3:¬ j.toNat=k:=by omega
    simp only[if_neg e3]
   ·rw[if_neg e2,if_neg e2]
 ·cases q with
  | cacM=>exact absurd rfl hq
  | cac j=>
   intro x hx;have hx':(if j=k then none else s.cac j)=some x:=hx;by_cases e:j=k
   ·rw[if_pos e] at hx';cases hx'
   ·rw[if_neg e] at hx';exact hH x hx'
  | _=>exact hH
theorem Rs.answer2{w0 w wa W W':World}{F0 Fx:Nat→Prop}{s s':St}{A A':Adr}{b:Nat}(h:Rs w0 F0 w s A)(hB:Below w.heap.size w wa)(hb:w.heap.size≤b∧b < wa.heap.size)(hr:Rs wa Fx W s' A')(hF:∀ x,Fx x→x < w.heap.size∧Grow F0 w0 w x)(k:Kept (fun x=>x=b) W W'):Rs w0 F0 W' s' A':=by
 have hn:=Rs.nest h.2 hB hr (fun x hx=>(hF x hx).2);have h0:=h.2.size;have hzW:wa.heap.size≤W.heap.size:=hr.2.size;have hzW':W.heap.size≤W'.heap.size:=k.size;refine⟨(hr.1.kept k (fun x hx e=>?_)).mono (fun x hx=>?_),hn.2.trans k (fun x hx e=>by omega)⟩
 ·rcases hx with hx | hx
  ·have:=(hF x hx).1;omega
  ·have:=hx.1;omega
 ·rcases hx with hx | hx
  ·obtain⟨h1,h2⟩:=hF x hx
   rcases h2 with h2|h2
   ·exact .inl h2
   ·exact .inr ⟨h2.1,by omega⟩
  ·exact .inr ⟨by have:=hx.1;omega,by have:=hx.2;omega⟩
theorem act_pre{w0 w:World}{F0:Nat→Prop}{s:St}{A:Adr}(h:Rs w0 F0 w s A)(e:P16.Evt):∃ (wa:World) (Fx:Nat→Prop),
  (w.alloc (.cells (P16.evc e) 28)).alloc (.cells #[.int .i64 0,.int .i64 0,.int .i64 0,.int .i64 0] 38)=wa∧Below w.heap.size w wa∧wa.heap.size=w.heap.size+2∧P16.Ev wa w.heap.size e ∧
  wa.heap[w.heap.size+1]?=some (.cells #[.int .i64 0,.int .i64 0,.int .i64 0,.int .i64 0] 38 (0,0))∧Rs wa Fx wa s A∧Hid (∀ x,Fx x→x < w.heap.size∧Grow F0 w0 w x) ∧
  Hid (∀ (W:World) (s':St) (A':Adr),Rs wa Fx W s' A'→P16.Ev W w.heap.size e) ∧
  Hid (∀ (W:World) (s':St) (A':Adr),Rs wa Fx W s' A'→W.heap[w.heap.size+1]?=some (.cells #[.int .i64 0,.int .i64 0,.int .i64 0,.int .i64 0] 38 (0,0))) ∧
  Hid (∀ (W:World) (s':St) (A':Adr) (u0 u1 u2 u3:Value),Rs wa Fx W s' A'→Rs w0 F0 (set4 W (w.heap.size+1) u0 u1 u2 u3) s' A'∧(set4 W (w.heap.size+1) u0 u1 u2 u3).heap[w.heap.size+1]?=some (.cells #[u0,u1,u2,u3] 38 (0,0))):=by
 obtain⟨wa,hwa⟩:∃ wa,(w.alloc (.cells (P16.evc e) 28)).alloc (.cells #[.int .i64 0,.int .i64 0,.int .i64 0,.int .i64 0] 38)=wa:=⟨_,rfl⟩;have hBa:Below w.heap.size w wa:=by subst hwa;exact((Below.refl _ w).alloc (Nat.le_refl _) _).alloc (by simp) _
 have hza:wa.heap.size=w.heap.size+2:=by subst hwa;simp
 have hE:P16.Ev wa w.heap.size e:=by
  subst hwa;exact(Below.heap_alloc _ _ _ (by simp)).trans (P16.Ev.new w e)
 have hca:wa.heap[w.heap.size+1]?=some (.cells #[.int .i64 0,.int .i64 0,.int .i64 0,.int .i64 0] 38 (0,0)):=by
  subst hwa;have:=heap_alloc_new (w.alloc (.cells (P16.evc e) 28)) (.cells #[.int .i64 0,.int .i64 0,.int .i64 0,.int .i64 0] 38);rw[World.size_alloc] at this;exact this
 have hRa:=h.fresh hBa;obtain⟨Fx,hFx⟩:∃ Fx:Nat→Prop,(fun x=>Grow F0 w0 w x∧x < w.heap.size)=Fx:=⟨_,rfl⟩;rw[hFx] at hRa;have hFlt:Hid (∀ x,Fx x→x < w.heap.size∧Grow F0 w0 w x):=fun x hx=>by rw[← hFx] at hx;exact⟨hx.2,hx.1⟩
 have HEV:Hid (∀ (W:World) (s':St) (A':Adr),Rs wa Fx W s' A'→P16.Ev W w.heap.size e):=fun W s' A' h'=>(h'.2.block _ (by omega) (fun x=>by have:=(hFlt.out _ x).1;omega)).trans hE;have HB:Hid (∀ (W:World) (s':St) (A':Adr),Rs wa Fx W s' A'→W.heap[w.heap.size+1]?=some (.cells #[.int .i64 0,.int .i64 0,.int .i64 0,.int .i64 0] 38 (0,0))):=fun W s' A' h'=>(h'.2.block _ (by omega) (fun x=>by have:=(hFlt.out _ x).1;omega)).trans hca;have HANS:Hid (∀ (W:World) (s':St) (A':Adr) (u0 u1 u2 u3:Value),Rs wa Fx W s' A'→Rs w0 F0 (set4 W (w.heap.size+1) u0 u1 u2 u3) s' A'∧(set4 W (w.heap.size+1) u0 u1 u2 u3).heap[w.heap.size+1]?=some (.cells #[u0,u1,u2,u3] 38 (0,0))):=fun W s' A' u0 u1 u2 u3 h'=>
  ⟨Rs.answer2 h hBa ⟨by omega,by omega⟩ h' (hFlt.out) (set4_kept W (w.heap.size+1) u0 u1 u2 u3),set4_block (HB.out W s' A' h') u0 u1 u2 u3⟩
 exact⟨wa,Fx,hwa,hBa,hza,hE,hca,hRa,hFlt,HEV,HB,HANS⟩
theorem act_0(s:St)(N:Nat)(hI:Inv s N none_)(hN:N < 4095)(hL:s.boxes.length≤996000000)(hout:s.out.isSome=true)(hU:UntOk s)(e:P16.Evt)(hr:∀ j,0≤e j)(hw1:(Lit.int .i64 (e 1)).wf=true)(hk:e 0=0)(A:Adr)(w0:World)(F0:Nat→Prop)(w:World)(h:Rs w0 F0 w s A):
  Calls Tryz.prog 28 #[.pointer (some ⟨A.core,0,none⟩),.agg (P16.evc e)] w fun r w'=>r=.returned (ansV (actS s e).2)∧Ry w0 F0 w' (actS s e).1 A.core:=by
 have hT:actS s e=ansOf (tickS s,0):=by unfold actS;rw[if_pos hk]
 rw[hT];have hr1:=hr 1;obtain⟨wa,Fx,hwa,hBa,hza,hE,hca,hRa,hFlt,HEV,HB,HANS⟩:=act_pre h e;obtain⟨v0,v1,v2,v3,v4,v5,v6,v7,v8,v9⟩:=hE.ten;rw[hk] at v0;have hc:Calls Tryz.prog 45 #[.pointer (some ⟨A.core,0,none⟩)] wa fun r w'=>r=.returned (.tuple #[])∧Ry wa Fx w' (tickS s) A.core:=(tick45_any s N hI hN hL hout hU A wa Fx wa hRa).mono (fun r w' h9=>⟨h9.1,h9.2.ry⟩);obtain⟨S,hS⟩:∃ x,tickS s=x:=⟨_,rfl⟩;rw[hS] at hc ⊢;unfold ansOf;dsimp only at hc ⊢;rw[if_pos rfl];clear hT hS;clear h hBa hza hE hca hRa hr hr1 hI;simp only[P16.evc,hk] at hwa ⊢;go_enter Tryz.func28,Tryz.ntmps28
 go_wp2_with fail
 refine hc.mono ?_;clear hc v0 v1 v2 v3 v4 v5 v6 v7 v8 v9;rintro r9 w1 ⟨rfl,A1,hA1,hR1⟩;have hb:=HB.out _ _ _ hR1;obtain⟨a1,a2⟩:=HANS.out w1 _ _ (.int .i64 0) (.int .i64 0) (.int .i64 0) (.int .i64 0) hR1;have y0:=cell_of (j:=0) hb;have y1:=cell_of (j:=1) hb;have y2:=cell_of (j:=2) hb;have y3:=cell_of (j:=3) hb;have fz:=fun j=>frozen_of (j:=j) hb;have HA1:=Lib.hid a1;have HA2:=Lib.hid a2;clear hb a1 a2 hR1;go_wp2_with fail
 change bodyPost _ _ _ _ _ (set4 w1 (w.heap.size+1) (.int .i64 0) (.int .i64 0) (.int .i64 0) (.int .i64 0));generalize set4 w1 (w.heap.size+1) (.int .i64 0) (.int .i64 0) (.int .i64 0) (.int .i64 0)=W9 at *;have a0:=cell_of (j:=0) HA2.out;have a1:=cell_of (j:=1) HA2.out;have a2:=cell_of (j:=2) HA2.out;have a3:=cell_of (j:=3) HA2.out;refine bodyPost_ret (by simp[results,Tryz.results28,go_sem,a0,a1,a2,a3];try rfl) rfl ?_;refine⟨?_,A1,hA1,HA1.out⟩;rfl
theorem act_1(s:St)(N:Nat)(hI:Inv s N none_)(hN:N < 4095)(hL:s.boxes.length≤996000000)(hout:s.out.isSome=true)(hU:UntOk s)(e:P16.Evt)(hr:∀ j,0≤e j)(hw1:(Lit.int .i64 (e 1)).wf=true)(hk:e 0=1)(A:Adr)(w0:World)(F0:Nat→Prop)(w:World)(h:Rs w0 F0 w s A):
  Calls Tryz.prog 28 #[.pointer (some ⟨A.core,0,none⟩),.agg (P16.evc e)] w fun r w'=>r=.returned (ansV (actS s e).2)∧Ry w0 F0 w' (actS s e).1 A.core:=by
 have hT:actS s e=ansOf (accountS s e):=by unfold actS;rw[if_neg (by omega),if_pos hk]
 rw[hT];have hr1:=hr 1;obtain⟨wa,Fx,hwa,hBa,hza,hE,hca,hRa,hFlt,HEV,HB,HANS⟩:=act_pre h e;obtain⟨v0,v1,v2,v3,v4,v5,v6,v7,v8,v9⟩:=hE.ten;rw[hk] at v0;have hc:Calls Tryz.prog 46 #[.pointer (some ⟨A.core,0,none⟩),.agg (P16.evc e)] wa fun r w'=>r=.returned (.int .i64 ((accountS s e).2:Nat))∧Ry wa Fx w' (accountS s e).1 A.core:=account_any s N hI e hr A wa Fx wa hRa;obtain⟨⟨S,r⟩,hS⟩:∃ x,accountS s e=x:=⟨_,rfl⟩;rw[hS] at hc ⊢;unfold ansOf;dsimp only at hc ⊢;clear hT hS;by_cases hz:r=0
 ·subst hz
  rw[if_pos rfl];have hc:Calls Tryz.prog 46 #[.pointer (some ⟨A.core,0,none⟩),.agg (P16.evc e)] wa fun r w'=>r=.returned (.int .i64 0)∧Ry wa Fx w' S A.core:=hc;clear h hBa hza hE hca hRa hr hr1 hI;simp only[P16.evc,hk] at hwa hc ⊢;go_enter Tryz.func28,Tryz.ntmps28
  go_wp2_with fail
  refine hc.mono ?_;clear hc v0 v1 v2 v3 v4 v5 v6 v7 v8 v9;rintro r w1 ⟨rfl,A1,hA1,hR1⟩;have hb:=HB.out _ _ _ hR1;obtain⟨a1,a2⟩:=HANS.out w1 _ _ (.int .i64 0) (.int .i64 0) (.int .i64 0) (.int .i64 0) hR1;have y0:=cell_of (j:=0) hb;have y1:=cell_of (j:=1) hb;have y2:=cell_of (j:=2) hb;have y3:=cell_of (j:=3) hb;have fz:=fun j=>frozen_of (j:=j) hb;have HA1:=Lib.hid a1;have HA2:=Lib.hid a2;clear hb a1 a2 hR1;go_wp2_with fail
  change bodyPost _ _ _ _ _ (set4 w1 (w.heap.size+1) (.int .i64 0) (.int .i64 0) (.int .i64 0) (.int .i64 0));generalize set4 w1 (w.heap.size+1) (.int .i64 0) (.int .i64 0) (.int .i64 0) (.int .i64 0)=W9 at *;have a0:=cell_of (j:=0) HA2.out;have a1:=cell_of (j:=1) HA2.out;have a2:=cell_of (j:=2) HA2.out;have a3:=cell_of (j:=3) HA2.out;refine bodyPost_ret (by simp[results,Tryz.results28,go_sem,a0,a1,a2,a3];try rfl) rfl ?_;refine⟨?_,A1,hA1,HA1.out⟩;rfl
 ·rw[if_neg hz]
  have hzz:¬ (r:Int)=0:=by omega
  clear hz;clear h hBa hza hE hca hRa hr hr1 hI;simp only[P16.evc,hk] at hwa hc ⊢;go_enter Tryz.func28,Tryz.ntmps28
  go_wp2_with fail
  refine hc.mono ?_;clear hc v0 v1 v2 v3 v4 v5 v6 v7 v8 v9;rintro r9 w1 ⟨rfl,A1,hA1,hR1⟩;have hb:=HB.out _ _ _ hR1;obtain⟨a1,a2⟩:=HANS.out w1 _ _ (.int .i64 1) (.int .i64 0) (.int .i64 0) (.int .i64 (r:Int)) hR1;have y0:=cell_of (j:=0) hb;have y1:=cell_of (j:=1) hb;have y2:=cell_of (j:=2) hb;have y3:=cell_of (j:=3) hb;have fz:=fun j=>frozen_of (j:=j) hb;have HA1:=Lib.hid a1;have HA2:=Lib.hid a2;clear hb a1 a2 hR1;go_wp2_with fail
  change bodyPost _ _ _ _ _ (set4 w1 (w.heap.size+1) (.int .i64 1) (.int .i64 0) (.int .i64 0) (.int .i64 (r:Int)));generalize set4 w1 (w.heap.size+1) (.int .i64 1) (.int .i64 0) (.int .i64 0) (.int .i64 (r:Int))=W9 at *;have a0:=cell_of (j:=0) HA2.out;have a1:=cell_of (j:=1) HA2.out;have a2:=cell_of (j:=2) HA2.out;have a3:=cell_of (j:=3) HA2.out;refine bodyPost_ret (by simp[results,Tryz.results28,go_sem,a0,a1,a2,a3];try rfl) rfl ?_;refine⟨?_,A1,hA1,HA1.out⟩;rfl
theorem act_2(s:St)(N:Nat)(hI:Inv s N none_)(hN:N < 4095)(hL:s.boxes.length≤996000000)(hout:s.out.isSome=true)(hU:UntOk s)(e:P16.Evt)(hr:∀ j,0≤e j)(hw1:(Lit.int .i64 (e 1)).wf=true)(hk:e 0=2)(A:Adr)(w0:World)(F0:Nat→Prop)(w:World)(h:Rs w0 F0 w s A):
  Calls Tryz.prog 28 #[.pointer (some ⟨A.core,0,none⟩),.agg (P16.evc e)] w fun r w'=>r=.returned (ansV (actS s e).2)∧Ry w0 F0 w' (actS s e).1 A.core:=by
 have hT:actS s e=ansOf (functionS s e):=by unfold actS;rw[if_neg (by omega),if_neg (by omega),if_pos hk]
 rw[hT];have hr1:=hr 1;obtain⟨wa,Fx,hwa,hBa,hza,hE,hca,hRa,hFlt,HEV,HB,HANS⟩:=act_pre h e;obtain⟨v0,v1,v2,v3,v4,v5,v6,v7,v8,v9⟩:=hE.ten;rw[hk] at v0;have hc:Calls Tryz.prog 47 #[.pointer (some ⟨A.core,0,none⟩),.agg (P16.evc e)] wa fun r w'=>r=.returned (.int .i64 ((functionS s e).2:Nat))∧Ry wa Fx w' (functionS s e).1 A.core:=function_any s N hI hN (by omega) hout e hr hw1 A wa Fx wa hRa;obtain⟨⟨S,r⟩,hS⟩:∃ x,functionS s e=x:=⟨_,rfl⟩;rw[hS] at hc ⊢;unfold ansOf;dsimp only at hc ⊢;clear hT hS;by_cases hz:r=0
 ·subst hz
  rw[if_pos rfl];have hc:Calls Tryz.prog 47 #[.pointer (some ⟨A.core,0,none⟩),.agg (P16.evc e)] wa fun r w'=>r=.returned (.int .i64 0)∧Ry wa Fx w' S A.core:=hc;clear h hBa hza hE hca hRa hr hr1 hI;simp only[P16.evc,hk] at hwa hc ⊢;go_enter Tryz.func28,Tryz.ntmps28
  go_wp2_with fail
  refine hc.mono ?_;clear hc v0 v1 v2 v3 v4 v5 v6 v7 v8 v9;rintro r w1 ⟨rfl,A1,hA1,hR1⟩;have hb:=HB.out _ _ _ hR1;obtain⟨a1,a2⟩:=HANS.out w1 _ _ (.int .i64 0) (.int .i64 0) (.int .i64 0) (.int .i64 0) hR1;have y0:=cell_of (j:=0) hb;have y1:=cell_of (j:=1) hb;have y2:=cell_of (j:=2) hb;have y3:=cell_of (j:=3) hb;have fz:=fun j=>frozen_of (j:=j) hb;have HA1:=Lib.hid a1;have HA2:=Lib.hid a2;clear hb a1 a2 hR1;go_wp2_with fail
  change bodyPost _ _ _ _ _ (set4 w1 (w.heap.size+1) (.int .i64 0) (.int .i64 0) (.int .i64 0) (.int .i64 0));generalize set4 w1 (w.heap.size+1) (.int .i64 0) (.int .i64 0) (.int .i64 0) (.int .i64 0)=W9 at *;have a0:=cell_of (j:=0) HA2.out;have a1:=cell_of (j:=1) HA2.out;have a2:=cell_of (j:=2) HA2.out;have a3:=cell_of (j:=3) HA2.out;refine bodyPost_ret (by simp[results,Tryz.results28,go_sem,a0,a1,a2,a3];try rfl) rfl ?_;refine⟨?_,A1,hA1,HA1.out⟩;rfl
 ·rw[if_neg hz]
  have hzz:¬ (r:Int)=0:=by omega
  clear hz;clear h hBa hza hE hca hRa hr hr1 hI;simp only[P16.evc,hk] at hwa hc ⊢;go_enter Tryz.func28,Tryz.ntmps28
  go_wp2_with fail
  refine hc.mono ?_;clear hc v0 v1 v2 v3 v4 v5 v6 v7 v8 v9;rintro r9 w1 ⟨rfl,A1,hA1,hR1⟩;have hb:=HB.out _ _ _ hR1;obtain⟨a1,a2⟩:=HANS.out w1 _ _ (.int .i64 1) (.int .i64 0) (.int .i64 0) (.int .i64 (r:Int)) hR1;have y0:=cell_of (j:=0) hb;have y1:=cell_of (j:=1) hb;have y2:=cell_of (j:=2) hb;have y3:=cell_of (j:=3) hb;have fz:=fun j=>frozen_of (j:=j) hb;have HA1:=Lib.hid a1;have HA2:=Lib.hid a2;clear hb a1 a2 hR1;go_wp2_with fail
  change bodyPost _ _ _ _ _ (set4 w1 (w.heap.size+1) (.int .i64 1) (.int .i64 0) (.int .i64 0) (.int .i64 (r:Int)));generalize set4 w1 (w.heap.size+1) (.int .i64 1) (.int .i64 0) (.int .i64 0) (.int .i64 (r:Int))=W9 at *;have a0:=cell_of (j:=0) HA2.out;have a1:=cell_of (j:=1) HA2.out;have a2:=cell_of (j:=2) HA2.out;have a3:=cell_of (j:=3) HA2.out;refine bodyPost_ret (by simp[results,Tryz.results28,go_sem,a0,a1,a2,a3];try rfl) rfl ?_;refine⟨?_,A1,hA1,HA1.out⟩;rfl
theorem act_4(s:St)(N:Nat)(hI:Inv s N none_)(hN:N < 4095)(hL:s.boxes.length≤996000000)(hout:s.out.isSome=true)(hU:UntOk s)(e:P16.Evt)(hr:∀ j,0≤e j)(hw1:(Lit.int .i64 (e 1)).wf=true)(hk:e 0=4)(A:Adr)(w0:World)(F0:Nat→Prop)(w:World)(h:Rs w0 F0 w s A):
  Calls Tryz.prog 28 #[.pointer (some ⟨A.core,0,none⟩),.agg (P16.evc e)] w fun r w'=>r=.returned (ansV (actS s e).2)∧Ry w0 F0 w' (actS s e).1 A.core:=by
 have hT:actS s e=ansOf (drainS s (e 1)):=by unfold actS;rw[if_neg (by omega),if_neg (by omega),if_neg (by omega),if_neg (by omega),if_pos hk]
 rw[hT];have hr1:=hr 1;obtain⟨wa,Fx,hwa,hBa,hza,hE,hca,hRa,hFlt,HEV,HB,HANS⟩:=act_pre h e;obtain⟨v0,v1,v2,v3,v4,v5,v6,v7,v8,v9⟩:=hE.ten;rw[hk] at v0;have hc:Calls Tryz.prog 50 #[.pointer (some ⟨A.core,0,none⟩),.int .i64 (e 1)] wa fun r w'=>r=.returned (.int .i64 ((drainS s (e 1)).2:Nat))∧Ry wa Fx w' (drainS s (e 1)).1 A.core:=drain50_any s N hI hN (by omega) hout A wa Fx (e 1) hr1 wa hRa;obtain⟨⟨S,r⟩,hS⟩:∃ x,drainS s (e 1)=x:=⟨_,rfl⟩;rw[hS] at hc ⊢;unfold ansOf;dsimp only at hc ⊢;clear hT hS;by_cases hz:r=0
 ·subst hz
  rw[if_pos rfl];have hc:Calls Tryz.prog 50 #[.pointer (some ⟨A.core,0,none⟩),.int .i64 (e 1)] wa fun r w'=>r=.returned (.int .i64 0)∧Ry wa Fx w' S A.core:=hc;clear h hBa hza hE hca hRa hr hr1 hI;simp only[P16.evc,hk] at hwa hc ⊢;go_enter Tryz.func28,Tryz.ntmps28
  go_wp2_with fail
  refine hc.mono ?_;clear hc v0 v1 v2 v3 v4 v5 v6 v7 v8 v9;rintro r w1 ⟨rfl,A1,hA1,hR1⟩;have hb:=HB.out _ _ _ hR1;obtain⟨a1,a2⟩:=HANS.out w1 _ _ (.int .i64 0) (.int .i64 0) (.int .i64 0) (.int .i64 0) hR1;have y0:=cell_of (j:=0) hb;have y1:=cell_of (j:=1) hb;have y2:=cell_of (j:=2) hb;have y3:=cell_of (j:=3) hb;have fz:=fun j=>frozen_of (j:=j) hb;have HA1:=Lib.hid a1;have HA2:=Lib.hid a2;clear hb a1 a2 hR1;go_wp2_with fail
  change bodyPost _ _ _ _ _ (set4 w1 (w.heap.size+1) (.int .i64 0) (.int .i64 0) (.int .i64 0) (.int .i64 0));generalize set4 w1 (w.heap.size+1) (.int .i64 0) (.int .i64 0) (.int .i64 0) (.int .i64 0)=W9 at *;have a0:=cell_of (j:=0) HA2.out;have a1:=cell_of (j:=1) HA2.out;have a2:=cell_of (j:=2) HA2.out;have a3:=cell_of (j:=3) HA2.out;refine bodyPost_ret (by simp[results,Tryz.results28,go_sem,a0,a1,a2,a3];try rfl) rfl ?_;refine⟨?_,A1,hA1,HA1.out⟩;rfl
 ·rw[if_neg hz]
  have hzz:¬ (r:Int)=0:=by omega
  clear hz;clear h hBa hza hE hca hRa hr hr1 hI;simp only[P16.evc,hk] at hwa hc ⊢;go_enter Tryz.func28,Tryz.ntmps28
  go_wp2_with fail
  refine hc.mono ?_;clear hc v0 v1 v2 v3 v4 v5 v6 v7 v8 v9;rintro r9 w1 ⟨rfl,A1,hA1,hR1⟩;have hb:=HB.out _ _ _ hR1;obtain⟨a1,a2⟩:=HANS.out w1 _ _ (.int .i64 1) (.int .i64 0) (.int .i64 0) (.int .i64 (r:Int)) hR1;have y0:=cell_of (j:=0) hb;have y1:=cell_of (j:=1) hb;have y2:=cell_of (j:=2) hb;have y3:=cell_of (j:=3) hb;have fz:=fun j=>frozen_of (j:=j) hb;have HA1:=Lib.hid a1;have HA2:=Lib.hid a2;clear hb a1 a2 hR1;go_wp2_with fail
  change bodyPost _ _ _ _ _ (set4 w1 (w.heap.size+1) (.int .i64 1) (.int .i64 0) (.int .i64 0) (.int .i64 (r:Int)));generalize set4 w1 (w.heap.size+1) (.int .i64 1) (.int .i64 0) (.int .i64 0) (.int .i64 (r:Int))=W9 at *;have a0:=cell_of (j:=0) HA2.out;have a1:=cell_of (j:=1) HA2.out;have a2:=cell_of (j:=2) HA2.out;have a3:=cell_of (j:=3) HA2.out;refine bodyPost_ret (by simp[results,Tryz.results28,go_sem,a0,a1,a2,a3];try rfl) rfl ?_;refine⟨?_,A1,hA1,HA1.out⟩;rfl
theorem act_5(s:St)(N:Nat)(hI:Inv s N none_)(hN:N < 4095)(hL:s.boxes.length≤996000000)(hout:s.out.isSome=true)(hU:UntOk s)(e:P16.Evt)(hr:∀ j,0≤e j)(hw1:(Lit.int .i64 (e 1)).wf=true)(hk:e 0=5)(A:Adr)(w0:World)(F0:Nat→Prop)(w:World)(h:Rs w0 F0 w s A):
  Calls Tryz.prog 28 #[.pointer (some ⟨A.core,0,none⟩),.agg (P16.evc e)] w fun r w'=>r=.returned (ansV (actS s e).2)∧Ry w0 F0 w' (actS s e).1 A.core:=by
 have hT:actS s e=ansOf (failS s (e 1)):=by unfold actS;rw[if_neg (by omega),if_neg (by omega),if_neg (by omega),if_neg (by omega),if_neg (by omega),if_pos hk]
 rw[hT];have hr1:=hr 1;obtain⟨wa,Fx,hwa,hBa,hza,hE,hca,hRa,hFlt,HEV,HB,HANS⟩:=act_pre h e;obtain⟨v0,v1,v2,v3,v4,v5,v6,v7,v8,v9⟩:=hE.ten;rw[hk] at v0;have hc:Calls Tryz.prog 51 #[.pointer (some ⟨A.core,0,none⟩),.int .i64 (e 1)] wa fun r w'=>r=.returned (.int .i64 ((failS s (e 1)).2:Nat))∧Ry wa Fx w' (failS s (e 1)).1 A.core:=fail51_any s N hI hN (by omega) hout A wa Fx (e 1) hr1 wa hRa;obtain⟨⟨S,r⟩,hS⟩:∃ x,failS s (e 1)=x:=⟨_,rfl⟩;rw[hS] at hc ⊢;unfold ansOf;dsimp only at hc ⊢;clear hT hS;by_cases hz:r=0
 ·subst hz
  rw[if_pos rfl];have hc:Calls Tryz.prog 51 #[.pointer (some ⟨A.core,0,none⟩),.int .i64 (e 1)] wa fun r w'=>r=.returned (.int .i64 0)∧Ry wa Fx w' S A.core:=hc;clear h hBa hza hE hca hRa hr hr1 hI;simp only[P16.evc,hk] at hwa hc ⊢;go_enter Tryz.func28,Tryz.ntmps28
  go_wp2_with fail
  refine hc.mono ?_;clear hc v0 v1 v2 v3 v4 v5 v6 v7 v8 v9;rintro r w1 ⟨rfl,A1,hA1,hR1⟩;have hb:=HB.out _ _ _ hR1;obtain⟨a1,a2⟩:=HANS.out w1 _ _ (.int .i64 0) (.int .i64 0) (.int .i64 0) (.int .i64 0) hR1;have y0:=cell_of (j:=0) hb;have y1:=cell_of (j:=1) hb;have y2:=cell_of (j:=2) hb;have y3:=cell_of (j:=3) hb;have fz:=fun j=>frozen_of (j:=j) hb;have HA1:=Lib.hid a1;have HA2:=Lib.hid a2;clear hb a1 a2 hR1;go_wp2_with fail
  change bodyPost _ _ _ _ _ (set4 w1 (w.heap.size+1) (.int .i64 0) (.int .i64 0) (.int .i64 0) (.int .i64 0));generalize set4 w1 (w.heap.size+1) (.int .i64 0) (.int .i64 0) (.int .i64 0) (.int .i64 0)=W9 at *;have a0:=cell_of (j:=0) HA2.out;have a1:=cell_of (j:=1) HA2.out;have a2:=cell_of (j:=2) HA2.out;have a3:=cell_of (j:=3) HA2.out;refine bodyPost_ret (by simp[results,Tryz.results28,go_sem,a0,a1,a2,a3];try rfl) rfl ?_;refine⟨?_,A1,hA1,HA1.out⟩;rfl
 ·rw[if_neg hz]
  have hzz:¬ (r:Int)=0:=by omega
  clear hz;clear h hBa hza hE hca hRa hr hr1 hI;simp only[P16.evc,hk] at hwa hc ⊢;go_enter Tryz.func28,Tryz.ntmps28
  go_wp2_with fail
  refine hc.mono ?_;clear hc v0 v1 v2 v3 v4 v5 v6 v7 v8 v9;rintro r9 w1 ⟨rfl,A1,hA1,hR1⟩;have hb:=HB.out _ _ _ hR1;obtain⟨a1,a2⟩:=HANS.out w1 _ _ (.int .i64 1) (.int .i64 0) (.int .i64 0) (.int .i64 (r:Int)) hR1;have y0:=cell_of (j:=0) hb;have y1:=cell_of (j:=1) hb;have y2:=cell_of (j:=2) hb;have y3:=cell_of (j:=3) hb;have fz:=fun j=>frozen_of (j:=j) hb;have HA1:=Lib.hid a1;have HA2:=Lib.hid a2;clear hb a1 a2 hR1;go_wp2_with fail
  change bodyPost _ _ _ _ _ (set4 w1 (w.heap.size+1) (.int .i64 1) (.int .i64 0) (.int .i64 0) (.int .i64 (r:Int)));generalize set4 w1 (w.heap.size+1) (.int .i64 1) (.int .i64 0) (.int .i64 0) (.int .i64 (r:Int))=W9 at *;have a0:=cell_of (j:=0) HA2.out;have a1:=cell_of (j:=1) HA2.out;have a2:=cell_of (j:=2) HA2.out;have a3:=cell_of (j:=3) HA2.out;refine bodyPost_ret (by simp[results,Tryz.results28,go_sem,a0,a1,a2,a3];try rfl) rfl ?_;refine⟨?_,A1,hA1,HA1.out⟩;rfl
end Go.Proofs.YtigeldkbfbcpmaaGreat
