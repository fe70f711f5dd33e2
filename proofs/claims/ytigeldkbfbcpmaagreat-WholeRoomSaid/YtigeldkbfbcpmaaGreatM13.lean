/- A part of the proof: what the functions of the program come to, and what holds at all times. -/
import Derived.Test.YtigeldkbfbcpmaaGreatM11
import Derived.Test.YtigeldkbfbcpmaaGreatM12
set_option linter.unusedVariables false
set_option linter.unusedSectionVars false
set_option linter.unusedSimpArgs false
set_option maxRecDepth 100000
set_option maxHeartbeats 8000000
namespace Go.Proofs.YtigeldkbfbcpmaaGreat.P09
open Go.RowKit Go.Kpt HeapPure RatioPure
def WX(w:World)(base cb:Nat)(l:List (Int×Mk))(c:Nat)(Q:Nat→Prop):Prop:=
 ∃ hb v mb,Wc w base cb hb v mb l c∧∀ x,Q x→x < w.heap.size∧x≠cb∧x≠hb∧¬ own mb v x
def Same(Q:Nat→Prop)(w w':World):Prop:=∀ x,Q x→w'.heap[x]?=w.heap[x]?
theorem Same.trans{Q:Nat→Prop}{a b c:World}(h:Same Q a b)(k:Same Q b c):Same Q a c:=fun x hx=>(k x hx).trans (h x hx)
theorem WX.wb{w:World}{base cb:Nat}{l:List (Int×Mk)}{c:Nat}{Q:Nat→Prop}(h:WX w base cb l c Q):WB w base cb l c:=by
 obtain⟨hb,v,mb,h,-⟩:=h;exact⟨hb,v,mb,h⟩
theorem WX.next{w w':World}{base cb hb:Nat}{v v':Value}{mb:Nat}{l l':List (Int×Mk)}{c:Nat}{Q:Nat→Prop}(h:Wc w base cb hb v mb l c)(hq:∀ x,Q x→x < w.heap.size∧x≠cb∧x≠hb∧¬ own mb v x)(h2:Hp w' base hb fv20 v' mb l')(k:Kept (fun y=>y=hb∨own mb v y) w w')(hm:Moved w v v'):
  (∀ x,Q x→x < w'.heap.size∧x≠cb∧x≠hb∧¬ own mb v' x)∧Same Q w w':=by
 refine⟨fun x hx=>?_,fun x hx=>?_⟩ <;> obtain⟨q1,q2,q3,q4⟩:=hq x hx
 ·refine⟨Nat.lt_of_lt_of_le q1 k.size,q2,q3,fun e=>?_⟩
  rcases e with e|e
  ·exact q4 (.inl e)
  ·rcases hm x e.symm with e | e
   ·exact q4 (.inr e.symm)
   ·omega
 ·exact k.block x q1 (fun hh=>hh.elim q3 q4)
theorem xdrop_any(HL:LessC)(base cb:Nat)(l:List (Int×Mk))(c:Nat)(k:Int)(hk:(Lit.int .i64 k).wf=true)(Q:Nat→Prop)(w:World)(h:WX w base cb l c Q):
  Calls Tryz.prog 163 #[.pointer (some ⟨cb,0,none⟩),.int .i64 k] w fun e w'=>e=.returned (.bool (idx l k).isSome)∧WX w' base cb (drop lt l k) c Q∧Below base w w'∧Same Q w w':=by
 obtain⟨hb,v,mb,h,hq⟩:=h;have q0:w.cell? ⟨cb,0,none⟩=some (.pointer (some ⟨hb,0,none⟩)):=cell_of h.blk;go_enter Tryz.func163,Tryz.ntmps163
 go_wp2_with fail
 refine(heapdrop_any HL base hb v mb l k hk w h.hp).mono ?_;rintro e w1 ⟨rfl,v',h1,k1,hm⟩;obtain⟨h2,hB⟩:=h.next h1 k1;obtain⟨h3,h4⟩:=WX.next h hq h1 k1 hm;go_wp2_with fail
 go_ret
 exact⟨rfl,⟨hb,v',mb,h2,h3⟩,hB,h4⟩
theorem xset_any(HL:LessC)(base cb:Nat)(l:List (Int×Mk))(c:Nat)(k:Int)(hk:(Lit.int .i64 k).wf=true)(o co d:Nat)(ho:o≤1023)(hco:co≤1023)(hd:0 < d)(hs:Sm d)(hf:c*d+o*co < 18446744073709551616)(hl:l.length+1≤1000000000)(Q:Nat→Prop)(w:World)(h:WX w base cb l c Q):
  Calls Tryz.prog 148 #[.pointer (some ⟨cb,0,none⟩),.int .i64 k,.int .u64 o,.int .u64 co,.int .u64 d] w fun e w'=>e=.returned (.bool true)∧WX w' base cb (setAt lt l k (mk c (o*co) d k hd hf hs)) c Q∧Below base w w'∧Same Q w w':=by
 have hsz:=h.wb.sz;obtain⟨hb,v,mb,h,hq⟩:=h;have hc:Sm c:=by unfold Sm;have:c*1≤c*d:=Nat.mul_le_mul_left c hd;omega
 have hup:o*co≤1023*1023:=Nat.mul_le_mul ho hco;obtain⟨x,hx⟩:∃ x,mk c (o*co) d k hd hf hs=x:=⟨_,rfl⟩;have hab:=above_yes c (o*co) d hc (by unfold Sm;omega) hs (fits_of hd hf) w;have x1:c*d+o*co=x.n:=by rw[← hx];rfl
 have x2:d=x.d:=by rw[← hx];rfl
 have x3:k=x.id:=by rw[← hx];rfl
 rw[hx];rw[x1] at hab;obtain⟨up,hu⟩:∃ up,o*co=up:=⟨_,rfl⟩;have e1:(o:Int)*(co:Int)=(up:Int):=by rw[← hu];push_cast;rfl
 have e2:IntKind.u64.wrap (up:Int)=(up:Int):=IntWalk.u64_in _ ⟨by omega,by omega⟩;rw[hu] at hab;have q0:w.cell? ⟨cb,0,none⟩=some (.pointer (some ⟨hb,0,none⟩)):=cell_of h.blk;have q1:w.cell? ⟨cb,1,none⟩=some (.int .u64 c):=cell_of h.blk;have H:=Lib.hid h;have X2:=Lib.hid x2;have X3:=Lib.hid x3;have XK:=Lib.hid hk;clear hx x1 x2 x3 hu hup hf h;go_enter Tryz.func148,Tryz.ntmps148
 go_wp2_with fail
 refine hab.mono ?_;clear hab;rintro e w1 ⟨rfl,hB1⟩;have h1:=H.out.below hB1;have h2:=h1.below ((Below.refl _ _).alloc (Nat.le_refl _) (.cells #[.int .u64 x.n,.int .u64 d] 246));have hN:(w1.alloc (.cells #[.int .u64 x.n,.int .u64 d] 246)).heap[w1.heap.size]?=some (.cells #[.int .u64 x.n,.int .u64 d] 246 (0,0)):=heap_alloc_new _ _;have hB2:Below base w (w1.alloc (.cells #[.int .u64 x.n,.int .u64 d] 246)):=(hB1.mono hsz).alloc (by have:=hB1.size;omega) _;obtain⟨w2,hw2⟩:∃ w2,w1.alloc (.cells #[.int .u64 x.n,.int .u64 d] 246)=w2:=⟨_,rfl⟩;rw[hw2] at h2 hN hB2;have n0:w2.cell? ⟨w1.heap.size,0,none⟩=some (.int .u64 x.n):=cell_of hN;have n1:w2.cell? ⟨w1.heap.size,1,none⟩=some (.int .u64 d):=cell_of hN;have p0:w2.cell? ⟨cb,0,none⟩=some (.pointer (some ⟨hb,0,none⟩)):=cell_of h2.blk;have h3:=h2.below ((Below.refl _ _).drew);have hset:=heapset_any HL base hb v mb l k x hk hl w2.drew h3.sz h3.hp;rw[show mv x=.agg #[.int .u64 x.n,.int .u64 d,.int .i64 k] by rw[X2.out,X3.out]] at hset;have H3:=Lib.hid h3;have HB:=Lib.hid (hB2.drew);have HBe:=Lib.hid (show Below w.heap.size w w2.drew from hB1.trans ((show Below w1.heap.size w1 w2.drew from by rw[← hw2];exact((Below.refl _ _).alloc (Nat.le_refl _) _).drew).mono hB1.size));have HQ:=Lib.hid hq;clear h1 h2 hN hB1 hB2 h3 H hk hq;go_wp2_with fail
 go_region_with (go_at_call 171;refine hset.mono ?_;rintro e w4 ⟨rfl,v',h5,k5,hm⟩)
 all_goals (go_wp2_with fail)
 all_goals go_ret
 all_goals
  obtain⟨h6,hB6⟩:=H3.out.next h5 k5;have hq2:∀ x,Q x→x < w2.drew.heap.size∧x≠cb∧x≠hb∧¬ own mb v x:=fun x hx=>⟨Nat.lt_of_lt_of_le (HQ.out x hx).1 HBe.out.size,(HQ.out x hx).2⟩;obtain⟨h7,h8⟩:=WX.next H3.out hq2 h5 k5 hm;exact⟨rfl,⟨hb,v',mb,h6,h7⟩,HB.out.trans hB6,Same.trans (fun x hx=>HBe.out.block x (HQ.out x hx).1) h8⟩
theorem xevict_some(HL:LessC)(base cb:Nat)(l:List (Int×Mk))(c:Nat)(hl:0 < l.length)(Q:Nat→Prop)(w:World)(h:WX w base cb l c Q):
  Calls Tryz.prog 145 #[.pointer (some ⟨cb,0,none⟩)] w fun e w'=>e=.returned (.tuple #[.int .i64 (kk l 0),.bool true])∧WX w' base cb (drop lt l (kk l 0)) (max c ((vv l 0).n / (vv l 0).d)) Q∧Below base w w'∧Same Q w w':=by
 have hsz:=h.wb.sz;obtain⟨hb,v,mb,h,hq⟩:=h;have q0:w.cell? ⟨cb,0,none⟩=some (.pointer (some ⟨hb,0,none⟩)):=cell_of h.blk;have hkw:=kk_wf h.hp hl;have hmin:=min_some base hb v mb l hl w h.hp;obtain⟨m,hm⟩:∃ m,vv l 0=m:=⟨_,rfl⟩;rw[hm] at hmin ⊢;have hfl:=fun W=>floor_any m.n m.d m.hn m.pos W;obtain⟨fl,hfd⟩:∃ fl,m.n / m.d=fl:=⟨_,rfl⟩;rw[hfd] at hfl ⊢;generalize kk l 0=K at *;have H:=Lib.hid h;clear h hm hfd;go_enter Tryz.func145,Tryz.ntmps145
 go_wp2_with fail
 refine hmin.mono ?_;clear hmin;rintro e w1 ⟨rfl,hB1⟩;have h1:=H.out.below hB1;have hM:Mb (w1.alloc (.cells #[.int .u64 m.n,.int .u64 m.d,.int .i64 m.id] 248)) w1.heap.size m.n m.d m.id:=heap_alloc_new _ _;have h2:=h1.below ((Below.refl _ _).alloc (Nat.le_refl _) (.cells #[.int .u64 m.n,.int .u64 m.d,.int .i64 m.id] 248));have hB2:Below base w (w1.alloc (.cells #[.int .u64 m.n,.int .u64 m.d,.int .i64 m.id] 248)):=(hB1.mono hsz).alloc (by have:=hB1.size;omega) _;obtain⟨w2,hw2⟩:∃ w2,w1.alloc (.cells #[.int .u64 m.n,.int .u64 m.d,.int .i64 m.id] 248)=w2:=⟨_,rfl⟩;have hBe:Below w.heap.size w w2:=hB1.trans ((show Below w1.heap.size w1 w2 from by rw[← hw2];exact(Below.refl _ _).alloc (Nat.le_refl _) _).mono hB1.size);have hq2:∀ x,Q x→x < w2.heap.size∧x≠cb∧x≠hb∧¬ own mb v x:=fun x hx=>⟨Nat.lt_of_lt_of_le (hq x hx).1 hBe.size,(hq x hx).2⟩;have hSe:Same Q w w2:=fun x hx=>hBe.block x (hq x hx).1;have HQ:=Lib.hid hq2;rw[hw2] at hM h2 hB2;have p0:w2.cell? ⟨cb,0,none⟩=some (.pointer (some ⟨hb,0,none⟩)):=cell_of h2.blk;have hdr:=heapdrop_any HL base hb v mb l K hkw w2 h2.hp;have l1:=lt_of h1.hp.blk;have l2:=h1.hp.mp.lt;have l3:=h1.hp.own.lt;have H2:=Lib.hid h2;clear h1 h2 H hkw hq hq2 hBe;go_wp2_with fail
 refine hdr.mono ?_;clear hdr hw2;rintro e w3 ⟨rfl,v',h3,k3,hmv⟩;obtain⟨h4,hB4⟩:=H2.out.next h3 k3;obtain⟨hq3,hS3⟩:=WX.next H2.out HQ.out h3 k3 hmv;have hS:=hSe.trans hS3;have hM3:=hM.kept k3 (fun hh=>by
  rcases hh with hh|hh|hh
  ·omega
  ·omega
  ·have:=(l3 _ hh.symm).2;omega)
 have hB5:=hB2.trans hB4;obtain⟨n0,n1,n2⟩:=hM3.cells;have c1:w3.cell? ⟨cb,1,none⟩=some (.int .u64 c):=cell_of h4.blk;have g1:w3.frozen? ⟨cb,1,none⟩=false:=frozen_of h4.blk;have HW:=Lib.hid (show ∀ W,Kept (fun _=>False) w3 W→W.cell? ⟨cb,1,none⟩=some (.int .u64 c)∧W.frozen? ⟨cb,1,none⟩=false from fun W k=>by
  have hb:=(k.block cb (lt_of h4.blk) (fun h=>h)).trans h4.blk;exact⟨cell_of hb,frozen_of hb⟩)
 have HF:=Lib.hid (show ∀ (W:World) (x:Nat),Kept (fun _=>False) w3 W→max c fl=x→WX (W.setCell ⟨cb,1,none⟩ (.int .u64 x)) base cb (drop lt l K) (max c fl) Q∧Below base w (W.setCell ⟨cb,1,none⟩ (.int .u64 x))∧Same Q w (W.setCell ⟨cb,1,none⟩ (.int .u64 x)) from fun W x k hx=>by
  obtain⟨ap1,ap2,ap3⟩:=h4.apart;have kk:=Kept.set1 W cb 1 (.int .u64 (x:Int));have hb:=(k.block cb (lt_of h4.blk) (fun h=>h)).trans h4.blk;have hp:=(h4.hp.kept k (fun h=>h) (fun h=>h) (fun _ _ h=>h)).kept kk (Ne.symm ap1) (Ne.symm ap2) (fun g hg=>ap3 g hg);rw[hx];refine⟨⟨_,v',mb,⟨set_same (i:=1) _ hb,hp,h4.cb,h4.hb,h4.mb,Nat.le_trans h4.sz (Nat.le_trans k.size kk.size)⟩,fun y hy=>⟨Nat.lt_of_lt_of_le (hq3 y hy).1 (Nat.le_trans k.size kk.size),(hq3 y hy).2⟩⟩,(hB5.trans (k.below h4.sz (fun _ _ h=>h))).trans (kk.below (Nat.le_trans h4.sz k.size) (fun y hy h=>by have:=h4.cb;omega)),hS.trans (fun y hy=>(kk.block y (Nat.lt_of_lt_of_le (hq3 y hy).1 k.size) (hq3 y hy).2.1).trans (k.block y (hq3 y hy).1 (fun h=>h)))⟩)
 clear h3 k3 h4 hB4 hM hM3 hB2 hB5 hq3 hS3 hS hSe hmv;go_wp2_with fail
 go_region_with (go_at_call 169;refine(hfl _).mono ?_;rintro e w5 ⟨rfl,hB6⟩;have hk5:Kept (fun _=>False) w3 w5:=((Kept.refl _ w3).drew).trans (Kept.of_below hB6) (fun _ _ h=>h);obtain⟨r1,r2⟩:=HW.out _ hk5)
 all_goals (go_wp2_with fail)
 all_goals go_returns
 all_goals first
  | (
   obtain⟨h6,h7,h8⟩:=HF.out _ c hk5 (by omega);exact⟨rfl,h6,h7,h8⟩)
  | (
   obtain⟨h6,h7,h8⟩:=HF.out _ fl hk5 (by omega);exact⟨rfl,h6,h7,h8⟩)
end Go.Proofs.YtigeldkbfbcpmaaGreat.P09
