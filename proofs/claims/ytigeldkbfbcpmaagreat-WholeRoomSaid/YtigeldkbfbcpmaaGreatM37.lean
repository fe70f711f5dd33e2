/- A part of the proof: what the functions of the program come to, and what holds at all times. -/
import Derived.StillTailTactics
import Derived.BigQuiet
import Derived.Test.YtigeldkbfbcpmaaGreatM32
import Derived.Test.YtigeldkbfbcpmaaGreatM25
import Derived.Test.YtigeldkbfbcpmaaGreatM34
import Derived.Test.YtigeldkbfbcpmaaGreatM35
import Derived.Test.YtigeldkbfbcpmaaGreatM36
set_option linter.unusedVariables false
set_option linter.unusedSectionVars false
set_option linter.unusedSimpArgs false
set_option maxRecDepth 100000
set_option maxHeartbeats 8000000
namespace Go.Proofs.YtigeldkbfbcpmaaGreat
open Go.RowKit Go.Kpt Go.Shelf Go.Maps
theorem kept_set2(w:World)(b:Nat)(v u:Value):Kept (fun x=>x=b) w ((w.setCell ⟨b,0,none⟩ v).setCell ⟨b,1,none⟩ u):=(Kept.set1 _ _ _ _).trans (Kept.set1 _ _ _ _) (fun _ _ e=>e)
theorem cut_blk{w0 wb:World}{F0 Fc:Nat→Prop}{t:St}{A:Adr}{bb:Nat}{v0 v1:Value}{ty:TypeId}(hS:Sys wb t A Fc)(hk:Kept F0 w0 wb)(hF:∀ x,Fc x→Grow F0 w0 wb x∧x≠bb)(hb:wb.heap[bb]?=some (.cells #[v0,v1] ty (0,0)))(hn:w0.heap.size≤bb)(u0 u1:Value):
  Rs ((wb.setCell ⟨bb,0,none⟩ u0).setCell ⟨bb,1,none⟩ u1) Fc ((wb.setCell ⟨bb,0,none⟩ u0).setCell ⟨bb,1,none⟩ u1) t A∧Kept F0 w0 ((wb.setCell ⟨bb,0,none⟩ u0).setCell ⟨bb,1,none⟩ u1)∧(∀ x,Fc x→Grow F0 w0 ((wb.setCell ⟨bb,0,none⟩ u0).setCell ⟨bb,1,none⟩ u1) x∧x≠bb) ∧
   ((wb.setCell ⟨bb,0,none⟩ u0).setCell ⟨bb,1,none⟩ u1).heap[bb]?=some (.cells #[u0,u1] ty (0,0)):=by
 have k:=kept_set2 wb bb u0 u1;have e1:=set_same (i:=1) u1 (set_same (i:=0) u0 hb);have hz:((wb.setCell ⟨bb,0,none⟩ u0).setCell ⟨bb,1,none⟩ u1).heap.size=wb.heap.size:=by rw[World.size_setCell,World.size_setCell]
 refine⟨Rs.start (hS.kept k (fun x hx e=>(hF x hx).2 e)),hk.trans k (fun x hx e=>by omega),fun x hx=>⟨?_,(hF x hx).2⟩,e1⟩;rcases (hF x hx).1 with h|h
 ·exact .inl h
 ·exact .inr ⟨h.1,by rw[hz];exact h.2⟩
theorem tokLeft_none{s:St}{left:Int→Bool}(h:∀ k,(Lit.int .i64 k).wf=true→left k=false)(hI:∀ a t,s.tok a=some t→a < 16):tokLeft s left=fun a=>(s.tok a).map bktTick:=by
 funext a
 unfold tokLeft;cases ht:s.tok a with
 | none=>split <;> rfl
 | some t=>
  have:=hI a t ht;rw[h (a:Int) (WalkArith.wf_i64 (by omega))];rfl
theorem tick_max(s:St)(A:Adr)(w0:World)(F0:Nat→Prop)(hm:s.now=1099511627776)(w:World)(h:Rs w0 F0 w s A):
  Calls Tryz.prog 45 #[.pointer (some ⟨A.core,0,none⟩)] w fun e w'=>e=.returned (.tuple #[])∧Rs w0 F0 w' (tickS s) A:=by
 rw[tickS_max hm];have c0:=h.cc.1;rw[hm] at c0;have H:=Lib.hid h;clear h;go_enter Tryz.func45,Tryz.ntmps45
 go_wp2_with fail
 go_returns
 exact⟨rfl,H.out⟩
theorem tick_yes(s:St)(N:Nat)(hI:Inv s N none_)(hN:N < 4095)(hL:s.boxes.length≤996000000)(hout:s.out.isSome=true)(hU:UntOk s)(A:Adr)(w0:World)(F0:Nat→Prop)(hm:s.now≠1099511627776)(w:World)(h:Rs w0 F0 w s A):
  Calls Tryz.prog 45 #[.pointer (some ⟨A.core,0,none⟩)] w fun e w'=>e=.returned (.tuple #[])∧Rx w0 F0 w' (tickS s) A s.boxes.length:=by
 have c0:=h.cc.1;have f0:=h.cc.2.2.2.2.2.2.2.2.2.2 0;have hnw:=hI.now;have hw1:IntKind.i64.wrap (s.now+1)=s.now+1:=IntWalk.i64_in _ ⟨by omega,by omega⟩;have hw2:wrap64 (s.now+1)=s.now+1:=IntWalk.wrap64_in _ ⟨by omega,by omega⟩;obtain⟨s1,hs1⟩:∃ s1:St,{ s with now:=s.now+1 }=s1:=⟨_,rfl⟩;obtain⟨ov,hcore,hnum⟩:=h.1.numTurn;obtain⟨ws,hws⟩:∃ ws,w.setCell ⟨A.core,0,none⟩ (.int .i64 (s.now+1))=ws:=⟨_,rfl⟩;have hset:=hnum ws (s.now+1) s.next s.ans (by rw[← hws];exact set_same (i:=0) _ hcore) (by rw[← hws];exact Kept.set1 _ _ _ _);have h1:Rs w0 F0 ws s1 A:=by rw[← hs1];exact h.next hset.1 hset.2
 have tk1:s1.tok=s.tok:=by rw[← hs1]
 obtain⟨⟨ct,hTM⟩,-,-⟩:=h1.1.tokAt;have c3:=h1.cc.2.2.2.1;have HI:=Lib.hid hI;have H1:=Lib.hid h1;have HS1:=Lib.hid hs1;have HX:=Lib.hid (And.intro hnw (And.intro hm tk1));clear h hcore hnum hset hI hnw h1 hs1 tk1;obtain⟨now,hnow⟩:∃ n,s.now=n:=⟨_,rfl⟩;rw[hnow] at c0 hw1 hw2 hws hm;have HNW:=Lib.hid hnow;clear hnow;go_enter Tryz.func45,Tryz.ntmps45
 go_wp2_with (at_range;refine wpList_gm_range (Y:=intK) (E:=ptrE) (et:=166) _ rfl _ rfl Tryz.underlying80 A.tokM ct (mTok s1 A) rfl hTM ?_;intro wx hR0 kx hsz)
 go_frame
 obtain⟨r,hr⟩:∃ r,ws.heap.size=r:=⟨_,rfl⟩;obtain⟨Fx,hFx⟩:∃ Fx:Nat→Prop,(fun x=>Grow F0 w0 ws x∧x < ws.heap.size)=Fx:=⟨_,rfl⟩;have hFlt:Hid (∀ x,Fx x→x < r∧Grow F0 w0 ws x):=fun x hx=>by rw[← hFx] at hx;exact⟨by rw[← hr];exact hx.2,hx.1⟩
 have hSx:Sys wx s1 A (Grow Fx wx wx):=by
  rw[← hFx];exact(H1.out.1.lt.below kx).mono (fun x hx=>.inl hx)
 have hwx:wx.heap.size=r+1:=by rw[hsz,hr]
 rw[hr] at hR0 ⊢;have hI1:Hid (∀ a t,s1.tok a=some t→a < 16∧0≤t.t∧t.t≤t.s∧t.s≤1000∧0≤t.r∧t.r≤1000):=fun a t ht=>by
  rw[HX.out.2.2] at ht;have:=HI.out.tok a t ht;exact⟨this.lt,this.tt.1,this.tt.2,this.ts,this.tr⟩
 have hst:tokLeft s1 (fun k=>(mTok s1 A k).isSome)=s1.tok:=by
  funext a
  unfold tokLeft;cases ht:s1.tok a with
  | none=>split <;> rfl
  | some t=>exact if_pos (mTok_has (hI1.out a t ht).1 ht)
 have HK:=Lib.hid (And.intro kx (And.intro hr (And.intro hwx hFx)));clear kx hsz hr hFx c3 hws f0 c0 hw1 hw2 hTM hm;generalize (now == (1099511627776:Int))=bq;go_loopw [3] (fun _ wr=>∃ (left:Int→Bool) (cnt:Nat),Sys wr { s1 with tok:=tokLeft s1 left } A (Grow Fx wx wr)∧Kept (fun x=>Fx x∨x=r) wx wr∧Gr intK ptrE wr A.tokM r ct (mTok s1 A) left cnt) (fun _ wr=>wr.rangeLeft A.tokM r)
 case atStart=>exact⟨_,ct,by rw[hst];exact hSx,Kept.refl _ _,hR0⟩
 case round=>
  clear hR0 hSx hst;obtain⟨left,cnt,hS,hK,hG⟩:=hrel;rename World=>wr
  have hle:=hG.left_eq;go_wp2_with (at_next;refine wpList_tok_next _ rfl _ rfl A.tokM r ct s1 A left cnt rfl hG (fun hc0 hl0=>?_) (fun a u wz cnt' ha hlk hmk hG1 hlt kz hszz hen=>?_))
  ·have hsT:({ s1 with tok:=tokLeft s1 left }:St)=tickH s:=by
    rw[tokLeft_none hl0 (fun a t ht=>(hI1.out a t ht).1),HX.out.2.2,← HS1.out];rfl
   rw[hsT] at hS;obtain⟨kx,hr,hwx,hFx⟩:=HK.out;have hR0:Rs w0 F0 wr (tickH s) A:=by
    have hz:wx.heap.size≤wr.heap.size:=hK.size;have hz0:=H1.out.2.size;refine⟨hS.mono (fun x hx=>?_),(H1.out.2.trans (Kept.of_below (F:=fun _=>False) kx) (fun _ _ e=>e.elim)).trans hK (fun x hx hh=>?_)⟩
    ·rcases hx with hx | hx
     ·rcases (hFlt.out x hx).2 with h2 | h2
      ·exact .inl h2
      ·exact .inr ⟨h2.1,by have:=(hFlt.out x hx).1;omega⟩
     ·exact .inr ⟨by omega,hx.2⟩
    ·rcases hh with hh | hh
     ·rcases (hFlt.out x hh).2 with h2 | h2
      ·exact h2
      ·omega
     ·omega
   have hT0:Timed (tickH s) (tickH s) N:=Timed.refl (HI.out.tickH_ HX.out.2.1) hout;have hU0:UntOk (tickH s):=hU;clear hS hK hG hle hc0 hl0 hsT kx hr hwx hFx;go_loopw [4,5] (fun _ _ wq=>∃ (t:St) (cac box:Nat→Nat),Rs w0 F0 wq t { A with cac:=cac,box:=box }∧(∀ i,i < s.boxes.length→box i=A.box i)∧Timed (tickH s) t N∧UntOk t∧timesS t.tim.length t=timesS s.tim.length (tickH s)) (fun _ _ wq=>timN wq A.tim)
   case atStart=>exact⟨tickH s,A.cac,A.box,hR0,fun _ _=>rfl,hT0,hU0,rfl⟩
   case round=>
    clear hR0 hT0 hU0;obtain⟨t,cac,box,hR,hbx,hT,hUt,hts⟩:=hrel;rename World=>wq
    have hmeas:=hR.timN;have hlen:t.boxes.length≤996500000:=by
     have h1:=hT.pot;have h2:=boots_le (tickH s).tim;have h3:(tickH s).boxes.length=s.boxes.length:=rfl;omega
    have hlen2:s.boxes.length≤t.boxes.length:=hT.len;obtain⟨wa,hwa⟩:∃ wa,wq.alloc (.cells #[.int .i64 0,.int .i64 0] 160)=wa:=⟨_,rfl⟩;have hBa:Below wq.heap.size wq wa:=by subst hwa;exact(Below.refl _ wq).alloc (Nat.le_refl _) _
    have hza:wa.heap.size=wq.heap.size+1:=by subst hwa;simp
    have hca:wa.heap[wq.heap.size]?=some (.cells #[.int .i64 0,.int .i64 0] 160 (0,0)):=by subst hwa;exact heap_alloc_new _ _
    have hRa:=hR.fresh hBa;obtain⟨Fq,hFq⟩:∃ Fq:Nat→Prop,(fun x=>Grow F0 w0 wq x∧x < wq.heap.size)=Fq:=⟨_,rfl⟩;rw[hFq] at hRa;have hFqlt:Hid (∀ x,Fq x→x < wq.heap.size∧Grow F0 w0 wq x):=fun x hx=>by rw[← hFq] at hx;exact⟨hx.2,hx.1⟩
    obtain⟨k1,hk1⟩:∃ k,(HeapPure.kk t.tim 0).1=k:=⟨_,rfl⟩;obtain⟨k2,hk2⟩:∃ k,(HeapPure.kk t.tim 0).2=k:=⟨_,rfl⟩;obtain⟨nw,hnw⟩:∃ n,t.now=n:=⟨_,rfl⟩;have HRS:Hid (∀ W wb Fb (t':St),t'.now=nw→Rs wb Fb W t' { A with cac:=cac,box:=box }→W.cell? ⟨A.core,9,none⟩=some (.pointer (some ⟨A.tim,0,none⟩))∧W.cell? ⟨A.core,0,none⟩=some (.int .i64 nw)):=fun W wb Fb t' e h=>by
     have h0:=h.cc.1;rw[e] at h0;exact⟨h.cc.2.2.2.2.2.2.2.2.2.1,h0⟩
    have HRB:Hid (∀ W (t':St),Rs wa Fq W t' { A with cac:=cac,box:=box }→W.heap[wq.heap.size]?=some (.cells #[.int .i64 0,.int .i64 0] 160 (0,0))):=fun W t' h=>(h.2.block _ (by omega) (fun e=>by have:=(hFqlt.out _ e).1;omega)).trans hca;obtain⟨g9,g0⟩:=HRS.out wq.drew _ _ t hnw hR.drew;have g9':=HRS.out wa.drew _ _ t hnw hRa.drew;have HSK:Hid (∀ (w3 W:World) (b:Nat),(w3.cell? ⟨A.core,9,none⟩=some (.pointer (some ⟨A.tim,0,none⟩))∧w3.cell? ⟨A.core,0,none⟩=some (.int .i64 nw))→Kept (fun x=>x=b) w3 W→A.core≠b→W.cell? ⟨A.core,9,none⟩=some (.pointer (some ⟨A.tim,0,none⟩))∧W.cell? ⟨A.core,0,none⟩=some (.int .i64 nw)):=fun w3 W b h k hne=>by
     have hb:W.heap[A.core]?=w3.heap[A.core]?:=k.block _ (World.block_lt_of_cell? w3 _ h.1) hne;exact⟨by rw[World.cell?_of_block hb];exact h.1,by rw[World.cell?_of_block hb];exact h.2⟩
    have HLT:Hid (∀ W wb Fb (t':St),Rs wb Fb W t' { A with cac:=cac,box:=box }→A.core < W.heap.size):=fun W wb Fb t' h=>h.lt;have HLQ:Hid (A.core < wq.heap.size):=hR.lt;have HFB:Hid (∀ (w3 wb:World) (t':St),Rs w0 F0 w3 t' { A with cac:=cac,box:=box }→Below w3.heap.size w3 wb→wb.heap.size=w3.heap.size+1→wb.heap[w3.heap.size]?=some (.cells #[.int .i64 0,.int .i64 0] 160 (0,0))→∀ u0 u1,∃ Fc:Nat→Prop,Rs ((wb.setCell ⟨w3.heap.size,0,none⟩ u0).setCell ⟨w3.heap.size,1,none⟩ u1) Fc ((wb.setCell ⟨w3.heap.size,0,none⟩ u0).setCell ⟨w3.heap.size,1,none⟩ u1) t' { A with cac:=cac,box:=box }∧Kept F0 w0 ((wb.setCell ⟨w3.heap.size,0,none⟩ u0).setCell ⟨w3.heap.size,1,none⟩ u1)∧(∀ x,Fc x→Grow F0 w0 ((wb.setCell ⟨w3.heap.size,0,none⟩ u0).setCell ⟨w3.heap.size,1,none⟩ u1) x∧x≠w3.heap.size) ∧
      ((wb.setCell ⟨w3.heap.size,0,none⟩ u0).setCell ⟨w3.heap.size,1,none⟩ u1).heap[w3.heap.size]?=some (.cells #[u0,u1] 160 (0,0))):=fun w3 wb t' h hB hz hc u0 u1=>
     ⟨_,cut_blk (h.1.lt.below hB) (h.below hB).2 (fun x hx=>⟨hx.1.elim .inl (fun e=>.inr ⟨e.1,by omega⟩),by have:=hx.2;omega⟩) hc h.2.size u0 u1⟩
    have HFA:Hid (∀ (w3:World) (t':St),Rs wa Fq w3 t' { A with cac:=cac,box:=box }→∀ u0 u1,∃ Fc:Nat→Prop,Rs ((w3.setCell ⟨wq.heap.size,0,none⟩ u0).setCell ⟨wq.heap.size,1,none⟩ u1) Fc ((w3.setCell ⟨wq.heap.size,0,none⟩ u0).setCell ⟨wq.heap.size,1,none⟩ u1) t' { A with cac:=cac,box:=box }∧Kept F0 w0 ((w3.setCell ⟨wq.heap.size,0,none⟩ u0).setCell ⟨wq.heap.size,1,none⟩ u1)∧(∀ x,Fc x→Grow F0 w0 ((w3.setCell ⟨wq.heap.size,0,none⟩ u0).setCell ⟨wq.heap.size,1,none⟩ u1) x∧x≠wq.heap.size) ∧
      ((w3.setCell ⟨wq.heap.size,0,none⟩ u0).setCell ⟨wq.heap.size,1,none⟩ u1).heap[wq.heap.size]?=some (.cells #[u0,u1] 160 (0,0))):=fun w3 t' h u0 u1=>by
     have hz3:wa.heap.size≤w3.heap.size:=h.2.size;have hz0:w0.heap.size≤wq.heap.size:=hR.2.size;have hk:Kept F0 w0 w3:=(hR.below hBa).2.trans h.2 (fun x hx e=>by
      rcases (hFqlt.out x e).2 with h2|h2
      ·exact h2
      ·omega)
     refine⟨_,cut_blk h.1 hk (fun x hx=>?_) (HRB.out w3 t' h) hz0 u0 u1⟩;rcases hx with hx|hx
     ·obtain⟨a1,a2⟩:=hFqlt.out x hx
      exact⟨a2.elim .inl (fun e=>.inr ⟨e.1,by omega⟩),by omega⟩
     ·exact⟨.inr ⟨by omega,hx.2⟩,by omega⟩
    have HWA:=Lib.hid (And.intro hBa (And.intro hza (And.intro hFq (And.intro hRa hwa))));have HKN:=Lib.hid (And.intro hk1 (And.intro hk2 hnw));have HD:=Lib.hid (And.intro hT (And.intro hUt (And.intro hts (And.intro hlen (And.intro hlen2 (And.intro hbx hmeas))))));have HR:=Lib.hid hR;clear hT hUt hts hlen hlen2 hbx hmeas hFq hza hca;by_cases hd:due t
    ·have hnx:Calls Tryz.prog 69 #[.pointer (some ⟨A.tim,0,none⟩),.int .i64 nw] wa.drew fun e w'=>e=.returned (.tuple #[.agg #[.int .i64 k1,.int .i64 k2],.bool true])∧Rs wa Fq w' (dropT t) { A with cac:=cac,box:=box }:=by
      rw[← hnw,← hk1,← hk2];exact(tnext_rs hRa.drew t.now).mono (fun e w' h=>by
       rcases h with ⟨h1,-⟩|⟨-,h2,h3⟩
       ·exact absurd hd h1
       ·exact⟨h2,h3⟩)
     have hnxB:Calls Tryz.prog 69 #[.pointer (some ⟨A.tim,0,none⟩),.int .i64 nw] wq.drew fun e w'=>e=.returned (.tuple #[.agg #[.int .i64 k1,.int .i64 k2],.bool true])∧Rs w0 F0 w' (dropT t) { A with cac:=cac,box:=box }:=by
      rw[← hnw,← hk1,← hk2];exact(tnext_rs hR.drew t.now).mono (fun e w' h=>by
       rcases h with ⟨h1,-⟩|⟨-,h2,h3⟩
       ·exact absurd hd h1
       ·exact⟨h2,h3⟩)
     have HDUE:=Lib.hid (HD.out.1.inv.due_ hd.1);have HTM:=Lib.hid (HD.out.1.inv.time1_ HD.out.1.out hd.1);have HDD:=Lib.hid hd;have HTS:Hid (timesS (time1 t).tim.length (time1 t)=timesS s.tim.length (tickH s)):=by
      show _=_;have h1:=HD.out.2.2.1;have h2:=HTM.out.2;obtain⟨m,hm⟩:∃ m,t.tim.length=m+1:=⟨t.tim.length - 1,by omega⟩;rw[← h1,hm,timesS_yes hd];exact(timesS_more _ (time1 t) HTM.out.1.inv HTM.out.1.out (Nat.le_refl _) m (by omega)).1.symm
     rw[hk1,hk2] at HDUE;clear hk1 hk2 hnw hBa hRa hwa hR hd;go_upto_region 6 with fail
     go_cut [4,5] from 29 to 58 (fun v u wc=>∃ (bb:Nat) (Fc:Nat→Prop),v=.pointer (some ⟨bb,0,none⟩)∧u=.bool true∧Rs wc Fc wc (dropT t) { A with cac:=cac,box:=box }∧Kept F0 w0 wc∧(∀ x,Fc x→Grow F0 w0 wc x∧x≠bb)∧wc.heap[bb]?=some (.cells #[.int .i64 k1,.int .i64 k2] 160 (0,0)))
     case first=>
      refine wp_region_held_drew (S:=fun W=>W.cell? ⟨A.core,9,none⟩=some (.pointer (some ⟨A.tim,0,none⟩))∧W.cell? ⟨A.core,0,none⟩=some (.int .i64 nw)) (by kernel_rfl) ⟨g9,g0⟩ (fun hHeld=>?_);refine tkH 0 (v:=?v0) rfl ?hy0 ?rest0
      case hy0=>intro w hSw;(try dsimp only at hSw);go_simp;try with_reducible rfl
      simp only[Act.put,List.setIfInBounds_toArray,List.set_cons_zero,List.set_cons_succ];refine tkH 1 (v:=?v1) rfl ?hy1 ?rest1
      case hy1=>intro w hSw;(try dsimp only at hSw);go_simp;try with_reducible rfl
      simp only[Act.put,List.setIfInBounds_toArray,List.set_cons_zero,List.set_cons_succ];refine tkH 2 (v:=?v2) rfl ?hy2 ?rest2
      case hy2=>intro w hSw;(try dsimp only at hSw);go_simp;try with_reducible rfl
      simp only[Act.put,List.setIfInBounds_toArray,List.set_cons_zero,List.set_cons_succ];refine tkH 3 (v:=?v3) rfl ?hy3 ?rest3
      case hy3=>intro w hSw;(try dsimp only at hSw);go_simp;try with_reducible rfl
      simp only[Act.put,List.setIfInBounds_toArray,List.set_cons_zero,List.set_cons_succ];refine tkH 4 (v:=?v4) rfl ?hy4 ?rest4
      case hy4=>intro w hSw;(try dsimp only at hSw);go_simp;try with_reducible rfl
      simp only[Act.put,List.setIfInBounds_toArray,List.set_cons_zero,List.set_cons_succ];refine tkH 5 (v:=?v5) rfl ?hy5 ?rest5
      case hy5=>intro w hSw;(try dsimp only at hSw);go_simp;try with_reducible rfl
      simp only[Act.put,List.setIfInBounds_toArray,List.set_cons_zero,List.set_cons_succ];refine tkH 6 (v:=?v6) rfl ?hy6 ?rest6
      case hy6=>intro w hSw;(try dsimp only at hSw);go_simp;try with_reducible rfl
      simp only[Act.put,List.setIfInBounds_toArray,List.set_cons_zero,List.set_cons_succ];refine tkH 7 (v:=?v7) rfl ?hy7 ?rest7
      case hy7=>intro w hSw;(try dsimp only at hSw);go_simp;try with_reducible rfl
      simp only[Act.put,List.setIfInBounds_toArray,List.set_cons_zero,List.set_cons_succ];refine wpAnyH_ready (rs:=[8,12]) (by kernel_rfl) (by simp) ?_;refine AllReadyH.cons (o:=_) rfl (fun K hK=>?_) (AllReadyH.cons (o:=_) rfl (fun K hK=>?_) AllReadyH.nil)
      ·go_simp
       refine hnxB.mono ?_;rintro e w3 ⟨rfl,h3⟩;have x9:=HRS.out w3 _ _ (dropT t) HKN.out.2.2 h3;refine hK.out _ _ x9 (fun hHeld=>?_);clear hK K;refine tkH 9 (v:=?v9) rfl ?hy9 ?rest9
       case hy9=>intro w hSw;(try dsimp only at hSw);go_simp;try with_reducible rfl
       simp only[Act.put,List.setIfInBounds_toArray,List.set_cons_zero,List.set_cons_succ];refine tkH 10 (v:=?v10) rfl ?hy10 ?rest10
       case hy10=>intro w hSw;(try dsimp only at hSw);go_simp;try with_reducible rfl
       simp only[Act.put,List.setIfInBounds_toArray,List.set_cons_zero,List.set_cons_succ];refine tkH 11 (v:=?v11) rfl ?hy11 ?rest11
       case hy11=>intro w hSw;(try dsimp only at hSw);go_simp;try with_reducible rfl
       simp only[Act.put,List.setIfInBounds_toArray,List.set_cons_zero,List.set_cons_succ];obtain⟨wb,hwb⟩:∃ wb,w3.alloc (.cells #[.int .i64 0,.int .i64 0] 160)=wb:=⟨_,rfl⟩;have hBb:Below w3.heap.size w3 wb:=by subst hwb;exact(Below.refl _ w3).alloc (Nat.le_refl _) _
       have hzb:wb.heap.size=w3.heap.size+1:=by subst hwb;simp
       have hcb:wb.heap[w3.heap.size]?=some (.cells #[.int .i64 0,.int .i64 0] 160 (0,0)):=by subst hwb;exact heap_alloc_new _ _
       have hbb:=h3.below hBb;have x9b:=HRS.out wb _ _ (dropT t) HKN.out.2.2 hbb;have y0:=cell_of (j:=0) hcb;have y1:=cell_of (j:=1) hcb;have fz:=fun j=>frozen_of (j:=j) hcb;refine wpAnyH_ready (rs:=[12]) (by kernel_rfl) (by simp) ?_;refine AllReadyH.cons (o:=_) rfl (fun K hK=>?_) AllReadyH.nil;go_simp
       refine hK.out _ _ x9b (fun hHeld=>?_);clear hK K;refine wpAnyH_ready (rs:=[13]) (by kernel_rfl) (by simp) ?_;refine AllReadyH.cons (o:=_) rfl (fun K hK=>?_) AllReadyH.nil;go_simp
       refine hK.out _ _ (HSK.out _ _ _ x9b (kept_set2 _ _ _ _) (Nat.ne_of_lt (HLT.out _ _ _ _ h3))) (fun hHeld=>?_);clear hK K;refine wpAnyH_ready (rs:=[14]) (by kernel_rfl) (by simp) ?_;refine AllReadyH.cons (o:=_) rfl (fun K hK=>?_) AllReadyH.nil;go_simp
       refine hK.out _ _ (HSK.out _ _ _ x9b (kept_set2 _ _ _ _) (Nat.ne_of_lt (HLT.out _ _ _ _ h3))) (fun hHeld=>?_);clear hK K;refine wpAnyH_done (by kernel_rfl) ?_ _;go_wp2_with fail
       go_meet
       case rel=>
        obtain⟨Fc,hFc⟩:=HFB.out w3 wb _ h3 hBb hzb hcb _ _;exact⟨w3.heap.size,Fc,rfl,rfl,hFc⟩
      ·have hwa:=HWA.out.2.2.2.2
       go_simp
       refine hK.out _ _ g9' (fun hHeld=>?_);clear hK K hwa;refine wpAnyH_ready (rs:=[8]) (by kernel_rfl) (by simp) ?_;refine AllReadyH.cons (o:=_) rfl (fun K hK=>?_) AllReadyH.nil;go_simp
       refine hnx.mono ?_;rintro e w3 ⟨rfl,h3⟩;have x9:=HRS.out w3 _ _ (dropT t) HKN.out.2.2 h3;have hb3:=HRB.out w3 _ h3;have y0:=cell_of (j:=0) hb3;have y1:=cell_of (j:=1) hb3;have fz:=fun j=>frozen_of (j:=j) hb3;refine hK.out _ _ x9 (fun hHeld=>?_);clear hK K;refine tkH 9 (v:=?v9b) rfl ?hy9b ?rest9b
       case hy9b=>intro w hSw;(try dsimp only at hSw);go_simp;try with_reducible rfl
       simp only[Act.put,List.setIfInBounds_toArray,List.set_cons_zero,List.set_cons_succ];refine tkH 10 (v:=?v10b) rfl ?hy10b ?rest10b
       case hy10b=>intro w hSw;(try dsimp only at hSw);go_simp;try with_reducible rfl
       simp only[Act.put,List.setIfInBounds_toArray,List.set_cons_zero,List.set_cons_succ];refine tkH 11 (v:=?v11b) rfl ?hy11b ?rest11b
       case hy11b=>intro w hSw;(try dsimp only at hSw);go_simp;try with_reducible rfl
       simp only[Act.put,List.setIfInBounds_toArray,List.set_cons_zero,List.set_cons_succ];refine wpAnyH_ready (rs:=[13]) (by kernel_rfl) (by simp) ?_;refine AllReadyH.cons (o:=_) rfl (fun K hK=>?_) AllReadyH.nil;go_simp
       refine hK.out _ _ (HSK.out _ _ _ x9 (kept_set2 _ _ _ _) (Nat.ne_of_lt HLQ.out)) (fun hHeld=>?_);clear hK K;refine wpAnyH_ready (rs:=[14]) (by kernel_rfl) (by simp) ?_;refine AllReadyH.cons (o:=_) rfl (fun K hK=>?_) AllReadyH.nil;go_simp
       refine hK.out _ _ (HSK.out _ _ _ x9 (kept_set2 _ _ _ _) (Nat.ne_of_lt HLQ.out)) (fun hHeld=>?_);clear hK K;refine wpAnyH_done (by kernel_rfl) ?_ _;go_wp2_with fail
       go_meet
       case rel=>
        obtain⟨Fc,hFc⟩:=HFA.out w3 _ h3 _ _;exact⟨wq.heap.size,Fc,rfl,rfl,hFc⟩
     case rest=>
      clear g9 g0 g9' hnx hnxB HRS HRB HSK HLT HLQ HFB HFA hFqlt;obtain⟨bb,Fc,rfl,rfl,hRc,hKc,hFc,hbc⟩:=hcut;rename World=>wc
      have z0:=cell_of (j:=0) hbc;have z1:=cell_of (j:=1) hbc;rcases HDUE.out with ⟨rfl,i,x,rfl,hx,hlo,hlv,hIi⟩|⟨rfl,f,y,rfl,hf,hy,hI0⟩
      ·have hil:i < t.boxes.length:=get_lt hx
       have hlk:=hRc.drew.1.look_box ((i:Int)+1) (WalkArith.wf_i64 (by have:=HD.out.2.2.2.1;omega)) (some (box i)) (by unfold mBox;rw[if_pos ⟨by omega,by show _≤(t.boxes.length:Int);omega,hlv⟩,show ((i:Int)+1).toNat - 1=i by omega];rfl);have c7:=hRc.drew.cc.2.2.2.2.2.2.2.1;have z1d:wc.drew.cell? ⟨bb,1,none⟩=some (.int .i64 ((i:Int)+1)):=z1;simp only[pv] at hlk;dsimp only at c7 hlk;have hki:=kill_any (dropT t) N hIi.low (outl (dropT t)) (out_some HD.out.1.out) (out_len hIi (by have:=HD.out.2.2.2.1;show t.boxes.length≤_;omega)) { A with cac:=cac,box:=box } wc Fc i (by have:=HD.out.2.2.2.1;omega) x hx (by rw[hlo.1];decide) wc.drew hRc.drew;dsimp only at hki;have HRc:=Lib.hid (And.intro hRc (And.intro hKc (And.intro hFc hbc)));have HTE:Hid (time1 t=killS (dropT t) i):=by show _=_;rw[time1_eq,if_pos HKN.out.1,HKN.out.2.1,show ((i:Int)+1).toNat - 1=i by omega]
       have HUN:Hid (UntOk (time1 t)):=by
        show UntOk _;rw[HTE.out];exact UntOk.ebb (show UntOk (dropT t) from HD.out.2.1) (ebb_kill _ i)
       clear hRc hKc hFc hbc hx hlo hlv hIi hil;go_wp2_with fail
       clear z0 z1;refine wp_region_still_tail 8 (by kernel_rfl) (by kernel_rfl) ?_;simp only[List.take_succ_cons,List.take_zero,List.drop_succ_cons,List.drop_zero]
       repeat still_step
       refine wpStill_nil ?_;change wpList _ _ _ _ _ wc.drew;clear hlk c7 z1d;go_wp2_with fail
       refine hki.mono ?_;rintro e w9 ⟨rfl,c9,h9⟩;rw[← HTE.out] at h9;have hm9:=h9.timN;go_wp2_with fail
       go_roundw
       case rel=>exact⟨time1 t,c9,box,Rs.nest HRc.out.2.1 (Below.refl _ _) h9 (fun x hx=>(HRc.out.2.2.1 x hx).1),HD.out.2.2.2.2.2.1,HD.out.1.trans HTM.out.1,HUN.out,HTS.out⟩
       case measure=>rw[HD.out.2.2.2.2.2.2,hm9];have:=HTM.out.2;omega
      ·have z1d:wc.cell? ⟨bb,1,none⟩=some (.int .i64 (f:Int)):=z1
       have hah:=ahead71_any (dropT t) N hI0 (by have:=HD.out.2.2.2.1;show t.boxes.length≤_;omega) HD.out.1.out (show UntOk t from HD.out.2.1) { A with cac:=cac,box:=box } wc Fc f y (show t.fns f=some y from hy) wc hRc;dsimp only at hah;have HRc:=Lib.hid (And.intro hRc (And.intro hKc (And.intro hFc hbc)));have HTE:Hid (time1 t=aheadS (dropT t) f):=by show _=_;rw[time1_eq,if_neg (by rw[HKN.out.1];decide),HKN.out.2.1,Int.toNat_natCast]
       have HUN:Hid (UntOk (time1 t)):=by
        show UntOk _;rw[HTE.out];exact UntOk.ahead (show UntOk (dropT t) from HD.out.2.1) hI0.next f
       clear hRc hKc hFc hbc hy hI0;go_wp2_with fail
       refine hah.mono ?_;rintro e w9 ⟨rfl,c9,b9,hb9,h9⟩;rw[← HTE.out] at h9;have hm9:=h9.timN;go_wp2_with fail
       go_roundw
       case rel=>exact⟨time1 t,c9,b9,Rs.nest HRc.out.2.1 (Below.refl _ _) h9 (fun x hx=>(HRc.out.2.2.1 x hx).1),fun i hi=>(hb9 i (by have:=HD.out.2.2.2.2.1;show i < t.boxes.length;omega)).trans (HD.out.2.2.2.2.2.1 i hi),HD.out.1.trans HTM.out.1,HUN.out,HTS.out⟩
       case measure=>rw[HD.out.2.2.2.2.2.2,hm9];have:=HTM.out.2;omega
    ·have hnx:Calls Tryz.prog 69 #[.pointer (some ⟨A.tim,0,none⟩),.int .i64 nw] wa.drew fun e w'=>e=.returned (.tuple #[.agg #[.int .i64 0,.int .i64 0],.bool false])∧Rs wa Fq w' t { A with cac:=cac,box:=box }:=by
      rw[← hnw];exact(tnext_rs hRa.drew t.now).mono (fun e w' h=>by
       rcases h with ⟨-,h2,h3⟩|⟨h1,-⟩
       ·exact⟨h2,h3⟩
       ·exact absurd h1 hd)
     have hnxB:Calls Tryz.prog 69 #[.pointer (some ⟨A.tim,0,none⟩),.int .i64 nw] wq.drew fun e w'=>e=.returned (.tuple #[.agg #[.int .i64 0,.int .i64 0],.bool false])∧Rs w0 F0 w' t { A with cac:=cac,box:=box }:=by
      rw[← hnw];exact(tnext_rs hR.drew t.now).mono (fun e w' h=>by
       rcases h with ⟨-,h2,h3⟩|⟨h1,-⟩
       ·exact⟨h2,h3⟩
       ·exact absurd h1 hd)
     have HDD:=Lib.hid hd;clear hk1 hk2 hnw hBa hRa hwa hR hd;go_upto_region 6 with fail
     go_cut [4,5] from 29 to 58 (fun v u wc=>∃ (bb:Nat) (Fc:Nat→Prop),v=.pointer (some ⟨bb,0,none⟩)∧u=.bool false∧Rs wc Fc wc t { A with cac:=cac,box:=box }∧Kept F0 w0 wc∧(∀ x,Fc x→Grow F0 w0 wc x∧x≠bb)∧wc.heap[bb]?=some (.cells #[.int .i64 0,.int .i64 0] 160 (0,0)))
     case first=>
      refine wp_region_held_drew (S:=fun W=>W.cell? ⟨A.core,9,none⟩=some (.pointer (some ⟨A.tim,0,none⟩))∧W.cell? ⟨A.core,0,none⟩=some (.int .i64 nw)) (by kernel_rfl) ⟨g9,g0⟩ (fun hHeld=>?_);refine tkH 0 (v:=?v0n) rfl ?hy0n ?rest0n
      case hy0n=>intro w hSw;(try dsimp only at hSw);go_simp;try with_reducible rfl
      simp only[Act.put,List.setIfInBounds_toArray,List.set_cons_zero,List.set_cons_succ];refine tkH 1 (v:=?v1n) rfl ?hy1n ?rest1n
      case hy1n=>intro w hSw;(try dsimp only at hSw);go_simp;try with_reducible rfl
      simp only[Act.put,List.setIfInBounds_toArray,List.set_cons_zero,List.set_cons_succ];refine tkH 2 (v:=?v2n) rfl ?hy2n ?rest2n
      case hy2n=>intro w hSw;(try dsimp only at hSw);go_simp;try with_reducible rfl
      simp only[Act.put,List.setIfInBounds_toArray,List.set_cons_zero,List.set_cons_succ];refine tkH 3 (v:=?v3n) rfl ?hy3n ?rest3n
      case hy3n=>intro w hSw;(try dsimp only at hSw);go_simp;try with_reducible rfl
      simp only[Act.put,List.setIfInBounds_toArray,List.set_cons_zero,List.set_cons_succ];refine tkH 4 (v:=?v4n) rfl ?hy4n ?rest4n
      case hy4n=>intro w hSw;(try dsimp only at hSw);go_simp;try with_reducible rfl
      simp only[Act.put,List.setIfInBounds_toArray,List.set_cons_zero,List.set_cons_succ];refine tkH 5 (v:=?v5n) rfl ?hy5n ?rest5n
      case hy5n=>intro w hSw;(try dsimp only at hSw);go_simp;try with_reducible rfl
      simp only[Act.put,List.setIfInBounds_toArray,List.set_cons_zero,List.set_cons_succ];refine tkH 6 (v:=?v6n) rfl ?hy6n ?rest6n
      case hy6n=>intro w hSw;(try dsimp only at hSw);go_simp;try with_reducible rfl
      simp only[Act.put,List.setIfInBounds_toArray,List.set_cons_zero,List.set_cons_succ];refine tkH 7 (v:=?v7n) rfl ?hy7n ?rest7n
      case hy7n=>intro w hSw;(try dsimp only at hSw);go_simp;try with_reducible rfl
      simp only[Act.put,List.setIfInBounds_toArray,List.set_cons_zero,List.set_cons_succ];refine wpAnyH_ready (rs:=[8,12]) (by kernel_rfl) (by simp) ?_;refine AllReadyH.cons (o:=_) rfl (fun K hK=>?_) (AllReadyH.cons (o:=_) rfl (fun K hK=>?_) AllReadyH.nil)
      ·go_simp
       refine hnxB.mono ?_;rintro e w3 ⟨rfl,h3⟩;have x9:=HRS.out w3 _ _ (t) HKN.out.2.2 h3;refine hK.out _ _ x9 (fun hHeld=>?_);clear hK K;refine tkH 9 (v:=?v9n) rfl ?hy9n ?rest9n
       case hy9n=>intro w hSw;(try dsimp only at hSw);go_simp;try with_reducible rfl
       simp only[Act.put,List.setIfInBounds_toArray,List.set_cons_zero,List.set_cons_succ];refine tkH 10 (v:=?v10n) rfl ?hy10n ?rest10n
       case hy10n=>intro w hSw;(try dsimp only at hSw);go_simp;try with_reducible rfl
       simp only[Act.put,List.setIfInBounds_toArray,List.set_cons_zero,List.set_cons_succ];refine tkH 11 (v:=?v11n) rfl ?hy11n ?rest11n
       case hy11n=>intro w hSw;(try dsimp only at hSw);go_simp;try with_reducible rfl
       simp only[Act.put,List.setIfInBounds_toArray,List.set_cons_zero,List.set_cons_succ];obtain⟨wb,hwb⟩:∃ wb,w3.alloc (.cells #[.int .i64 0,.int .i64 0] 160)=wb:=⟨_,rfl⟩;have hBb:Below w3.heap.size w3 wb:=by subst hwb;exact(Below.refl _ w3).alloc (Nat.le_refl _) _
       have hzb:wb.heap.size=w3.heap.size+1:=by subst hwb;simp
       have hcb:wb.heap[w3.heap.size]?=some (.cells #[.int .i64 0,.int .i64 0] 160 (0,0)):=by subst hwb;exact heap_alloc_new _ _
       have hbb:=h3.below hBb;have x9b:=HRS.out wb _ _ (t) HKN.out.2.2 hbb;have y0:=cell_of (j:=0) hcb;have y1:=cell_of (j:=1) hcb;have fz:=fun j=>frozen_of (j:=j) hcb;refine wpAnyH_ready (rs:=[12]) (by kernel_rfl) (by simp) ?_;refine AllReadyH.cons (o:=_) rfl (fun K hK=>?_) AllReadyH.nil;go_simp
       refine hK.out _ _ x9b (fun hHeld=>?_);clear hK K;refine wpAnyH_ready (rs:=[13]) (by kernel_rfl) (by simp) ?_;refine AllReadyH.cons (o:=_) rfl (fun K hK=>?_) AllReadyH.nil;go_simp
       refine hK.out _ _ (HSK.out _ _ _ x9b (kept_set2 _ _ _ _) (Nat.ne_of_lt (HLT.out _ _ _ _ h3))) (fun hHeld=>?_);clear hK K;refine wpAnyH_ready (rs:=[14]) (by kernel_rfl) (by simp) ?_;refine AllReadyH.cons (o:=_) rfl (fun K hK=>?_) AllReadyH.nil;go_simp
       refine hK.out _ _ (HSK.out _ _ _ x9b (kept_set2 _ _ _ _) (Nat.ne_of_lt (HLT.out _ _ _ _ h3))) (fun hHeld=>?_);clear hK K;refine wpAnyH_done (by kernel_rfl) ?_ _;go_wp2_with fail
       go_meet
       case rel=>
        obtain⟨Fc,hFc⟩:=HFB.out w3 wb _ h3 hBb hzb hcb _ _;exact⟨w3.heap.size,Fc,rfl,rfl,hFc⟩
      ·have hwa:=HWA.out.2.2.2.2
       go_simp
       refine hK.out _ _ g9' (fun hHeld=>?_);clear hK K hwa;refine wpAnyH_ready (rs:=[8]) (by kernel_rfl) (by simp) ?_;refine AllReadyH.cons (o:=_) rfl (fun K hK=>?_) AllReadyH.nil;go_simp
       refine hnx.mono ?_;rintro e w3 ⟨rfl,h3⟩;have x9:=HRS.out w3 _ _ (t) HKN.out.2.2 h3;have hb3:=HRB.out w3 _ h3;have y0:=cell_of (j:=0) hb3;have y1:=cell_of (j:=1) hb3;have fz:=fun j=>frozen_of (j:=j) hb3;refine hK.out _ _ x9 (fun hHeld=>?_);clear hK K;refine tkH 9 (v:=?v9nb) rfl ?hy9nb ?rest9nb
       case hy9nb=>intro w hSw;(try dsimp only at hSw);go_simp;try with_reducible rfl
       simp only[Act.put,List.setIfInBounds_toArray,List.set_cons_zero,List.set_cons_succ];refine tkH 10 (v:=?v10nb) rfl ?hy10nb ?rest10nb
       case hy10nb=>intro w hSw;(try dsimp only at hSw);go_simp;try with_reducible rfl
       simp only[Act.put,List.setIfInBounds_toArray,List.set_cons_zero,List.set_cons_succ];refine tkH 11 (v:=?v11nb) rfl ?hy11nb ?rest11nb
       case hy11nb=>intro w hSw;(try dsimp only at hSw);go_simp;try with_reducible rfl
       simp only[Act.put,List.setIfInBounds_toArray,List.set_cons_zero,List.set_cons_succ];refine wpAnyH_ready (rs:=[13]) (by kernel_rfl) (by simp) ?_;refine AllReadyH.cons (o:=_) rfl (fun K hK=>?_) AllReadyH.nil;go_simp
       refine hK.out _ _ (HSK.out _ _ _ x9 (kept_set2 _ _ _ _) (Nat.ne_of_lt HLQ.out)) (fun hHeld=>?_);clear hK K;refine wpAnyH_ready (rs:=[14]) (by kernel_rfl) (by simp) ?_;refine AllReadyH.cons (o:=_) rfl (fun K hK=>?_) AllReadyH.nil;go_simp
       refine hK.out _ _ (HSK.out _ _ _ x9 (kept_set2 _ _ _ _) (Nat.ne_of_lt HLQ.out)) (fun hHeld=>?_);clear hK K;refine wpAnyH_done (by kernel_rfl) ?_ _;go_wp2_with fail
       go_meet
       case rel=>
        obtain⟨Fc,hFc⟩:=HFA.out w3 _ h3 _ _;exact⟨wq.heap.size,Fc,rfl,rfl,hFc⟩
     case rest=>
      clear g9 g0 g9' hnx hnxB HRS HRB HSK HLT HLQ HFB HFA hFqlt;obtain⟨bb,Fc,rfl,rfl,hRc,hKc,hFc,hbc⟩:=hcut;rename World=>wc
      have hRw:Rs w0 F0 wc t { A with cac:=cac,box:=box }:=Rs.nest hKc (Below.refl _ _) hRc (fun x hx=>(hFc x hx).1);have hkp:=keepAll_any t N HD.out.1.inv hN (by have:=HD.out.2.2.2.1;omega) HD.out.1.out { A with cac:=cac,box:=box } w0 F0 wc hRw;dsimp only at hkp;have HTE:Hid (tickS s=keepAllS t):=by
       show _=_;rw[tickS_eq HX.out.2.1,← HD.out.2.2.1,timesS_no HDD.out]
      clear hRc hKc hFc hbc hRw;go_wp2_with fail
      refine hkp.mono ?_;rintro e w9 ⟨rfl,h9⟩;go_wp2_with fail
      go_returns
      refine⟨rfl,?_⟩;rw[HTE.out];exact Rx.next HD.out.2.2.2.2.2.1 HD.out.2.2.2.2.1 h9
  ·have hau:=hI1.out a u hmk
   obtain⟨kx,hr,hwx,hFx⟩:=HK.out;have hSz:Sys wz { s1 with tok:=tokLeft s1 left } A (Grow Fx wx wz):=(hS.kept kz (fun x hx e=>by
    rcases hx with hx|hx
    ·have:=(hFlt.out x hx).1;omega
    ·omega)).mono (fun x hx=>hx.elim .inl (fun h=>.inr ⟨h.1,by omega⟩))
   have htl:tokLeft s1 left a=some u:=(if_pos hlk).trans hmk;obtain⟨hbk,hnx⟩:=hSz.tokTurn a u htl;obtain⟨hF1,hF2⟩:=hSz.tokAt.2.2 a u htl;have htr:A.tok a≠r:=fun e=>by
    rcases hF1 with hx|hx
    ·have:=(hFlt.out _ hx).1;omega
    ·omega
   have htk:=P10.tick_any (A.tok a) u.s u.r u.t wz hbk hau.2.1 (by omega) hau.2.2.2.2.1 hau.2.2.2.2.2;have hzr:wx.heap.size≤wr.heap.size:=hK.size;have HQ:=Lib.hid (And.intro hnx (And.intro hF1 (And.intro hF2 (And.intro htr (And.intro kz (And.intro hszz (And.intro hK hzr)))))));have HE:=Lib.hid (tokLeft_turn hmk (left:=left));have HWX:=Lib.hid hwx;clear hS hSz hbk hnx hau hF1 hF2 htr hwx hr hFx kx;refine htk.mono ?_;clear htk;rintro e w2 ⟨rfl,hb2,hk2⟩;have hG2:=hG1.kept hk2 (fun e=>HQ.out.2.2.1 e.symm) (fun e=>HQ.out.2.2.2.1 e.symm);have hm2:=hG2.left_eq;obtain⟨hnx,hF1,hF2,htr,kz',hszz',hK',hzr⟩:=HQ.out;obtain⟨n1,n2⟩:=hnx w2 (bktTick u) hb2 hk2;have hzz:wz.heap.size≤w2.heap.size:=hk2.size;have n3:Sys w2 { s1 with tok:=tokLeft s1 (fun z=>left z && !decide (z=(a:Int))) } A (Grow Fx wx w2):=by
    rw[← HE.out];refine n1.mono (fun x hx=>?_);rcases hx with hx|hx
    ·rcases hx with hx | hx
     ·exact .inl hx
     ·exact .inr ⟨hx.1,by omega⟩
    ·exact .inr ⟨by have:=hx.1;omega,hx.2⟩
   have n4:Kept (fun x=>Fx x∨x=r) wx w2:=(hK'.trans kz' (fun x _ e=>.inr e)).trans n2 (fun x hx e=>by
    rcases e with e|e
    ·exact .inl e
    ·have:=e.1;omega)
   clear hnx hF1 hF2 n1 n2 hb2;go_wp2_with fail
   go_roundw
   case rel=>exact⟨_,cnt',n3,n4,hG2⟩
   case measure=>rw[hle,hm2];exact hlt
theorem function_any(s:St)(N:Nat)(hI:Inv s N none_)(hN:N < 4095)(hL:s.boxes.length≤997000000)(hout:s.out.isSome=true)(e:P16.Evt)(hr:∀ j,0≤e j)(hw1:(Lit.int .i64 (e 1)).wf=true)(A:Adr)(w0:World)(F0:Nat→Prop)(w:World)(h:Rs w0 F0 w s A):
  Calls Tryz.prog 47 #[.pointer (some ⟨A.core,0,none⟩),.agg (P16.evc e)] w fun r w'=>r=.returned (.int .i64 (functionS s e).2)∧Ry w0 F0 w' (functionS s e).1 A.core:=by
 by_cases hb:funBad e
 ·exact function_bad s e hr hw1 hb A w0 F0 w h
 cases ht:s.tok (e 5).toNat with
 | none=>exact function_noacc s N hI e hr hb ht A w0 F0 w h
 | some t=>
  cases hc:clash s e with
  | true=>
   cases hy:s.fns (e 1).toNat with
   | none=>unfold clash at hc;rw[hy] at hc;cases hc
   | some y=>exact function_clash s N hI e hr hb t ht y hy hc A w0 F0 w h
  | false=>
   by_cases hq:e 8 > 0∧e 9 > e 8
   ·cases hy:s.fns (e 1).toNat with
    | none=>exact function_new_quo s N hI e hr hb t ht hy hc hq A w0 F0 w h
    | some y=>exact function_old_quo s N hI e hr hb t ht y hy hc hq A w0 F0 w h
   by_cases hs:funSum s e
   ·cases hy:s.fns (e 1).toNat with
    | none=>exact function_new_sum s N hI e hr hb t ht hy hc hq hs A w0 F0 w h
    | some y=>exact function_old_sum s N hI e hr hb t ht y hy hc hq hs A w0 F0 w h
   ·cases hy:s.fns (e 1).toNat with
    | none=>exact function_new_ok s N hI e hr hb t ht hy hc hq hs hN hL hout A w0 F0 w h
    | some y=>exact function_old_ok s N hI e hr hb t ht y hy hc hq hs hN hL hout A w0 F0 w h
theorem booted53_any(s:St)(N:Nat)(hI:Inv s N none_)(hN:N < 4095)(hL:s.boxes.length≤997000000)(hout:s.out.isSome=true)(A:Adr)(w0:World)(F0:Nat→Prop)(n:Int)(hn:(Lit.int .i64 n).wf=true)(w:World)(h:Rs w0 F0 w s A):
  Calls Tryz.prog 53 #[.pointer (some ⟨A.core,0,none⟩),.int .i64 n] w fun e w'=>e=.returned (.int .i64 (bootedS s n).2)∧Rx w0 F0 w' (bootedS s n).1 A s.boxes.length:=by
 cases hl:isLive s n
 ·refine(booted_no s A w0 F0 n hn hl w h).mono ?_
  rintro e w' ⟨rfl,h'⟩;exact⟨rfl,h'.rx _⟩
 ·obtain⟨i,x,rfl,hi,hx,hst,hm⟩:=live_some hI hl
  cases hb:(P12.booted x s.now).2
  ·refine(booted_st s N hI A w0 F0 i x hx hn hl (hm A) hb w h).mono ?_
   rintro e w' ⟨rfl,h'⟩;exact⟨rfl,h'.rx _⟩
  ·exact booted_yes s N hI hN hL hout A w0 F0 i x hx hn hl (hm A) hb w h
theorem done55_any(s:St)(N:Nat)(hI:Inv s N none_)(hN:N < 4095)(hL:s.boxes.length≤997000000)(hout:s.out.isSome=true)(A:Adr)(w0:World)(F0:Nat→Prop)(n:Int)(hn:(Lit.int .i64 n).wf=true)(w:World)(h:Rs w0 F0 w s A):
  Calls Tryz.prog 55 #[.pointer (some ⟨A.core,0,none⟩),.int .i64 n] w fun e w'=>e=.returned (.int .i64 (doneS s n).2)∧Rx w0 F0 w' (doneS s n).1 A s.boxes.length:=by
 cases hl:isLive s n
 ·refine(done_no s A w0 F0 n hn hl w h).mono ?_
  rintro e w' ⟨rfl,h'⟩;exact⟨rfl,h'.rx _⟩
 ·obtain⟨i,x,rfl,hi,hx,hst,hm⟩:=live_some hI hl
  cases hb:(P12.done x s.now).2
  ·refine(done_st s N hI A w0 F0 i x hx hn hl (hm A) hb w h).mono ?_
   rintro e w' ⟨rfl,h'⟩;exact⟨rfl,h'.rx _⟩
  ·exact done_yes s N hI hN hL hout A w0 F0 i x hx hn hl (hm A) hb w h
theorem tick45_any(s:St)(N:Nat)(hI:Inv s N none_)(hN:N < 4095)(hL:s.boxes.length≤996000000)(hout:s.out.isSome=true)(hU:UntOk s)(A:Adr)(w0:World)(F0:Nat→Prop)(w:World)(h:Rs w0 F0 w s A):
  Calls Tryz.prog 45 #[.pointer (some ⟨A.core,0,none⟩)] w fun e w'=>e=.returned (.tuple #[])∧Rx w0 F0 w' (tickS s) A s.boxes.length:=by
 by_cases hm:s.now=1099511627776
 ·refine(tick_max s A w0 F0 hm w h).mono ?_
  rintro e w' ⟨rfl,h'⟩;exact⟨rfl,h'.rx _⟩
 ·exact tick_yes s N hI hN hL hout hU A w0 F0 hm w h
theorem ask_rs{w0 w:World}{F0:Nat→Prop}{s:St}{A:Adr}(h:Rs w0 F0 w s A)(hg:P11.Good s.quo)(n:Int)(hn:0≤n):
  ((n≥64∨(s.quo.fs n.toNat).th=false)→Calls Tryz.prog 88 #[.pointer (some ⟨A.quo,0,none⟩),.int .i64 n] w fun e w'=>(∃ r,e=.returned (.tuple #[.int .i64 r,.bool false]))∧Rs w0 F0 w' s A) ∧
  (¬ (n≥64∨(s.quo.fs n.toNat).th=false)→Calls Tryz.prog 88 #[.pointer (some ⟨A.quo,0,none⟩),.int .i64 n] w fun e w'=>e=.returned (.tuple #[.int .i64 (P11.askR s.quo n.toNat),.bool true])∧Rs w0 F0 w' s A):=by
 obtain⟨hq,-⟩:=h.1.quoTurn;refine⟨fun h1=>?_,fun h1=>?_⟩
 ·by_cases h2:n≥64
  ·refine(P11.ask_far A.quo n h2 w).mono ?_
   rintro e w' ⟨⟨r,rfl⟩,rfl⟩;exact⟨⟨r,rfl⟩,h⟩
  ·obtain⟨k,rfl⟩:∃ k:Nat,n=(k:Int):=⟨n.toNat,by omega⟩
   rw[Int.toNat_natCast] at h1;refine(P11.ask_none A.quo s.quo k (by omega) (h1.resolve_left h2) w hq).mono ?_;rintro e w' ⟨rfl,hB⟩;exact⟨⟨_,rfl⟩,h.below hB⟩
 ·obtain⟨k,rfl⟩:∃ k:Nat,n=(k:Int):=⟨n.toNat,by omega⟩
  rw[Int.toNat_natCast] at h1 ⊢;refine(P11.ask_any A.quo s.quo hg k (by omega) (by cases e:(s.quo.fs k).th;exact absurd (.inr e) h1;rfl) w hq).mono ?_;rintro e w' ⟨rfl,hB⟩;exact⟨rfl,h.below hB⟩
end Go.Proofs.YtigeldkbfbcpmaaGreat
