/- A part of the proof: what the functions of the program come to, and what holds at all times. -/
import Derived.Test.YtigeldkbfbcpmaaGreatM23
import Derived.Test.YtigeldkbfbcpmaaGreatM24
import Derived.Test.YtigeldkbfbcpmaaGreatM25
set_option linter.unusedVariables false
set_option linter.unusedSectionVars false
set_option linter.unusedSimpArgs false
set_option maxRecDepth 100000
set_option maxHeartbeats 8000000
namespace Go.Proofs.YtigeldkbfbcpmaaGreat
open Go.RowKit Go.Kpt Go.Shelf
attribute [local go_sem] Oper.semAt_some
theorem range_rest{c:Code}{Q2:Exit→Act→World→Prop}{a:Act}{w:World}(mk:Deferred)(R:World→Prop)
  (h:c.wpIn Fence.wide 8 Tryz.prog (fun e a' W=>(e=.normal∨e=.exit 0)∧a'={ a with defers:=mk :: a.defers }∧R W) a w) (hrest:∀ W,R W→Q2 .normal { a with defers:=mk :: a.defers } W):c.wp Tryz.prog (Exit.inBlock 0 Q2) a w:=by
 refine wp_mono ((wpIn_wide (n:=8)).1 h) ?_;rintro e a' W ⟨rfl|rfl,rfl,hR⟩
 ·exact hrest W hR
 ·have:=hrest W hR
  simpa[Exit.inBlock] using this
def Mid(we:World)(Fx:Nat→Prop)(W:World)(t:St)(A:Adr):Prop:=Sys W t A (fun x=>Fx x∨(we.heap.size+2≤x∧x < W.heap.size))∧Kept Fx we W
theorem Mid.rs{we W W':World}{Fx:Nat→Prop}{t t':St}{A A':Adr}(h:Mid we Fx W t A)(hF:∀ x,Fx x→x < we.heap.size)(hsz:we.heap.size+2≤W.heap.size)(h2:Rs W (fun x=>Fx x∨(we.heap.size+2≤x∧x < W.heap.size)) W' t' A'):
  Mid we Fx W' t' A'∧(W'.heap[we.heap.size]?=W.heap[we.heap.size]?∧W'.heap[we.heap.size+1]?=W.heap[we.heap.size+1]?)∧(∀ x,x < we.heap.size→¬ Fx x→W'.heap[x]?=W.heap[x]?)∧we.heap.size+2≤W'.heap.size:=by
 have hs:=h2.2.size;refine⟨⟨h2.1.mono (fun x hx=>?_),h.2.trans h2.2 (fun x hx e=>?_)⟩,⟨h2.2.block _ (by omega) (fun e=>?_),h2.2.block _ (by omega) (fun e=>?_)⟩,fun x hx hn=>h2.2.block x (by omega) (fun e=>?_),by omega⟩
 ·rcases hx with (hx | hx) | hx
  ·exact .inl hx
  ·exact .inr ⟨hx.1,by omega⟩
  ·exact .inr ⟨by omega,hx.2⟩
 ·rcases e with e | e
  ·exact e
  ·omega
 ·rcases e with e | e
  ·have:=hF _ e;omega
  ·omega
 ·rcases e with e | e
  ·have:=hF _ e;omega
  ·omega
 ·rcases e with e | e
  ·exact hn e
  ·omega
theorem Mid.stable{we W W':World}{Fx:Nat→Prop}{t:St}{A:Adr}(h:Mid we Fx W t A)(hF:∀ x,Fx x→x < we.heap.size)(k:Kept (fun x=>x=we.heap.size∨x=we.heap.size+1) W W')(hs:W'.heap.size=W.heap.size):Mid we Fx W' t A:=by
 refine⟨(h.1.kept k (fun x hx e=>?_)).mono (fun x hx=>by rw[hs];exact hx),h.2.trans k (fun x hx e=>by omega)⟩;rcases hx with hx|hx
 ·have:=hF x hx;omega
 ·omega
theorem pinUp_succ(f n:Nat)(s:St):pinUp f (n+1) s=if (pinMore s f).2=true then pinUp f n (pinMore s f).1 else (pinMore s f).1:=rfl
theorem takeB_eq{s:St}{i:Nat}{x:P12.Bx}(hx:s.boxes[i]?=some x){k:Nat}(hk:x.host=(k:Int)):takeB s i={ s with cac:=cset s.cac k (HeapPure.drop P09.lt ((s.cac k).getD ([],0)).1 x.id,((s.cac k).getD ([],0)).2),tim:=HeapPure.drop P14.lt s.tim (0,x.id) }:=by
 unfold takeB;rw[hx];simp only[hk,Int.toNat_natCast,takeS_eq]
theorem pinB_rs{w0 w:World}{F0:Nat→Prop}{s:St}{A:Adr}(h:Rs w0 F0 w s A)(i:Nat)(x:P12.Bx)(hx:s.boxes[i]?=some x)(v:Bool):Rs w0 F0 (w.setCell ⟨A.box i,6,none⟩ (.bool v)) (pinB s i v) A:=by
 obtain⟨hq,hn⟩:=h.1.boxTurn i x hx;obtain⟨h1,h2⟩:=hn _ _ (hq.setPin v) (Kept.set1 _ _ _ _);rw[pinB_eq hx];exact h.next h1 h2
theorem idleS_now(s:St)(i:Nat)(e:Int):(idleS s i e).now=s.now:=by
 unfold idleS;split
 ·rfl
 ·split
  ·unfold killS goneS
   split <;> rfl
  ·split <;> rfl
theorem unpin_at{t:St}{i:Nat}{x:P12.Bx}(hx:t.boxes[i]?=some x)(f:Nat):unpin f t ((i:Int)+1)=if P12.idle x=true then idleS (pinB t i false) i (t.now+(winS t f).fin) else pinB t i false:=by
 unfold unpin;rw[show ((i:Int)+1).toNat - 1=i by omega];have:idleB t i=P12.idle x:=by unfold idleB;rw[hx]
 rw[this]
theorem keep_any(s:St)(N:Nat)(hI:Inv s N none_)(hN:N < 4095)(hL:s.boxes.length≤998000000)(hout:s.out.isSome=true)(A:Adr)(w0:World)(F0:Nat→Prop)(f:Nat)(y:Fnc)(hy:s.fns f=some y)(w:World)(h:Rs w0 F0 w s A):
  Calls Tryz.prog 78 #[.pointer (some ⟨A.core,0,none⟩),.int .i64 f] w fun e w'=>e=.returned (.tuple #[])∧Rx w0 F0 w' (keepS f s) A s.boxes.length:=by
 have hfo:=hI.fn f y hy;have hf:=hfo.lt;obtain⟨ws,hws⟩:∃ ws,(w.alloc (.cells #[.pointer (some ⟨A.core,0,none⟩)] 50)).alloc (.cells #[.int .i64 f] 3)=ws:=⟨_,rfl⟩;have hsz:ws.heap.size=w.heap.size+2:=by subst hws;simp
 have hBs:Below w.heap.size w ws:=by subst hws;exact((Below.refl _ w).alloc (Nat.le_refl _) _).alloc (by simp) _
 have h0:ws.heap[w.heap.size]?=some (.cells #[.pointer (some ⟨A.core,0,none⟩)] 50 (0,0)):=by
  subst hws;exact(Below.heap_alloc _ _ _ (by simp)).trans (heap_alloc_new _ _)
 have h1:ws.heap[w.heap.size+1]?=some (.cells #[.int .i64 f] 3 (0,0)):=by
  subst hws;have:=heap_alloc_new (w.alloc (.cells #[.pointer (some ⟨A.core,0,none⟩)] 50)) (.cells #[.int .i64 f] 3);rw[World.size_alloc] at this;exact this
 have s0:ws.cell? ⟨w.heap.size,0,none⟩=some (.pointer (some ⟨A.core,0,none⟩)):=(cell_of h0).trans rfl;have s1:ws.cell? ⟨w.heap.size+1,0,none⟩=some (.int .i64 f):=(cell_of h1).trans rfl;have hs:=h.below hBs;have c4:=hs.cc.2.2.2.2.1;have hlk:=hs.drew.1.look_fn (f:Int) (WalkArith.wf_i64 (by omega)) (some (A.fn f)) (by unfold mFn;rw[if_pos (by omega),show (f:Int).toNat=f by omega,hy];rfl);simp only[pv] at hlk;have d3:ws.cell? ⟨A.fn f,3,none⟩=some (.int .i64 y.keep):=(cell_of (hs.1.fn hy).1).trans rfl;obtain⟨wb,hwb⟩:∃ wb,ws.alloc (.cells #[.int .i64 0] 3)=wb:=⟨_,rfl⟩;have hBb:Below ws.heap.size ws wb:=by subst hwb;exact(Below.refl _ ws).alloc (Nat.le_refl _) _
 have hzb:wb.heap.size=ws.heap.size+1:=by subst hwb;simp
 have h2:wb.heap[ws.heap.size]?=some (.cells #[.int .i64 0] 3 (0,0)):=by subst hwb;exact heap_alloc_new _ _
 have hb:=hs.below hBb;have hoB:∀ b,b < ws.heap.size→wb.heap[b]?=ws.heap[b]?:=fun b hlt=>hBb.block b hlt;have b0:wb.cell? ⟨w.heap.size,0,none⟩=some (.pointer (some ⟨A.core,0,none⟩)):=by rw[World.cell?_of_block (show wb.heap[w.heap.size]?=ws.heap[w.heap.size]? from hoB _ (by omega))];exact s0
 have b1:wb.cell? ⟨w.heap.size+1,0,none⟩=some (.int .i64 f):=by rw[World.cell?_of_block (show wb.heap[w.heap.size+1]?=ws.heap[w.heap.size+1]? from hoB _ (by omega))];exact s1
 have b2:wb.cell? ⟨ws.heap.size,0,none⟩=some (.int .i64 0):=(cell_of h2).trans rfl;have fr2:wb.frozen? ⟨ws.heap.size,0,none⟩=false:=frozen_of h2;have c4b:=hb.cc.2.2.2.2.1;have d3b:wb.cell? ⟨A.fn f,3,none⟩=some (.int .i64 y.keep):=(cell_of (hb.1.fn hy).1).trans rfl;have hlkb:=hb.drew.1.look_fn (f:Int) (WalkArith.wf_i64 (by omega)) (some (A.fn f)) (by unfold mFn;rw[if_pos (by omega),show (f:Int).toNat=f by omega,hy];rfl);simp only[pv] at hlkb;have HX:=Lib.hid (And.intro hsz (And.intro hBs (And.intro hzb (And.intro hBb (And.intro h2 (And.intro hs hb))))));have HH:=Lib.hid h;have HI:=Lib.hid hI;clear hsz hBs hzb hBb h0 h1 h2 hs hb hoB h hI;refine(callsIn_wide (n:=8)).1 ?_;refine callsIn_of_wp_marks Tryz.func78 rfl trivial ?_ rfl;simp only[Tryz.ntmps78,List.size_toArray,List.length_cons,List.length_nil,Nat.reduceAdd,Nat.reduceSub,Array.replicate_succ,Array.replicate_zero,List.push_toArray,List.append_toArray,List.nil_append,List.cons_append];refine wpIn_wide.2 ?_;go_wp2_with fail
 go_cut [4] from 4 to 93 (fun v wc=>v=.pointer (some ⟨ws.heap.size,0,none⟩)∧wc=wb.drew.setCell ⟨ws.heap.size,0,none⟩ (.int .i64 y.keep))
 case first=>
  go_big_region
  all_goals
   go_wp2_with fail
   go_meet
   case rel=>exact⟨rfl,rfl⟩
 case rest=>
  obtain⟨rfl,hwc⟩:=hcut;obtain⟨hsz,hBs,hzb,hBb,hnb,hs,hb⟩:=HX.out;have hcB:wc.heap[ws.heap.size]?=some (.cells #[.int .i64 y.keep] 3 (0,0)):=by rw[hwc];exact set_same (i:=0) (.int .i64 y.keep) hnb
  have hck:Kept (fun x=>x=ws.heap.size) wb.drew wc:=by rw[hwc];exact Kept.set1 _ _ _ _
  have hzc:wc.heap.size=w.heap.size+3:=by rw[hwc,World.size_setCell];show wb.heap.size=_;omega
  have hSc:Sys wc s A (fun x=>Grow F0 w0 w x∧x < w.heap.size):=((HH.out.1.lt).below (hBs.trans ((hBb.drew).mono (by omega)))).kept hck (fun x hx e=>by have:=hx.2;omega);have hBc:Below w.heap.size w wc:=(hBs.trans ((hBb.drew).mono (by omega))).trans (hck.below (by show w.heap.size≤wb.heap.size;omega) (fun x hx e=>by omega));have k0:wc.cell? ⟨w.heap.size,0,none⟩=some (.pointer (some ⟨A.core,0,none⟩)):=by rw[World.cell?_of_block (show wc.heap[w.heap.size]?=wb.heap[w.heap.size]? from hck.block _ (by show w.heap.size < wb.heap.size;omega) (by omega))];exact b0
  have k1:wc.cell? ⟨w.heap.size+1,0,none⟩=some (.int .i64 f):=by rw[World.cell?_of_block (show wc.heap[w.heap.size+1]?=wb.heap[w.heap.size+1]? from hck.block _ (by show w.heap.size+1 < wb.heap.size;omega) (by omega))];exact b1
  have hws2:ws.heap.size=w.heap.size+2:=hsz;rw[hws2] at hcB;have k2:wc.cell? ⟨w.heap.size+2,0,none⟩=some (.int .i64 y.keep):=(cell_of hcB).trans rfl;have hRc:=Rs.start hSc;rw[hws2];have HC:=Lib.hid (And.intro hzc (And.intro hBc hRc));clear hwc hcB hck hSc hs hb hnb hBb hzb hBs hsz HX b0 b1 b2 fr2 c4b d3b hlkb s0 s1 c4 d3 hlk hwb hws hws2 hzc hBc;have hpin:=pinned_any s A _ (by omega) (f:Int) wc hRc.1;simp only[ptr] at hpin;go_wp2_with fail
  refine hpin.mono ?_;clear hpin;rintro e wd ⟨v,rfl,hrd,hBd⟩;obtain⟨a,cap,rfl,-⟩:=hrd.any;have HBD:=Lib.hid (show w.heap.size+3≤wd.heap.size by have:=hBd.size;have:=HC.out.1;omega);have hbk:=fun n=>(callsIn_wide (n:=5)).1 (backward_in 5 a n cap wd);go_wp2_with fail
  refine(hbk _).mono ?_;clear hbk;rintro e we ⟨rfl,hwe⟩;have hnb:we.heap[wd.heap.size]?=some (.cells #[.slice a (pinnedL s f).length cap] 22 (0,0)):=by rw[hwe];exact heap_alloc_new _ _
  have hze:we.heap.size=wd.heap.size+1:=by rw[hwe];simp
  have hBe:Below wd.heap.size wd we:=by rw[hwe];exact(Below.refl _ wd).alloc (Nat.le_refl _) _
  have hsl:((pinnedL s f).length=0∧we.cell? ⟨wd.heap.size,0,none⟩=some (.slice none 0 0))∨∃ g cap',g < wd.heap.size∧w.heap.size+3≤g∧we.cell? ⟨wd.heap.size,0,none⟩=some (.slice (some ⟨g,0,none⟩) (pinnedL s f).length cap')∧∀ j,j < (pinnedL s f).length→we.cell? ⟨g,j,none⟩=some (.int .i64 ((pinnedL s f).getD j 0)):=by
   have hzc:=HC.out.1;rcases hrd with ⟨e1,e2⟩|⟨g,cap',e1,h2,h3,h4,h5⟩
   ·left
    have e2:pinnedL s f=[]:=e2;rw[e2] at hnb ⊢;refine⟨rfl,(cell_of hnb).trans ?_⟩;have e1:Value.slice a (pinnedL s f).length cap=.slice none 0 0:=e1;rw[e2] at e1;rw[e1];rfl
   ·right
    have e1:Value.slice a (pinnedL s f).length cap=.slice (some ⟨g,0,none⟩) (pinnedL s f).length cap':=e1;refine⟨g,cap',h4,by omega,(cell_of hnb).trans (by rw[e1];rfl),fun j hj=>?_⟩;rw[World.cell?_of_block (show we.heap[g]?=wd.heap[g]? from hBe.block g h4)];exact(h5 j hj).1
  have hlen:(pinnedL s f).length≤1000000000:=by
   have h1:=List.length_filter_le (bp s fun x=>x.fn == (f:Int) && x.pin) (ids s);have h2:=ids_len s;have h3:(pinnedL s f).length=((ids s).filter (bp s fun x=>x.fn == (f:Int) && x.pin)).length:=rfl;omega
  have hBce:Below wc.heap.size wc we:=hBd.trans (hBe.mono hBd.size);have hFx:∀ x,(Grow F0 w0 w x∧x < w.heap.size)→x < we.heap.size:=fun x hx=>by have:=hBce.size;have:=HC.out.1;omega
  have hMe:Mid we (fun x=>Grow F0 w0 w x∧x < w.heap.size) we s A:=⟨(HC.out.2.2.1.below hBce).mono (fun x hx=>by
   rcases hx with hx|hx
   ·exact .inl hx
   ·omega),Kept.refl _ _⟩
  have hown:∀ x,x < wc.heap.size→∀ v,wc.cell? ⟨x,0,none⟩=some v→we.cell? ⟨x,0,none⟩=some v:=fun x hx v hv=>by
   rw[World.cell?_of_block (show we.heap[x]?=wc.heap[x]? from hBce.block x hx)];exact hv
  have hzc:=HC.out.1;have e0:=hown w.heap.size (by omega) _ k0;have e1:=hown (w.heap.size+1) (by omega) _ k1;have e2:=hown (w.heap.size+2) (by omega) _ k2;have hlr:(List.filter (bp s fun x=>x.fn == (f:Int) && x.pin) (ids s)).length=(pinnedL s f).length:=rfl;rw[hlr];have HE:=Lib.hid (And.intro hsl (And.intro hlen (And.intro hFx (And.intro hMe (And.intro e0 (And.intro e1 (And.intro e2 (And.intro hze hBce))))))));clear hsl hlen hFx hMe e0 e1 e2 hze hBce hown hzc hlr hwe hnb hBe hrd hBd k0 k1 k2;obtain⟨len,hlen⟩:∃ len,(pinnedL s f).length=len:=⟨_,rfl⟩;rw[hlen];obtain⟨bs,hbs⟩:∃ b,wd.heap.size=b:=⟨_,rfl⟩;rw[hbs] at HBD ⊢;go_wp2_with fail
  refine range_rest { target:=.collected we.heap.size,args:=#[] } (fun W=>∃ c1:Nat→Nat,Mid we (fun x=>Grow F0 w0 w x∧x < w.heap.size) W (unpinned s f (len - y.keep)) { A with cac:=c1 }∧W.heap[we.heap.size]?=some (.deferred (some []))∧we.heap.size+2≤W.heap.size) ?range ?rest
  case range=>
   obtain⟨hsl,hlen1,hFx,hMe,e0,e1,e2,hze,hBce⟩:=HE.out;rw[hlen,hbs] at hsl;rw[hlen] at hlen1;rw[hbs] at hze;have hzw:=HC.out.1;have hwe:wc.heap.size≤we.heap.size:=hBce.size;have hg:∃ g,g < we.heap.size∧w.heap.size+3≤g∧((len=0∧we.cell? ⟨bs,0,none⟩=some (.slice none 0 0))∨∃ cap,we.cell? ⟨bs,0,none⟩=some (.slice (some ⟨g,0,none⟩) len cap)∧∀ j,j < len→we.cell? ⟨g,j,none⟩=some (.int .i64 ((pinnedL s f).getD j 0))):=by
    rcases hsl with hsl|⟨g,cap',h1,h2,h3,h4⟩
    ·exact⟨bs,by omega,by have:=HBD.out;omega,.inl hsl⟩
    ·exact⟨g,by omega,h2,.inr ⟨cap',h3,h4⟩⟩
   obtain⟨g,hg1,hg2,hg3⟩:=hg;have hUa:=fun k (hk:k≤len)=>Unp.all HI.out hout (by omega) f k (by rw[hlen];exact hk);have hcel:∀ (W:World) (t:St) (B:Adr),Mid we (fun x=>Grow F0 w0 w x∧x < w.heap.size) W t B→W.cell? ⟨w.heap.size,0,none⟩=some (.pointer (some ⟨A.core,0,none⟩))∧W.cell? ⟨w.heap.size+1,0,none⟩=some (.int .i64 f)∧W.cell? ⟨w.heap.size+2,0,none⟩=some (.int .i64 y.keep):=by
    intro W t B h;have hb:∀ x,w.heap.size≤x→x < we.heap.size→W.heap[x]?=we.heap[x]?:=fun x hx hx2=>h.2.block x hx2 (fun e=>by omega);refine⟨?_,?_,?_⟩
    ·rw[World.cell?_of_block (show W.heap[w.heap.size]?=we.heap[w.heap.size]? from hb _ (by omega) (by omega))];exact e0
    ·rw[World.cell?_of_block (show W.heap[w.heap.size+1]?=we.heap[w.heap.size+1]? from hb _ (by omega) (by omega))];exact e1
    ·rw[World.cell?_of_block (show W.heap[w.heap.size+2]?=we.heap[w.heap.size+2]? from hb _ (by omega) (by omega))];exact e2
   have HCE:=Lib.hid hcel;have HUA:=Lib.hid hUa;have HFX:=Lib.hid hFx;have HG:=Lib.hid (And.intro hg1 (And.intro hg2 (And.intro hze (And.intro hzw hwe))));clear hcel hUa hsl;refine range_back 8 (by omega) bs g len (pinnedL s f) hlen1 (by rfl) rfl ⟨by omega,hg1⟩ hg3
    (fun _ k W=>k≤len - y.keep∧we.heap.size+2≤W.heap.size∧∃ ck:Nat→Nat,Mid we (fun x=>Grow F0 w0 w x∧x < w.heap.size) W (unpinned s f k) { A with cac:=ck })
    (fun _ id k W=>id=0∧we.heap.size+2≤W.heap.size∧∃ j,k=j+1∧j=len - y.keep∧∃ ck:Nat→Nat,Mid we (fun x=>Grow F0 w0 w x∧x < w.heap.size) W (unpinned s f j) { A with cac:=ck })
    ?hI0 ?hSt ?hSx ?a1 ?assign ?body ?done ?stop
   case assign=>
    intro l i x W K hK
    gi_wp2
    exact hK
   case hI0=>
    intro W1 hB1 hs1;refine⟨by omega,by omega,A.cac,?_⟩;rw[unpinned_zero];exact⟨(hMe.1.below hB1).mono (fun x hx=>by
     rcases hx with hx|hx
     ·exact .inl hx
     ·omega),Kept.of_below hB1⟩
   case hSt=>
    rintro W1 k W W' hk hs ⟨h1,h0,ck,h2⟩;exact⟨h1,by omega,ck,h2.stable hFx hk hs⟩
   case hSx=>
    rintro W1 id k W W' hk hs ⟨h0,h9,j,h1,h2,ck,h3⟩;exact⟨h0,by omega,j,h1,h2,ck,h3.stable hFx hk hs⟩
   case done=>
    rintro W1 W ⟨h1,h9,ck,h2⟩ hD;have hkk:len - y.keep=len:=by omega
    refine⟨.inl rfl,rfl,ck,by rw[hkk];exact h2,hD,h9⟩
   case stop=>
    rintro W1 id k W hk ⟨rfl,h9,j,h1,h2,ck,h3⟩ hD;obtain rfl:k=j:=by omega
    exact wpIn_exit ⟨.inr rfl,rfl,ck,by rw[← h2];exact h3,hD,h9⟩
   case body=>
    rintro W1 l k W ⟨hk1,-,ck,hM⟩ hk hsz;obtain⟨q0,q1,q2⟩:=HCE.out W _ _ hM;obtain⟨j,hj⟩:∃ j,len - 1 - k=j:=⟨_,rfl⟩;obtain⟨id,hid⟩:∃ id,(pinnedL s f).getD (len - 1 - k) 0=id:=⟨_,rfl⟩;rw[hid,hj];by_cases hbrk:j < y.keep
    ·have hbrk':(j:Int) < (y.keep:Int):=by omega
     gi_wp2
     exact⟨⟨rfl,rfl⟩,rfl,hsz,k,rfl,by omega,ck,hM⟩
    ·have hbrk':¬ (j:Int) < (y.keep:Int):=by omega
     have hU:=HUA.out k (by omega);obtain⟨i,x,a1,a2,a3,a4,a5⟩:=hU.at_ HI.out (by rw[hlen];exact hk);rw[hlen,hid] at a1;obtain⟨t,ht⟩:∃ t,unpinned s f k=t:=⟨_,rfl⟩;rw[ht] at hM hU a2;have hbo:=hU.inv.box i x a2;have hil:=get_lt a2;have hlL:=hU.len;have hlk:=hM.1.look_box id (by rw[a1];exact WalkArith.wf_i64 (by omega)) (some (A.box i)) (by rw[a1];unfold mBox;rw[if_pos ⟨by omega,by omega,hbo.live.2 a5⟩,show ((i:Int)+1).toNat - 1=i by omega];rfl);simp only[pv] at hlk;have hRW:=Rs.start hM.1;have g7:=hRW.cc.2.2.2.2.2.2.2.1;obtain⟨-,-,-,-,-,-,b6,-⟩:=(hRW.bq a2).cells;have bf:=(hRW.bq a2).frozen 6;have hz:=pinB_rs hRW i x a2 false;dsimp only at g7 b6 bf hz;obtain⟨wz,hwz⟩:∃ wz,W.setCell ⟨A.box i,6,none⟩ (.bool false)=wz:=⟨_,rfl⟩;rw[hwz] at hz;have hx2:(pinB t i false).boxes[i]?=some { x with pin:=false }:=by rw[pinB_eq a2];exact set_same' a2
     have hidl:=P12.idle_any (A.box i) { x with pin:=false } wz (hz.bq hx2) hbo.st;have HB:=Lib.hid (And.intro hU (And.intro hbo (And.intro hM (And.intro hz (And.intro a2 (And.intro ht (And.intro hx2 hRW)))))));have HA4:=Lib.hid (And.intro a4 a5);clear hU hbo hM hz a2 ht hx2 hRW hk1 hil hlL a4 a5 a3;have hun:unpinned s f (k+1)=if P12.idle x=true then idleS (pinB t i false) i (t.now+(winS t f).fin) else pinB t i false:=by
      rw[unpinned_succ s f k (by rw[hlen];exact hk),hlen,hid,HB.out.2.2.2.2.2.1,a1];exact unpin_at HB.out.2.2.2.2.1 f
     have hq96:P12.idle { x with pin:=false }=P12.idle x:=rfl;rw[hq96] at hidl;clear hq96 a1;have hf96:Fence.wide.fn 96:=trivial;cases hdl:P12.idle x
     ·rw[hdl] at hidl hun
      simp only[Bool.false_eq_true,if_false] at hun;have HUN:=Lib.hid hun;clear hun hdl
      gi_wp2_with (gi_at_call 96;refine(CallsIn.inRound l ((callsIn_wide (n:=_)).2 hidl)).mono ?_;rintro e w' ⟨rfl,rfl⟩)
      obtain⟨u1,u2,u3,u4⟩:=HB.out.2.2.1.rs HFX.out hsz HB.out.2.2.2.1;refine⟨u2,⟨u3 _ (by have:=HG.out.2.2.1;omega) (fun e=>by have:=e.2;have:=HBD.out;omega),u3 _ HG.out.1 (fun e=>by have:=e.2;have:=HG.out.2.1;omega)⟩,by omega,u4,ck,?_⟩;rw[HUN.out];exact u1
     ·rw[hdl] at hidl hun
      rw[if_pos rfl] at hun;have HUN:=Lib.hid hun;clear hun
      gi_wp2_with (gi_at_call 96;refine(CallsIn.inRound l ((callsIn_wide (n:=_)).2 hidl)).mono ?_;rintro e w' ⟨rfl,rfl⟩)
      obtain⟨hU,hbo,hM,hz,a2,ht,hx2,hRW⟩:=HB.out;have hMz:=hM.rs HFX.out hsz hz;obtain⟨z0,z1,-⟩:=HCE.out wz _ _ hMz.1;have z2:=hz.cc.1;dsimp only at z2;have hzn:(pinB t i false).now=t.now:=(quiet_pinB t i false).now;rw[hzn] at z2;have hnow:=hU.inv.now;have hyt:t.fns f=some y:=by rw[hU.mild.fns];exact hy
      have hyz:(pinB t i false).fns f=some y:=by rw[(quiet_pinB t i false).fns];exact hyt
      have hwin:=window_any (pinB t i false) { A with cac:=ck } _ f hf y hyz N hfo.his (by omega) wz.drew hz.drew.1;have hwb:=win_bd y.his y.ring N hfo.his;have hws:winS t f=win y.his y.ring:=by unfold winS;rw[hyt]
      have hInv1:=hU.inv.pinB_ (fun j e=>e.elim) a2 (HB.out.2.1.live.1 (by
       have:=hbo.live;exact this.2 (fun e=>by have:=hbo.deadpin e;rw[HA4.out.1] at this;cases this))) false
      have hlz:(pinB t i false).boxes.length=s.boxes.length:=(quiet_pinB t i false).len.trans hU.len;have hoz:(pinB t i false).out.isSome=true:=(quiet_pinB t i false).out hU.mild.out;have hid2:∀ (W':World) (en:Int),Rs W (fun x=>(Grow F0 w0 w x∧x < w.heap.size)∨(we.heap.size+2≤x∧x < W.heap.size)) W' (pinB t i false) { A with cac:=ck }→Calls Tryz.prog 97 #[.pointer (some ⟨A.core,0,none⟩),.pointer (some ⟨A.box i,0,none⟩),.int .i64 en] W' fun e w'=>e=.returned (.tuple #[])∧∃ cac:Nat→Nat,Rs W (fun x=>(Grow F0 w0 w x∧x < w.heap.size)∨(we.heap.size+2≤x∧x < W.heap.size)) w' (idleS (pinB t i false) i en) { A with cac:=cac }:=fun W' en h=>
       idle_any (pinB t i false) N (only i) hInv1 (by omega) (outl (pinB t i false)) (out_some hoz) (out_len hInv1 (by omega)) { A with cac:=ck } W _ i { x with pin:=false } hx2 HA4.out.2 en W' h
      have HID:=Lib.hid hid2;have HKK:=Lib.hid (show k+1≤len - y.keep by omega);obtain⟨tn,htn⟩:∃ n,t.now=n:=⟨_,rfl⟩;rw[htn] at z2 hnow;obtain⟨wv,hwv⟩:∃ v,win y.his y.ring=v:=⟨_,rfl⟩;rw[hwv] at hwin hwb hws;obtain⟨wk,wp,wf⟩:=wv;simp only[Win.val,ptr] at hwin hwb;have hq1:IntKind.i64.wrap (tn+(wf:Int))=tn+(wf:Int):=IntWalk.i64_in _ ⟨by omega,by omega⟩;have hq2:wrap64 (tn+(wf:Int))=tn+(wf:Int):=IntWalk.wrap64_in _ ⟨by omega,by omega⟩;have hSz:∀ (W':World) (t':St) (c':Nat→Nat),t'.now=tn→Rs W (fun x=>(Grow F0 w0 w x∧x < w.heap.size)∨(we.heap.size+2≤x∧x < W.heap.size)) W' t' { A with cac:=c' } →
        W'.cell? ⟨w.heap.size,0,none⟩=some (.pointer (some ⟨A.core,0,none⟩))∧W'.cell? ⟨w.heap.size+1,0,none⟩=some (.int .i64 f)∧W'.cell? ⟨A.core,0,none⟩=some (.int .i64 tn):=fun W' t' c' e h=>by
       have hMx:=hM.rs HFX.out hsz h;obtain⟨a,b,-⟩:=HCE.out W' _ _ hMx.1;have:=h.cc.1;dsimp only at this;rw[e] at this;exact⟨a,b,this⟩
      have hfield:∀ w,(Instr.field 59 (.agg #[.int .i64 wk,.int .i64 wp,.int .i64 wf]) 2).run Tryz.prog w=.ok (.int .i64 wf) w:=fun w=>by kernel_rfl
      have HSZ:=Lib.hid hSz;have HFI:=Lib.hid (And.intro hM (And.intro hws (And.intro htn (And.intro hzn hz))));clear hidl hdl hf96 hbrk hbrk' q0 q1 q2 hlk g7 b6 bf hwz hU hbo hM hz a2 ht hx2 hRW hMz hid2 hSz hInv1 hlz hoz hyt hyz hws hwv htn hzn hnow hwb;refine region_held_in (S:=fun W=>W.cell? ⟨w.heap.size,0,none⟩=some (.pointer (some ⟨A.core,0,none⟩))∧W.cell? ⟨w.heap.size+1,0,none⟩=some (.int .i64 f)∧W.cell? ⟨A.core,0,none⟩=some (.int .i64 tn)) (by kernel_rfl) (by kernel_rfl) (fun h=>by obtain⟨_,_,h⟩:=h;exact h) ⟨z0,z1,z2⟩ (fun hHeld=>?_);refine tkH 0 (v:=?v0) rfl ?hy0 ?rest0
      case hy0=>intro w hSw;(try dsimp only at hSw);go_simp;try with_reducible rfl
      simp only[Act.put,List.setIfInBounds_toArray,List.set_cons_zero,List.set_cons_succ];refine tkH 1 (v:=?v1) rfl ?hy1 ?rest1
      case hy1=>intro w hSw;(try dsimp only at hSw);go_simp;try with_reducible rfl
      simp only[Act.put,List.setIfInBounds_toArray,List.set_cons_zero,List.set_cons_succ];refine tkH 2 (v:=?v2) rfl ?hy2 ?rest2
      case hy2=>intro w hSw;(try dsimp only at hSw);go_simp;try with_reducible rfl
      simp only[Act.put,List.setIfInBounds_toArray,List.set_cons_zero,List.set_cons_succ];refine tkH 3 (v:=?v3) rfl ?hy3 ?rest3
      case hy3=>intro w hSw;(try dsimp only at hSw);go_simp;try with_reducible rfl
      simp only[Act.put,List.setIfInBounds_toArray,List.set_cons_zero,List.set_cons_succ];refine tkH 4 (v:=?v4) rfl ?hy4 ?rest4
      case hy4=>intro w hSw;(try dsimp only at hSw);go_simp;try with_reducible rfl
      simp only[Act.put,List.setIfInBounds_toArray,List.set_cons_zero,List.set_cons_succ];refine tkH 5 (v:=?v5) rfl ?hy5 ?rest5
      case hy5=>intro w hSw;(try dsimp only at hSw);go_simp;try with_reducible rfl
      simp only[Act.put,List.setIfInBounds_toArray,List.set_cons_zero,List.set_cons_succ];refine tkH 6 (v:=?v6) rfl ?hy6 ?rest6
      case hy6=>intro w hSw;(try dsimp only at hSw);go_simp;try with_reducible rfl
      simp only[Act.put,List.setIfInBounds_toArray,List.set_cons_zero,List.set_cons_succ];refine tkH 7 (v:=?v7) rfl ?hy7 ?rest7
      case hy7=>intro w hSw;(try dsimp only at hSw);go_simp;try with_reducible rfl
      simp only[Act.put,List.setIfInBounds_toArray,List.set_cons_zero,List.set_cons_succ];refine wpAnyH_ready (rs:=[8]) (by kernel_rfl) (by simp) ?_;refine AllReadyH.cons (o:=_) rfl (fun K hK=>?_) AllReadyH.nil;go_simp
      refine hwin.mono ?_;rintro e w3 ⟨rfl,hB3⟩;have h3:=HFI.out.2.2.2.2.drew.below hB3;refine hK.out _ _ (HSZ.out w3 _ ck (HFI.out.2.2.2.1.trans HFI.out.2.2.1) h3) (fun hHeld=>?_);clear hK K;refine tkH 9 (v:=?v9) rfl ?hy9 ?rest9
      case hy9=>intro w hSw;(try dsimp only at hSw);go_simp;try with_reducible rfl
      simp only[Act.put,List.setIfInBounds_toArray,List.set_cons_zero,List.set_cons_succ];refine tkH 10 (v:=?v10) rfl ?hy10 ?rest10
      case hy10=>intro w hSw;(try dsimp only at hSw);go_simp;try with_reducible rfl
      simp only[Act.put,List.setIfInBounds_toArray,List.set_cons_zero,List.set_cons_succ];refine wpAnyH_ready (rs:=[11]) (by kernel_rfl) (by simp) ?_;refine AllReadyH.cons (o:=_) rfl (fun K hK=>?_) AllReadyH.nil;go_simp
      refine(HID.out w3 (tn+(wf:Int)) h3).mono ?_;rintro e w4 ⟨rfl,c4,h4⟩;refine hK.out _ _ (HSZ.out w4 _ c4 ((idleS_now _ _ _).trans (HFI.out.2.2.2.1.trans HFI.out.2.2.1)) h4) (fun hHeld=>?_);clear hK K;refine wpAnyH_done (by kernel_rfl) ?_ _;obtain⟨u1,u2,u3,u4⟩:=HFI.out.1.rs HFX.out hsz h4;refine⟨u2,⟨u3 _ (by have:=HG.out.2.2.1;omega) (fun e=>by have:=e.2;have:=HBD.out;omega),u3 _ HG.out.1 (fun e=>by have:=e.2;have:=HG.out.2.1;omega)⟩,by have:=HKK.out;omega,u4,c4,?_⟩;rw[HUN.out,HFI.out.2.2.1,HFI.out.2.1];exact u1
  case rest=>
   rintro W ⟨c1,hM,hD,hsz⟩;obtain⟨hsl,hlen1,hFx,hMe,e0,e1,e2,hze,hBce⟩:=HE.out;have hU:=Unp.all HI.out hout (by omega) f (len - y.keep) (by rw[hlen];omega);obtain⟨s1,hs1⟩:∃ s1,unpinned s f (len - y.keep)=s1:=⟨_,rfl⟩;rw[hs1] at hM hU;have hkS:keepS f s=pinUp f (y.keep - (pinnedL s1 f).length) s1:=by rw[keepS_eq hy,hlen,hs1]
   have hzw:=HC.out.1;have hwe:wc.heap.size≤we.heap.size:=hBce.size
   have hcel:∀ (W:World) (t:St) (B:Adr),Mid we (fun x=>Grow F0 w0 w x∧x < w.heap.size) W t B→W.cell? ⟨w.heap.size,0,none⟩=some (.pointer (some ⟨A.core,0,none⟩))∧W.cell? ⟨w.heap.size+1,0,none⟩=some (.int .i64 f)∧W.cell? ⟨w.heap.size+2,0,none⟩=some (.int .i64 y.keep):=by
    intro W t B h;have hb:∀ x,w.heap.size≤x→x < we.heap.size→W.heap[x]?=we.heap[x]?:=fun x hx hx2=>h.2.block x hx2 (fun e=>by omega);refine⟨?_,?_,?_⟩
    ·rw[World.cell?_of_block (show W.heap[w.heap.size]?=we.heap[w.heap.size]? from hb _ (by omega) (by omega))];exact e0
    ·rw[World.cell?_of_block (show W.heap[w.heap.size+1]?=we.heap[w.heap.size+1]? from hb _ (by omega) (by omega))];exact e1
    ·rw[World.cell?_of_block (show W.heap[w.heap.size+2]?=we.heap[w.heap.size+2]? from hb _ (by omega) (by omega))];exact e2
   have HCE:=Lib.hid hcel;have hst:=fun (W W':World) (t t':St) (B B':Adr) (h:Mid we (fun x=>Grow F0 w0 w x∧x < w.heap.size) W t B) (hsz:we.heap.size+2≤W.heap.size) (h2:Rs W (fun x=>(Grow F0 w0 w x∧x < w.heap.size)∨(we.heap.size+2≤x∧x < W.heap.size)) W' t' B')=>h.rs hFx hsz h2;have HST:=Lib.hid hst
   have hend:∀ (W:World) (t:St) (cx bx:Nat→Nat),(∀ i,i < s.boxes.length→bx i=A.box i)→Mid we (fun x=>Grow F0 w0 w x∧x < w.heap.size) W t { A with cac:=cx,box:=bx }→we.heap.size+2≤W.heap.size→t=keepS f s→Rx w0 F0 (W.putObj we.heap.size (.deferred none)) (keepS f s) A s.boxes.length:=by
    intro W t cx bx hbx h hsz ht;subst ht;refine⟨cx,bx,hbx,?_⟩;have h2:=h.stable hFx (putObj_kept (B:=we.heap.size) (.deferred none) (.inl rfl)) (by simp);have hk:=(HH.out.2.trans (Kept.of_below (F:=fun _=>False) (HC.out.2.1.trans (hBce.mono (by omega)))) (fun _ _ h=>h.elim)).trans h2.2 (fun x hx e=>by
     rcases e.1 with e|e
     ·exact e
     ·omega)
    have hz1:=HH.out.2.size;have hz2:=h2.2.size;exact Rs.of h2.1 (fun x hx=>by
     rcases hx with ⟨hx|hx,hx2⟩|hx
     ·exact .inl hx
     ·exact .inr ⟨hx.1,by omega⟩
     ·exact .inr ⟨by omega,hx.2⟩) hk
   have HEND:=Lib.hid hend;obtain⟨q0,q1,q2⟩:=hcel W _ _ hM;have hpin2:=pinned_any s1 { A with cac:=c1 } _ (by rw[hU.len];omega) (f:Int) W hM.1;have hlr:((ids s1).filter (bp s1 fun x=>x.fn == (f:Int) && x.pin)).length=(pinnedL s1 f).length:=rfl;have hpl:(pinnedL s1 f).length≤1000000000:=by
    have h1:=List.length_filter_le (bp s1 fun x=>x.fn == (f:Int) && x.pin) (ids s1);have h2:=ids_len s1;have h3:=hU.len;omega
   obtain⟨p,hp⟩:∃ p,(pinnedL s1 f).length=p:=⟨_,rfl⟩;have hD2:∀ W':World,Below W.heap.size W W'→W'.heap[we.heap.size]?=some (.deferred (some [])):=fun W' hB=>(hB.block _ (by omega)).trans hD;have HM:=Lib.hid (And.intro hM (And.intro hU (And.intro hkS (And.intro hsz (And.intro hD2 (And.intro hp (And.intro hFx hlr)))))));have hkp:=hfo.keep;clear hM hU hkS hD hsz hD2 hcel hst hend hsl hlen1 hFx hMe e0 e1 e2 hze hBce hs1 hlr HE;simp only[ptr] at hpin2;go_wp2_with fail
   refine hpin2.mono ?_;clear hpin2;rintro e W2 ⟨v,rfl,hrd2,hB2⟩;obtain⟨a2,cap2,rfl,-⟩:=hrd2.any;rw[HM.out.2.2.2.2.2.2.2,HM.out.2.2.2.2.2.1];rw[HM.out.2.2.2.2.2.1] at hpl;have hM2:Mid we (fun x=>Grow F0 w0 w x∧x < w.heap.size) W2 s1 { A with cac:=c1 }∧W2.heap[we.heap.size]?=some (.deferred (some []))∧we.heap.size+2≤W2.heap.size:=by
    obtain⟨hM,-,-,hsz,hD2,-,hFx,-⟩:=HM.out;have:=(HST.out W W2 s1 s1 _ _ hM hsz ((Rs.start hM.1).below hB2));exact⟨this.1,hD2 W2 hB2,this.2.2.2⟩
   have HM2:=Lib.hid hM2;clear hrd2 hB2 hM2 q0 q1 q2;go_wp2_with fail
   go_loopw [8] (fun x wr=>∃ (r:Nat) (sk:St) (ck bk:Nat→Nat),x=.int .i64 ((p+r:Nat):Int)∧r≤1000∧pinUp f (y.keep - (p+r)) sk=keepS f s∧Inv sk N none_∧Mildly s1 sk∧sk.boxes.length≤s.boxes.length+r∧s.boxes.length≤sk.boxes.length∧(∀ i,i < s.boxes.length→bk i=A.box i) ∧
    Mid we (fun x=>Grow F0 w0 w x∧x < w.heap.size) wr sk { A with cac:=ck,box:=bk }∧wr.heap[we.heap.size]?=some (.deferred (some []))∧we.heap.size+2≤wr.heap.size) (fun x _=>y.keep - (intOf x).toNat)
   case atStart=>
    obtain⟨hM,hU,hkS,-,-,hp,-,-⟩:=HM.out;exact⟨0,s1,c1,A.box,rfl,by omega,by rw[hkS,hp];rfl,hU.inv,⟨rfl,rfl,rfl,rfl,hU.mild.out⟩,by rw[hU.len];omega,by rw[hU.len];omega,fun _ _=>rfl,HM2.out⟩
   case round=>
    obtain⟨r,sk,ck,bk,rfl,hr,hpu,hIk,hmk,hl1,hl2,hbk,hMk,hDk,hzk⟩:=hrel;rename World=>W3
    obtain⟨q0,q1,q2⟩:=HCE.out W3 _ _ hMk;by_cases hlt:p+r < y.keep
    ·have hlt':((p+r:Nat):Int) < (y.keep:Int):=by omega
     have hpu2:(if (pinMore sk f).2=true then pinUp f (y.keep - (p+(r+1))) (pinMore sk f).1 else (pinMore sk f).1)=keepS f s:=by
      rw[show y.keep - (p+r)=(y.keep - (p+(r+1)))+1 by omega,pinUp_succ] at hpu;exact hpu
     have hfk:sk.fns=s.fns:=hmk.fns.trans HM.out.2.1.mild.fns;have hyk:sk.fns f=some y:=by rw[hfk];exact hy
     have hsp:=spare_any sk N hIk.low (by omega) { A with cac:=ck,box:=bk } _ f W3 hMk.1;have HPM:=Lib.hid (hIk.pinMore_ (f:=f) hmk.out hyk);have HPU:=Lib.hid hpu2;have HK:=Lib.hid (And.intro hl1 (And.intro hl2 (And.intro hmk (And.intro hIk (And.intro hyk (And.intro hbk (And.intro hMk (And.intro hDk hzk))))))));clear hpu hpu2 hl1 hl2 hmk hIk hyk hbk hMk hDk hzk hfk;dsimp only[ptr] at hsp;cases hss:spareS sk f with
     | some i=>
      rw[hss] at hsp;simp only[Option.map_some] at hsp;have hsp:Calls Tryz.prog 129 #[.pointer (some ⟨A.core,0,none⟩),.int .i64 f] W3 fun e w'=>e=.returned (.pointer (some ⟨bk i,0,none⟩))∧Below W3.heap.size W3 w':=hsp;obtain⟨x,hx,hlv,-⟩:=spareS_is hss;go_wp2_with fail
      refine hsp.mono ?_;clear hsp;rintro e Wt ⟨rfl,hBt⟩;obtain⟨bi,hbi⟩:∃ b,bk i=b:=⟨_,rfl⟩;have hMt0:=HST.out W3 Wt sk sk _ _ HK.out.2.2.2.2.2.2.1 HK.out.2.2.2.2.2.2.2.2 ((Rs.start HK.out.2.2.2.2.2.2.1.1).below hBt);obtain⟨sx,hsx⟩:∃ sx,sx=sk:=⟨_,rfl⟩;obtain⟨bx,hbxe⟩:∃ bx,bx=bk:=⟨_,rfl⟩;have hMt:Mid we (fun x=>Grow F0 w0 w x∧x < w.heap.size) Wt sx { A with cac:=ck,box:=bx }:=by rw[hsx,hbxe];exact hMt0.1
      have hzt:=hMt0.2.2.2;have hDt:Wt.heap[we.heap.size]?=some (.deferred (some [])):=(hBt.block _ (by have:=HK.out.2.2.2.2.2.2.2.2;omega)).trans HK.out.2.2.2.2.2.2.2.1;have hxt:sx.boxes[i]?=some x:=by rw[hsx];exact hx
      have hok:BoxOk sx i x:=by rw[hsx];exact HK.out.2.2.2.1.box i x hx
      have hlx:sx.boxes.length≤998001001:=by rw[hsx];have:=HK.out.1;omega
      have hpm:pinMore sk f=(pin1 sx i,true):=by unfold pinMore;rw[hss,hsx]
      have hbx:∀ j,j < s.boxes.length→bx j=A.box j:=by rw[hbxe];exact HK.out.2.2.2.2.2.1
      rw[← hbxe];clear hbi hMt0 hBt hx hlv hss hbxe hsx q0 q1 q2;have hxk:=hok.host;obtain⟨ho,hho,hxh⟩:=hxk;have hidw:(Lit.int .i64 x.id).wf=true:=by rw[hok.id];exact WalkArith.wf_i64 (by have:=get_lt hxt;omega)
      have htk:=take_rs (Rs.start hMt.1) i x hxt ho hho hxh hidw;rw[← takeB_eq hxt hxh] at htk;obtain⟨t0,-,-⟩:=HCE.out Wt _ _ hMt;have hx2:(takeB sx i).boxes[i]?=some x:=by rw[takeB_eq hxt hxh];exact hxt
      have HT:=Lib.hid (And.intro hMt (And.intro hzt (And.intro hDt (And.intro hpm (And.intro hbx hx2)))));clear hMt hzt hDt hpm hbx hx2 hxt hok hidw hxh;go_wp2_with fail
      refine htk.mono ?_;rintro e W7 ⟨rfl,cy,h7⟩;have hcl:=(h7.bq HT.out.2.2.2.2.2).cells;obtain⟨-,-,-,-,-,-,g6,-⟩:=hcl;have gf:=(h7.bq HT.out.2.2.2.2.2).frozen 6;have h8:=pinB_rs h7 i x HT.out.2.2.2.2.2 true;dsimp only at g6 gf h8;have H8:=Lib.hid h8;clear h8 h7 htk;go_wp2_with fail
      go_roundw
      case rel=>
       obtain⟨hMt,hzt,hDt,hpm,hbx,-⟩:=HT.out;obtain⟨u1,u2,u3,u4⟩:=HST.out _ _ _ _ _ _ hMt hzt H8.out;obtain⟨v1,v2,v3,v4⟩:=HPM.out;have e9:pinB (takeB sx i) i true=(pinMore sk f).1:=by rw[hpm];rfl
       rw[e9] at u1;refine⟨r+1,(pinMore sk f).1,cy,bx,by go_num,by omega,?_,v1,HK.out.2.2.1.trans v2,by have:=HK.out.1;omega,by have:=HK.out.2.1;omega,hbx,u1,u2.1.trans hDt,u4⟩;have:=HPU.out;rw[if_pos (by rw[hpm])] at this;exact this
      case measure=>simp[intOf];omega
     | none=>
      rw[hss] at hsp;simp only[Option.map_none] at hsp;have hsp:Calls Tryz.prog 129 #[.pointer (some ⟨A.core,0,none⟩),.int .i64 f] W3 fun e w'=>e=.returned (.pointer none)∧Below W3.heap.size W3 w':=hsp;go_wp2_with fail
      refine hsp.mono ?_;clear hsp;rintro e W4 ⟨rfl,hB4⟩;obtain⟨-,-,-,hIk,hyk,hbk,hMk,hDk,hzk⟩:=HK.out;have hM4:=HST.out W3 W4 sk sk _ _ hMk hzk ((Rs.start hMk.1).below hB4);obtain⟨t0,t1,-⟩:=HCE.out W4 _ _ hM4.1;have hD4:W4.heap[we.heap.size]?=some (.deferred (some [])):=(hB4.block _ (by omega)).trans hDk;have hR4:=Rs.start hM4.1.1;have c4:=hR4.drew.cc.2.2.2.2.1;have f1:W4.drew.cell? ⟨A.fn f,1,none⟩=some (.int .i64 y.mem):=(cell_of (hR4.drew.1.fn hyk).1).trans rfl;have t0':W4.drew.cell? ⟨w.heap.size,0,none⟩=some (.pointer (some ⟨A.core,0,none⟩)):=t0;have t1':W4.drew.cell? ⟨w.heap.size+1,0,none⟩=some (.int .i64 f):=t1;have hmf:memF sk f=(y.mem:Int):=by unfold memF;rw[hyk]
      have hlen4:sk.boxes.length≤999000000:=by have:=HK.out.1;omega
      have hro:=room_any sk N hIk hlen4 (HK.out.2.2.1.out) { A with cac:=ck,box:=bk } _ _ (y.mem:Int) (by have:=hfo.mem;omega) W4.drew hR4.drew;have hRI:=hIk.room (HK.out.2.2.1.out) (y.mem:Int);have hpmv:pinMore sk f=(match roomS sk (y.mem:Int) with | (s1,none)=>(s1,false) | (s1,some h)=>(pin1 (startS s1 f h) s1.boxes.length,true)):=by unfold pinMore;rw[hss,hmf];rfl
      have hfnW:∀ (W:World) (sx:St) (cx bx:Nat→Nat),sx.fns=sk.fns→Rs W4 (fun x=>(Grow F0 w0 w x∧x < w.heap.size)∨(we.heap.size+2≤x∧x < W4.heap.size)) W sx { A with cac:=cx,box:=bx } →
        W.cell? ⟨w.heap.size,0,none⟩=some (.pointer (some ⟨A.core,0,none⟩))∧W.cell? ⟨w.heap.size+1,0,none⟩=some (.int .i64 f)∧W.cell? ⟨A.core,4,none⟩=some (.map (some A.fnM))∧W.cell? ⟨A.fn f,1,none⟩=some (.int .i64 y.mem) ∧
        (Instr.lookup 81 (.map (some A.fnM)) (.int .i64 f) false).run Tryz.prog W=.ok (.pointer (some ⟨A.fn f,0,none⟩)) W:=by
       intro W sx cx bx hfe hr;have hMx:=HST.out W4 W sk sx _ _ hM4.1 hM4.2.2.2 hr;obtain⟨a0,a1,-⟩:=HCE.out W _ _ hMx.1;have hyx:sx.fns f=some y:=by rw[hfe];exact hyk
       refine⟨a0,a1,hr.cc.2.2.2.2.1,(cell_of (hr.1.fn hyx).1).trans rfl,?_⟩;exact hr.1.look_fn (f:Int) (WalkArith.wf_i64 (by omega)) (some (A.fn f)) (by unfold mFn;rw[if_pos (by omega),show (f:Int).toNat=f by omega,hyx];rfl)
      obtain⟨z0,z1,z4,zf,zl⟩:=hfnW W4.drew sk ck bk rfl hR4.drew;obtain⟨o,ho⟩:∃ o,roomS sk (y.mem:Int)=o:=⟨_,rfl⟩;rw[ho] at hro hRI hpmv;obtain⟨s5,ok⟩:=o;simp only at hro hRI;obtain⟨mm,hmm⟩:∃ m:Int,(y.mem:Int)=m:=⟨_,rfl⟩;rw[hmm] at hro zf hfnW;have HFW:=Lib.hid (And.intro hfnW (And.intro hRI (And.intro hpmv (And.intro hM4 hD4))));clear hfnW hRI hpmv hM4 hD4 hIk hyk hbk hMk hDk hzk hR4 c4 f1 t0 t1 t0' t1' hmf ho hss q0 q1 q2 hB4;cases ok with
      | none=>
       have hro:=hro;simp only[Option.getD_none,Option.isSome_none] at hro;go_wp2_with fail
       go_region_held3 (fun W=>W.cell? ⟨w.heap.size,0,none⟩=some (.pointer (some ⟨A.core,0,none⟩))∧W.cell? ⟨w.heap.size+1,0,none⟩=some (.int .i64 f)∧W.cell? ⟨A.core,4,none⟩=some (.map (some A.fnM))∧W.cell? ⟨A.fn f,1,none⟩=some (.int .i64 mm) ∧
         (Instr.lookup 81 (.map (some A.fnM)) (.int .i64 f) false).run Tryz.prog W=.ok (.pointer (some ⟨A.fn f,0,none⟩)) W) (first | exact⟨z0,z1,z4,zf,zl⟩ | exact⟨y0,y1,y4,yf,yl⟩)
        (first | (go_at_call 92;with_reducible refine hro.mono ?_;rintro e W5 ⟨rfl,cy,h5⟩;obtain⟨y0,y1,y4,yf,yl⟩:=HFW.out.1 W5 s5 cy bk HFW.out.2.1.2.2.1 h5))
       clear z0 z1 z4 zf zl hro y4 yf yl;have hD5:W5.heap[we.heap.size]?=some (.deferred (some [])):=(HST.out W4 W5 sk s5 _ _ HFW.out.2.2.2.1.1 HFW.out.2.2.2.1.2.2.2 h5).2.1.1.trans HFW.out.2.2.2.2;have hM5:=HST.out W4 W5 sk s5 _ _ HFW.out.2.2.2.1.1 HFW.out.2.2.2.1.2.2.2 h5;have hfin:s5=keepS f s:=by
        have h1:=HPU.out;rw[HFW.out.2.2.1] at h1;simpa using h1
       have HF:=Lib.hid (HEND.out W5 s5 cy bk HK.out.2.2.2.2.2.1 hM5.1 hM5.2.2.2 hfin);clear hM5 hfin h5;go_wp2_with fail
       refine⟨by simp,.inl ⟨_,_,rfl,run_takeDeferred hD5,?_⟩⟩;exact⟨_,results_none rfl _ _ _,rfl,HF.out⟩
      | some k=>
       have hro:=hro;simp only[Option.getD_some,Option.isSome_some] at hro;go_wp2_with fail
       go_region_held3 (fun W=>W.cell? ⟨w.heap.size,0,none⟩=some (.pointer (some ⟨A.core,0,none⟩))∧W.cell? ⟨w.heap.size+1,0,none⟩=some (.int .i64 f)∧W.cell? ⟨A.core,4,none⟩=some (.map (some A.fnM))∧W.cell? ⟨A.fn f,1,none⟩=some (.int .i64 mm) ∧
         (Instr.lookup 81 (.map (some A.fnM)) (.int .i64 f) false).run Tryz.prog W=.ok (.pointer (some ⟨A.fn f,0,none⟩)) W) (first | exact⟨z0,z1,z4,zf,zl⟩ | exact⟨y0,y1,y4,yf,yl⟩)
        (first | (go_at_call 92;with_reducible refine hro.mono ?_;rintro e W5 ⟨rfl,cy,h5⟩;obtain⟨y0,y1,y4,yf,yl⟩:=HFW.out.1 W5 s5 cy bk HFW.out.2.1.2.2.1 h5))
       clear z0 z1 z4 zf zl hro y4 yf yl;obtain⟨r1,r2,r3,r4,r5,r6,r7,r8,-,-⟩:=HFW.out.2.1;obtain⟨k1,k2,k3⟩:=r8 k rfl;have hy5:s5.fns f=some y:=by rw[r3];exact HK.out.2.2.2.2.1
       have hsa:=start_any s5 N r1.low r1.next (by have:=HK.out.1;omega) (outl s5) (out_some r7) (out_len r1 (by have:=HK.out.1;omega)) { A with cac:=cy,box:=bk } W4 _ f y hy5 k k1 W5 h5;have hst:=r1.start hy5 k1 k2 (by exact k3);have HS5:=Lib.hid (And.intro hst (And.intro (start_box (k:=k) hy5) (And.intro r2 k1)));clear r1 r2 r3 r4 r5 r6 r7 r8 k2 k3 hy5 hst h5;dsimp only at hsa;go_wp2_with fail
       refine hsa.mono ?_;clear hsa;rintro e Wt ⟨bb,rfl,ht⟩;have hM5:=HST.out W4 Wt sk _ _ _ HFW.out.2.2.2.1.1 HFW.out.2.2.2.1.2.2.2 ht;obtain⟨sx,hsx⟩:∃ sx,startS s5 f k=sx:=⟨_,rfl⟩;obtain⟨i,hi⟩:∃ i,s5.boxes.length=i:=⟨_,rfl⟩;obtain⟨bx,hbxe⟩:∃ bx,bxput bk s5.boxes.length bb=bx:=⟨_,rfl⟩;obtain⟨x,hxe⟩:∃ x:P12.Bx,⟨s5.next,f,k,y.mem,0,false,false,s5.now⟩=x:=⟨_,rfl⟩;have hMt:Mid we (fun x=>Grow F0 w0 w x∧x < w.heap.size) Wt sx { A with cac:=cy,box:=bx }:=by rw[← hsx,← hbxe];exact hM5.1
       have hzt:=hM5.2.2.2;have hDt:Wt.heap[we.heap.size]?=some (.deferred (some [])):=hM5.2.1.1.trans HFW.out.2.2.2.2;have hxt:sx.boxes[i]?=some x:=by rw[← hsx,← hi,← hxe];exact HS5.out.2.1
       have hok:BoxOk sx i x:=by rw[← hsx] at hxt ⊢;exact HS5.out.1.1.box i x hxt
       have hlx:sx.boxes.length≤998001002:=by rw[← hsx,HS5.out.1.2.1];have:=HK.out.1;have:=HS5.out.2.2.1;omega
       have hpm:pinMore sk f=(pin1 sx i,true):=by rw[HFW.out.2.2.1,← hsx,← hi]
       have hbx:∀ j,j < s.boxes.length→bx j=A.box j:=fun j hj=>by
        rw[← hbxe];unfold bxput;rw[if_neg (by have:=HK.out.2.1;have:=HS5.out.2.2.1;omega)];exact HK.out.2.2.2.2.2.1 j hj
       have hbb:bb=bx i:=by rw[← hbxe,← hi];simp[bxput]
       rw[hbb];clear hbb hM5 ht hsx hi hbxe hxe y0 y1;have hxk:=hok.host;obtain⟨ho,hho,hxh⟩:=hxk;have hidw:(Lit.int .i64 x.id).wf=true:=by rw[hok.id];exact WalkArith.wf_i64 (by have:=get_lt hxt;omega)
       have htk:=take_rs (Rs.start hMt.1) i x hxt ho hho hxh hidw;rw[← takeB_eq hxt hxh] at htk;obtain⟨t0,-,-⟩:=HCE.out Wt _ _ hMt;have hx2:(takeB sx i).boxes[i]?=some x:=by rw[takeB_eq hxt hxh];exact hxt
       have HT:=Lib.hid (And.intro hMt (And.intro hzt (And.intro hDt (And.intro hpm (And.intro hbx hx2)))));clear hMt hzt hDt hpm hbx hx2 hxt hok hidw hxh;go_wp2_with fail
       refine htk.mono ?_;rintro e W7 ⟨rfl,cy,h7⟩;have hcl:=(h7.bq HT.out.2.2.2.2.2).cells;obtain⟨-,-,-,-,-,-,g6,-⟩:=hcl;have gf:=(h7.bq HT.out.2.2.2.2.2).frozen 6;have h8:=pinB_rs h7 i x HT.out.2.2.2.2.2 true;dsimp only at g6 gf h8;have H8:=Lib.hid h8;clear h8 h7 htk;go_wp2_with fail
       go_roundw
       case rel=>
        obtain⟨hMt,hzt,hDt,hpm,hbx,-⟩:=HT.out;obtain⟨u1,u2,u3,u4⟩:=HST.out _ _ _ _ _ _ hMt hzt H8.out;obtain⟨v1,v2,v3,v4⟩:=HPM.out;have e9:pinB (takeB sx i) i true=(pinMore sk f).1:=by rw[hpm];rfl
        rw[e9] at u1;refine⟨r+1,(pinMore sk f).1,cy,bx,by go_num,by omega,?_,v1,HK.out.2.2.1.trans v2,by have:=HK.out.1;omega,by have:=HK.out.2.1;omega,hbx,u1,u2.1.trans hDt,u4⟩;have:=HPU.out;rw[if_pos (by rw[hpm])] at this;exact this
       case measure=>simp[intOf];omega
    ·have hlt':¬ ((p+r:Nat):Int) < (y.keep:Int):=by omega
     have hfin:sk=keepS f s:=by rw[← hpu,show y.keep - (p+r)=0 by omega];rfl
     have HF:=Lib.hid (HEND.out W3 sk ck bk hbk hMk hzk hfin);clear hfin hpu hMk hbk hl1 hl2 hmk hIk;go_wp2_with fail
     refine⟨by simp,.inl ⟨_,_,rfl,run_takeDeferred hDk,?_⟩⟩;exact⟨_,results_none rfl _ _ _,rfl,HF.out⟩
end Go.Proofs.YtigeldkbfbcpmaaGreat
