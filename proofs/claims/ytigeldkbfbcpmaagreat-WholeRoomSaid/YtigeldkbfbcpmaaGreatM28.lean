/- A part of the proof: what the functions of the program come to, and what holds at all times. -/
import Derived.Test.YtigeldkbfbcpmaaGreatM27
import Derived.Test.YtigeldkbfbcpmaaGreatM21
import Derived.Test.YtigeldkbfbcpmaaGreatM22
set_option linter.unusedVariables false
set_option linter.unusedSectionVars false
set_option linter.unusedSimpArgs false
set_option maxRecDepth 100000
set_option maxHeartbeats 8000000
namespace Go.Proofs.YtigeldkbfbcpmaaGreat
open Go.RowKit Go.Kpt Go.Shelf
theorem live_none{s:St}{n:Int}(A:Adr)(h:isLive s n=false):(mBox s A n).getD none=none:=by
 unfold mBox;rw[if_neg]
 ·rfl
 ·rintro⟨h1,h2,h3⟩
  unfold isLive at h;rw[h3,decide_eq_true (by omega)] at h;cases h
theorem live_some{s:St}{N:Nat}(hI:Inv s N none_){n:Int}(h:isLive s n=true):∃ (i:Nat) (x:P12.Bx),n=(i:Int)+1∧i < s.boxes.length∧s.boxes[i]?=some x∧x.st≠3∧∀ A,(mBox s A n).getD none=some (A.box i):=by
 unfold isLive at h;rw[Bool.and_eq_true,decide_eq_true_eq] at h;obtain⟨⟨h1,h2⟩,h3⟩:=h;have hi:n.toNat - 1 < s.boxes.length:=by omega
 obtain⟨x,hx⟩:∃ x,s.boxes[n.toNat - 1]?=some x:=⟨_,List.getElem?_eq_getElem hi⟩;refine⟨n.toNat - 1,x,by omega,hi,hx,(hI.box _ x hx).live.1 (by rw[show ((n.toNat - 1:Nat):Int)+1=n by omega];exact h3),fun A=>?_⟩;unfold mBox;rw[if_pos ⟨by omega,by omega,h3⟩];rfl
theorem brokeS_at{s:St}{i:Nat}{x:P12.Bx}(hx:s.boxes[i]?=some x)(hl:isLive s ((i:Int)+1)=true):brokeS s ((i:Int)+1)=(keepS x.fn.toNat (goneS s i),0):=by
 unfold brokeS;rw[if_neg (by rw[hl];exact Bool.noConfusion),show ((i:Int)+1).toNat - 1=i by omega,hx]
theorem brokeS_no{s:St}{n:Int}(hl:isLive s n=false):brokeS s n=(s,2):=by
 unfold brokeS;rw[if_pos hl]
theorem broke_any(s:St)(N:Nat)(hI:Inv s N none_)(hN:N < 4095)(hL:s.boxes.length≤997000000)(hout:s.out.isSome=true)(A:Adr)(w0:World)(F0:Nat→Prop)(n:Int)(hn:(Lit.int .i64 n).wf=true)(w:World)(h:Rs w0 F0 w s A):
  Calls Tryz.prog 54 #[.pointer (some ⟨A.core,0,none⟩),.int .i64 n] w fun e w'=>e=.returned (.int .i64 (brokeS s n).2)∧Rx w0 F0 w' (brokeS s n).1 A s.boxes.length:=by
 have c7:=h.cc.2.2.2.2.2.2.2.1;cases hl:isLive s n
 ·have hlk:=h.1.look_box n hn none (live_none A hl)
  simp only[pv] at hlk;rw[brokeS_no hl];have H:=Lib.hid h;clear h;go_enter Tryz.func54,Tryz.ntmps54
  go_wp2_with fail
  go_ret
  exact⟨rfl,H.out.rx _⟩
 ·obtain⟨i,x,rfl,hi,hx,hst,hm⟩:=live_some hI hl
  have hlk:=h.1.look_box ((i:Int)+1) hn (some (A.box i)) (hm A);simp only[pv] at hlk;rw[brokeS_at hx hl];obtain⟨g1,-,g3⟩:=hI.gone (fun j e=>e.elim) hx hst;obtain⟨z,hz,z1,z2,z3⟩:=goneS_box hx hst;obtain⟨f,hf,hzf,y,hy,-⟩:=(g1.box i z hz).fn;have hxf:x.fn.toNat=f:=by rw[← z2,hzf];omega
  rw[hxf];have hgo:=gone_any s N hI.low A w0 F0 i (by omega) x hx hst w h;have hout2:(goneS s i).out.isSome=true:=(lone_gone s i).out hout;have H:=Lib.hid h;clear h;go_enter Tryz.func54,Tryz.ntmps54
  go_wp2_with fail
  refine hgo.mono ?_;clear hgo;rintro e w1 ⟨rfl,cac,h1⟩;obtain⟨-,c1,-,-,-,-,-,-⟩:=(h1.bq hz).cells;rw[hzf] at c1;dsimp only at c1;have hkp:=keep_any (goneS s i) N g1 hN (by omega) hout2 { A with cac:=cac } w0 F0 f y hy w1 h1;rw[g3] at hkp;dsimp only at hkp;clear h1;go_wp2_with fail
  refine hkp.mono ?_;rintro e w2 ⟨rfl,cac2,box2,hb2,h2⟩;go_wp2_with fail
  go_ret
  exact⟨rfl,cac2,box2,hb2,h2⟩
def ofFn(s:St)(f:Nat):List Int:=(ids s).filter (bp s fun b=>b.fn == (f:Int))
theorem aheadS_no{s:St}{f:Nat}{x:Fnc}(hx:s.fns f=some x)(hb:0 < (ofFn s f).length∨P13.fitK s.hosts x.mem 32=none):aheadS s f=s:=by
 unfold aheadS;rw[hx];simp only;cases hf:P13.fitK s.hosts x.mem 32 with
 | none=>rfl
 | some k=>
  simp only;exact if_pos (hb.resolve_right (fun e=>by rw[hf] at e;cases e))
theorem aheadS_yes{s:St}{f k:Nat}{x:Fnc}(hx:s.fns f=some x)(hb:¬ 0 < (ofFn s f).length)(hf:P13.fitK s.hosts x.mem 32=some k):aheadS s f={ startS s f k with unt:=gput s.unt s.next x.fin }:=by
 unfold aheadS;rw[hx];simp only[hf];exact if_neg hb
theorem Inv.ahead_{s:St}{N f:Nat}{x:Fnc}(h:Inv s N none_)(ho:s.out.isSome=true)(hx:s.fns f=some x):
  Inv (aheadS s f) N none_∧Mildly s (aheadS s f)∧s.boxes.length≤(aheadS s f).boxes.length∧(aheadS s f).boxes.length≤s.boxes.length+1:=by
 cases hf:P13.fitK s.hosts x.mem 32 with
 | none=>
  rw[aheadS_no hx (.inr hf)];exact⟨h,⟨rfl,rfl,rfl,rfl,ho⟩,Nat.le_refl _,Nat.le_add_right _ _⟩
 | some k=>
  by_cases hb:0 < (ofFn s f).length
  ·rw[aheadS_no hx (.inl hb)]
   exact⟨h,⟨rfl,rfl,rfl,rfl,ho⟩,Nat.le_refl _,Nat.le_add_right _ _⟩
  ·rw[aheadS_yes hx hb hf]
   obtain⟨hu,hm,-⟩:=P13.fitK_some s.hosts x.mem 32 k hf;have hk:=P13.fitK_lt s.hosts x.mem 32 k hf;obtain⟨g1,g2,g3⟩:=h.start hx hk hu hm;have hq:Mildly s (startS s f k):=by
    unfold startS;rw[hx];exact⟨rfl,rfl,rfl,rfl,rfl⟩
   refine⟨g1.aside _ _ _ g1.out,⟨hq.fns,hq.now,hq.tok,hq.quo,hq.out⟩,?_,?_⟩
   ·show s.boxes.length≤(startS s f k).boxes.length
    omega
   ·show (startS s f k).boxes.length≤_
    omega
theorem eg123:∀ args w,(callFunc 123 args).run Tryz.prog w=.ok (.enter 123 args) w:=by intro args w;rfl
theorem ahead_no(s:St)(N:Nat)(hI:Inv s N none_)(hL:s.boxes.length≤997000000)(A:Adr)(w0:World)(F0:Nat→Prop)(f:Nat)(y:Fnc)(hy:s.fns f=some y)(hb:0 < (ofFn s f).length∨P13.fitK s.hosts y.mem 32=none)(w:World)(h:Rs w0 F0 w s A):
  Calls Tryz.prog 71 #[.pointer (some ⟨A.core,0,none⟩),.int .i64 f] w fun e w'=>e=.returned (.tuple #[])∧Rs w0 F0 w' s A:=by
 have hfo:=hI.fn f y hy;have hf:=hfo.lt;obtain⟨wa,hwa⟩:∃ wa,w.alloc (.cells #[.int .i64 f] 3)=wa:=⟨_,rfl⟩;have hBa:Below w.heap.size w wa:=by subst hwa;exact(Below.refl _ w).alloc (Nat.le_refl _) _
 have hza:wa.heap.size=w.heap.size+1:=by subst hwa;simp
 have hca:wa.heap[w.heap.size]?=some (.cells #[.int .i64 f] 3 (0,0)):=by subst hwa;exact heap_alloc_new _ _
 have ca:wa.cell? ⟨w.heap.size,0,none⟩=some (.int .i64 f):=(cell_of hca).trans rfl;have ha:=h.below hBa;have hw:=where_any s A _ (by omega) 123 #[.pointer (some ⟨w.heap.size,0,none⟩)] (bp s fun b=>b.fn == (f:Int)) eg123 wa ha.1
  (asks_of ha.1 ca (by omega) fun i x W _ hq hc=>fn123_any _ x _ f W hq hc)
 rw[show (ids s).filter (bp s fun b=>b.fn == (f:Int))=ofFn s f from rfl] at hw;simp only[ptr] at hw;have hmm:1≤y.mem:=hfo.mem.1;have hlen:(ofFn s f).length≤s.boxes.length:=Nat.le_trans (List.length_filter_le _ _) (ids_len s);have hST:Hid (∀ W,Below w.heap.size w W→W.cell? ⟨w.heap.size,0,none⟩=some (.int .i64 f)→(W.cell? ⟨A.core,5,none⟩=some (.pointer (some ⟨A.hosts,0,none⟩))∧W.cell? ⟨w.heap.size,0,none⟩=some (.int .i64 f)∧W.cell? ⟨A.core,4,none⟩=some (.map (some A.fnM))∧W.cell? ⟨A.fn f,1,none⟩=some (.int .i64 y.mem) ∧
   (Instr.lookup 81 (.map (some A.fnM)) (.int .i64 f) false).run Tryz.prog W=.ok (.pointer (some ⟨A.fn f,0,none⟩)) W)):=by
  intro W hB hc;have hr:=h.below hB;refine⟨hr.cc.2.2.2.2.2.1,hc,hr.cc.2.2.2.2.1,(cell_of (hr.1.fn hy).1).trans rfl,?_⟩;exact hr.1.look_fn (f:Int) (WalkArith.wf_i64 (by omega)) (some (A.fn f)) (by unfold mFn;rw[if_pos (by omega),show (f:Int).toNat=f by omega,hy];rfl)
 have hfit:Hid (∀ W,Below w.heap.size w W→Calls Tryz.prog 124 #[.pointer (some ⟨A.hosts,0,none⟩),.int .i64 y.mem] W fun e w'=>e=.returned (.tuple #[.int .i64 (max (P13.bi (P13.fitK s.hosts y.mem 32)) 0),.bool (P13.fitK s.hosts y.mem 32).isSome])∧Below W.heap.size W w'):=by
  intro W hB;refine(P13.fit_any A.hosts s.hosts (fun k hk=>(hI.host k hk).1.us) y.mem (by omega) W (h.below hB).1.hostsAt.1).mono ?_;rintro e w' ⟨rfl,-,hB2⟩;exact⟨rfl,hB2⟩
 have H:=Lib.hid (And.intro h (And.intro hBa (And.intro hza (And.intro ca hb))));have HF:=Lib.hid hfo;clear h hBa hca ha hza ca hI hfo hb;go_enter Tryz.func71,Tryz.ntmps71
 go_wp2_with fail
 refine hw.mono ?_;clear hw;rintro e wb ⟨v,rfl,hrd,hBb⟩;obtain⟨a,cap,rfl,-⟩:=hrd.any;have hBw:Below w.heap.size w wb:=H.out.2.1.trans (hBb.mono (by have:=H.out.2.2.1;omega));have hcb:wb.cell? ⟨w.heap.size,0,none⟩=some (.int .i64 f):=by
  rw[World.cell?_of_block (show wb.heap[w.heap.size]?=wa.heap[w.heap.size]? from hBb.block _ (by have:=H.out.2.2.1;omega))];exact H.out.2.2.2.1
 have hlt:w.heap.size < wb.heap.size:=by have:=hBb.size;have:=H.out.2.2.1;omega
 obtain⟨z5,zc,z4,z1,zl⟩:=hST.out wb.drew (hBw.trans (Below.refl _ _).drew |>.mono (Nat.le_refl _)) hcb;have hfi:=hfit.out wb.drew (hBw.trans (Below.refl _ _).drew |>.mono (Nat.le_refl _));have hBd0:Below w.heap.size w wb.drew:=hBw.trans (Below.refl _ _).drew;have hltd:w.heap.size≤wb.drew.heap.size:=Nat.le_of_lt hlt;have hltd2:w.heap.size < wb.drew.heap.size:=hlt;have hcd:wb.drew.cell? ⟨w.heap.size,0,none⟩=some (.int .i64 f):=hcb;have HB:=Lib.hid (And.intro hBd0 (And.intro hcb (And.intro hlt hBw)));have HD:=Lib.hid (And.intro hltd (And.intro hltd2 hcd));clear hltd hltd2 hcd;clear hBw hcb hlt hrd hBb hBd0;obtain⟨mx,hmx⟩:∃ m:Int,max (P13.bi (P13.fitK s.hosts y.mem 32)) 0=m:=⟨_,rfl⟩;obtain⟨ok,hok⟩:∃ b,(P13.fitK s.hosts y.mem 32).isSome=b:=⟨_,rfl⟩;obtain⟨len,hlq⟩:∃ len,(ofFn s f).length=len:=⟨_,rfl⟩;rw[hmx,hok] at hfi;rw[hlq] at hlen ⊢;have HK:=Lib.hid (And.intro hmx (And.intro hok hlq));clear hmx hok hlq;go_wp2_with fail
 go_region_held3 (fun W=>W.cell? ⟨A.core,5,none⟩=some (.pointer (some ⟨A.hosts,0,none⟩))∧W.cell? ⟨w.heap.size,0,none⟩=some (.int .i64 f)∧W.cell? ⟨A.core,4,none⟩=some (.map (some A.fnM))∧W.cell? ⟨A.fn f,1,none⟩=some (.int .i64 y.mem) ∧
   (Instr.lookup 81 (.map (some A.fnM)) (.int .i64 f) false).run Tryz.prog W=.ok (.pointer (some ⟨A.fn f,0,none⟩)) W) (first | exact⟨z5,zc,z4,z1,zl⟩ | exact⟨y5,yc,y4,y1,yl⟩)
  (first | (go_at_call 124;with_reducible refine hfi.mono ?_;rintro e wd ⟨rfl,hBd⟩;obtain⟨y5,yc,y4,y1,yl⟩:=hST.out wd (HB.out.1.trans (hBd.mono HD.out.1)) ((World.cell?_of_block (hBd.block _ HD.out.2.1)).trans HD.out.2.2)))
 have hBz:Below w.heap.size w wd:=HB.out.1.trans (hBd.mono (by have:=HB.out.2.2.1;show w.heap.size≤wb.heap.size;omega));have hR:=Lib.hid (H.out.1.below hBz);clear z5 zc z4 z1 zl y5 yc y4 y1 yl hfi hBd hBz;by_cases hl0:0 < len
 ·have j1:(0:Int) < len:=by omega
  go_wp2_with fail
  first | go_end0 | refine bodyPost_ret (results_none rfl _ _ _) rfl ?_
  exact⟨rfl,hR.out⟩
 ·have hok:ok=false:=by
   rw[← HK.out.2.1,(H.out.2.2.2.2).resolve_left (by rw[HK.out.2.2];exact hl0)];rfl
  rw[hok];have j1:¬ (0:Int) < len:=by omega
  go_wp2_with fail
  first | go_end0 | refine bodyPost_ret (results_none rfl _ _ _) rfl ?_
  exact⟨rfl,hR.out⟩
end Go.Proofs.YtigeldkbfbcpmaaGreat
namespace Go.Proofs.YtigeldkbfbcpmaaGreat
open Go.RowKit Go.Kpt Go.Maps Go.Shelf
theorem um_put{w:World}{mb c:Nat}{m:Int→Option Int}(h:Um w mb c m)(hc:c < maxLen){t et:TypeId}(ht:Tryz.prog.underlying t=some (.map 3 et))(k:Int)(hw:(Lit.int .i64 k).wf=true)(v:Int):
  ∃ w',(Instr.mapUpdate t (.map (some mb)) (.int .i64 k) (.int .i64 v)).run Tryz.prog w=.ok () w'∧Um w' mb (if (m k).isSome then c else c+1) (gput m k v)∧Kept (fun x=>x=mb) w w':=by
 obtain⟨D,h1,h2⟩:=h;obtain⟨w',r0,r1,r2⟩:=h1.update (key:=.int .i64 k) (val:=.int .i64 v) intK.keyed ht hc (intK.of k hw) (i64E.R_val v);exact⟨w',r0,gm_put h1 h2 k hw v r1,Kept.of_grown1 r2⟩
theorem um_run{w:World}{mb c:Nat}{m:Int→Option Int}(h:Um w mb c m)(k:Int)(hw:(Lit.int .i64 k).wf=true):
  (Instr.lookup 85 (.map (some mb)) (.int .i64 k) true).run Tryz.prog w=.ok (.tuple #[.int .i64 ((m k).getD 0),.bool (m k).isSome]) w:=
 h.look_ok Tryz.underlying85 (0:Int) (by kernel_rfl) k hw
theorem booted_rs{w0 w:World}{F0:Nat→Prop}{s:St}{A:Adr}(h:Rs w0 F0 w s A)(i:Nat)(x:P12.Bx)(hx:s.boxes[i]?=some x)(hs:x.st < 4)(n:Int):
  Calls Tryz.prog 95 #[.pointer (some ⟨A.box i,0,none⟩),.int .i64 n] w fun e w'=>e=.returned (.bool (P12.booted x n).2)∧Rs w0 F0 w' { s with boxes:=s.boxes.set i (P12.booted x n).1 } A:=by
 obtain⟨hq,hn⟩:=h.1.boxTurn i x hx;refine(P12.booted_any (A.box i) x n w hq hs).mono ?_;rintro e w' ⟨rfl,h1,h2⟩;obtain⟨h3,h4⟩:=hn w' _ h1 h2;exact⟨rfl,h.next h3 h4⟩
theorem done_rs{w0 w:World}{F0:Nat→Prop}{s:St}{A:Adr}(h:Rs w0 F0 w s A)(i:Nat)(x:P12.Bx)(hx:s.boxes[i]?=some x)(hs:x.st < 4)(n:Int):
  Calls Tryz.prog 98 #[.pointer (some ⟨A.box i,0,none⟩),.int .i64 n] w fun e w'=>e=.returned (.bool (P12.done x n).2)∧Rs w0 F0 w' { s with boxes:=s.boxes.set i (P12.done x n).1 } A:=by
 obtain⟨hq,hn⟩:=h.1.boxTurn i x hx;refine(P12.done_any (A.box i) x n w hq hs).mono ?_;rintro e w' ⟨rfl,h1,h2⟩;obtain⟨h3,h4⟩:=hn w' _ h1 h2;exact⟨rfl,h.next h3 h4⟩
theorem isIdle_rs{w0 w:World}{F0:Nat→Prop}{s:St}{A:Adr}(h:Rs w0 F0 w s A)(i:Nat)(x:P12.Bx)(hx:s.boxes[i]?=some x)(hs:x.st < 4):
  Calls Tryz.prog 96 #[.pointer (some ⟨A.box i,0,none⟩)] w fun e w'=>e=.returned (.bool (P12.idle x))∧w=w':=
 P12.idle_any (A.box i) x w (h.bq hx) hs
end Go.Proofs.YtigeldkbfbcpmaaGreat
namespace Go.Proofs.YtigeldkbfbcpmaaGreat
open Go.RowKit Go.Kpt Go.Shelf
theorem set_self{l:List P12.Bx}{i:Nat}{x:P12.Bx}(hx:l[i]?=some x):l.set i x=l:=by
 obtain⟨h,rfl⟩:=List.getElem?_eq_some_iff.1 hx;exact List.set_getElem_self h
theorem bootedS_no{s:St}{n:Int}(hl:isLive s n=false):bootedS s n=(s,2):=by
 unfold bootedS;rw[if_pos hl]
theorem doneS_no{s:St}{n:Int}(hl:isLive s n=false):doneS s n=(s,2):=by
 unfold doneS;rw[if_pos hl]
theorem bootedS_st{s:St}{i:Nat}{x:P12.Bx}(hx:s.boxes[i]?=some x)(hl:isLive s ((i:Int)+1)=true)(hb:(P12.booted x s.now).2=false):bootedS s ((i:Int)+1)=(s,3):=by
 unfold bootedS;rw[if_neg (by rw[hl];exact Bool.noConfusion),show ((i:Int)+1).toNat - 1=i by omega,hx];exact if_pos hb
theorem doneS_st{s:St}{i:Nat}{x:P12.Bx}(hx:s.boxes[i]?=some x)(hl:isLive s ((i:Int)+1)=true)(hb:(P12.done x s.now).2=false):doneS s ((i:Int)+1)=(s,3):=by
 unfold doneS;rw[if_neg (by rw[hl];exact Bool.noConfusion),show ((i:Int)+1).toNat - 1=i by omega,hx];exact if_pos hb
theorem booted_no(s:St)(A:Adr)(w0:World)(F0:Nat→Prop)(n:Int)(hn:(Lit.int .i64 n).wf=true)(hl:isLive s n=false)(w:World)(h:Rs w0 F0 w s A):
  Calls Tryz.prog 53 #[.pointer (some ⟨A.core,0,none⟩),.int .i64 n] w fun e w'=>e=.returned (.int .i64 (bootedS s n).2)∧Rs w0 F0 w' (bootedS s n).1 A:=by
 have c7:=h.cc.2.2.2.2.2.2.2.1;have hlk:=h.1.look_box n hn none (live_none A hl);simp only[pv] at hlk;rw[bootedS_no hl];have H:=Lib.hid h;clear h;go_enter Tryz.func53,Tryz.ntmps53
 go_wp2_with fail
 go_ret
 exact⟨rfl,H.out⟩
theorem done_no(s:St)(A:Adr)(w0:World)(F0:Nat→Prop)(n:Int)(hn:(Lit.int .i64 n).wf=true)(hl:isLive s n=false)(w:World)(h:Rs w0 F0 w s A):
  Calls Tryz.prog 55 #[.pointer (some ⟨A.core,0,none⟩),.int .i64 n] w fun e w'=>e=.returned (.int .i64 (doneS s n).2)∧Rs w0 F0 w' (doneS s n).1 A:=by
 have c7:=h.cc.2.2.2.2.2.2.2.1;have hlk:=h.1.look_box n hn none (live_none A hl);simp only[pv] at hlk;rw[doneS_no hl];have H:=Lib.hid h;clear h;go_enter Tryz.func55,Tryz.ntmps55
 go_wp2_with fail
 go_ret
 exact⟨rfl,H.out⟩
theorem booted_st(s:St)(N:Nat)(hI:Inv s N none_)(A:Adr)(w0:World)(F0:Nat→Prop)(i:Nat)(x:P12.Bx)(hx:s.boxes[i]?=some x)(hn:(Lit.int .i64 ((i:Int)+1)).wf=true)(hl:isLive s ((i:Int)+1)=true)(hm:(mBox s A ((i:Int)+1)).getD none=some (A.box i))(hb:(P12.booted x s.now).2=false)(w:World)(h:Rs w0 F0 w s A):
  Calls Tryz.prog 53 #[.pointer (some ⟨A.core,0,none⟩),.int .i64 ((i:Int)+1)] w fun e w'=>e=.returned (.int .i64 (bootedS s ((i:Int)+1)).2)∧Rs w0 F0 w' (bootedS s ((i:Int)+1)).1 A:=by
 have c7:=h.cc.2.2.2.2.2.2.2.1;have c0:=h.cc.1;have hlk:=h.1.look_box ((i:Int)+1) hn (some (A.box i)) hm;simp only[pv] at hlk;rw[bootedS_st hx hl hb];have hbo:=booted_rs h i x hx (hI.box i x hx).st s.now;have he:(P12.booted x s.now).1=x:=by
  unfold P12.booted at hb ⊢;split
  ·rename_i e
   rw[if_pos e] at hb;cases hb
  ·rfl
 rw[he,hb,set_self hx] at hbo;clear h;go_enter Tryz.func53,Tryz.ntmps53
 go_wp2_with fail
 refine hbo.mono ?_;rintro e w1 ⟨rfl,h1⟩;go_wp2_with fail
 go_ret
 exact⟨rfl,h1⟩
theorem done_st(s:St)(N:Nat)(hI:Inv s N none_)(A:Adr)(w0:World)(F0:Nat→Prop)(i:Nat)(x:P12.Bx)(hx:s.boxes[i]?=some x)(hn:(Lit.int .i64 ((i:Int)+1)).wf=true)(hl:isLive s ((i:Int)+1)=true)(hm:(mBox s A ((i:Int)+1)).getD none=some (A.box i))(hb:(P12.done x s.now).2=false)(w:World)(h:Rs w0 F0 w s A):
  Calls Tryz.prog 55 #[.pointer (some ⟨A.core,0,none⟩),.int .i64 ((i:Int)+1)] w fun e w'=>e=.returned (.int .i64 (doneS s ((i:Int)+1)).2)∧Rs w0 F0 w' (doneS s ((i:Int)+1)).1 A:=by
 have c7:=h.cc.2.2.2.2.2.2.2.1;have c0:=h.cc.1;have hlk:=h.1.look_box ((i:Int)+1) hn (some (A.box i)) hm;simp only[pv] at hlk;rw[doneS_st hx hl hb];have hbo:=done_rs h i x hx (hI.box i x hx).st s.now;have he:(P12.done x s.now).1=x:=by
  unfold P12.done at hb ⊢;split
  ·rename_i e
   rw[if_pos e] at hb;cases hb
  ·rfl
 rw[he,hb,set_self hx] at hbo;clear h;go_enter Tryz.func55,Tryz.ntmps55
 go_wp2_with fail
 refine hbo.mono ?_;rintro e w1 ⟨rfl,h1⟩;go_wp2_with fail
 go_ret
 exact⟨rfl,h1⟩
theorem booted_facts{x:P12.Bx}{now:Int}(hb:(P12.booted x now).2=true):x.st=0∧(P12.booted x now).1.id=x.id∧(P12.booted x now).1.fn=x.fn∧(P12.booted x now).1.host=x.host∧(P12.booted x now).1.mem=x.mem ∧
  (P12.booted x now).1.st < 4∧(P12.booted x now).1.st≠3∧(P12.booted x now).1.pin=x.pin∧(P12.booted x now).1.bound=false∧P12.runs (P12.booted x now).1=P12.runs x:=by
 unfold P12.booted at hb ⊢;by_cases e:x.st=0
 ·rw[if_pos e]
  cases hx:x.bound
  ·refine⟨e,rfl,rfl,rfl,rfl,show (1:Nat) < 4 by decide,show (1:Nat)≠3 by decide,rfl,rfl,?_⟩
   simp[P12.runs,e,hx]
  ·refine⟨e,rfl,rfl,rfl,rfl,show (2:Nat) < 4 by decide,show (2:Nat)≠3 by decide,rfl,rfl,?_⟩
   simp[P12.runs,e,hx]
 ·rw[if_neg e] at hb
  cases hb
def bootH(s:St)(i:Nat)(x:P12.Bx):St:={ s with boxes:=s.boxes.set i (P12.booted x s.now).1,unt:=gdel s.unt ((i:Int)+1) }
theorem bootedS_yes{s:St}{i:Nat}{x:P12.Bx}(hx:s.boxes[i]?=some x)(hl:isLive s ((i:Int)+1)=true)(hb:(P12.booted x s.now).2=true):
  bootedS s ((i:Int)+1)=(if P12.idle (P12.booted x s.now).1=true∧x.pin=false then idleS (bootH s i x) i ((s.unt ((i:Int)+1)).getD (s.now+(winS s x.fn.toNat).fin)) else bootH s i x,0):=by
 unfold bootedS;rw[if_neg (by rw[hl];exact Bool.noConfusion),show ((i:Int)+1).toNat - 1=i by omega,hx];exact if_neg (by rw[hb];exact Bool.noConfusion)
theorem Inv.bootH_{s:St}{N i:Nat}{x:P12.Bx}(h:Inv s N none_)(hx:s.boxes[i]?=some x)(hb:(P12.booted x s.now).2=true):Inv (bootH s i x) N (only i)∧(bootH s i x).boxes[i]?=some (P12.booted x s.now).1∧(bootH s i x).boxes.length=s.boxes.length:=by
 obtain⟨f0,f1,f2,f3,f4,f5,f6,f7,f8,f9⟩:=booted_facts hb;have g:=(h.boxq (z:=(P12.booted x s.now).1) (fun j e=>e.elim) hx s.quo f1 f2 f3 f4 f5 (by rw[f0];decide) f6 (fun e=>by rw[f8] at e;cases e) (fun g=>⟨rfl,rfl,rfl⟩) rfl (fun g hg=>⟨by unfold busyG;rw[f9,f2];omega,(h.qb g hg).2⟩)).1;exact⟨g.aside _ _ _ g.out,set_same' hx,List.length_set⟩
theorem Inv.booted_{s:St}{N i:Nat}{x:P12.Bx}(h:Inv s N none_)(hL:s.boxes.length≤997000000)(hx:s.boxes[i]?=some x)(hl:isLive s ((i:Int)+1)=true)(hb:(P12.booted x s.now).2=true):
  Inv (bootedS s ((i:Int)+1)).1 N none_∧(bootedS s ((i:Int)+1)).1.boxes.length=s.boxes.length:=by
 obtain⟨f0,f1,f2,f3,f4,f5,f6,f7,f8,f9⟩:=booted_facts hb;obtain⟨g1,g2,g3⟩:=h.bootH_ hx hb;rw[bootedS_yes hx hl hb];by_cases hc:P12.idle (P12.booted x s.now).1=true∧x.pin=false
 ·rw[if_pos hc]
  obtain⟨k1,k2⟩:=g1.idle (by rw[g3];omega) (fun j e=>e) g2 ⟨by simpa[P12.idle] using hc.1,by rw[f7];exact hc.2⟩ ((s.unt ((i:Int)+1)).getD (s.now+(winS s x.fn.toNat).fin));exact⟨k1,k2.trans g3⟩
 ·rw[if_neg hc]
  have hb2:=h.bare (fun e=>e) hx (fun e=>by have:=e.1;rw[f0] at this;cases this);exact⟨g1.settle (fun j e=>e) g2 (fun e=>hc ⟨by simpa[P12.idle] using e.1,by rw[← f7];exact e.2⟩) (fun m hm=>hb2.1 _ m hm) (fun t ht=>hb2.2 t ht),g3⟩
end Go.Proofs.YtigeldkbfbcpmaaGreat
namespace Go.Proofs.YtigeldkbfbcpmaaGreat
open Go.RowKit Go.Kpt
section
variable {w0 w:World} {F0:Nat→Prop} {s:St} {A:Adr}
theorem hadd_rs(h:Rs w0 F0 w s A)(f:Nat)(x:Fnc)(hx:s.fns f=some x)(n:Nat)(g:HGood x.his n)(hn:n < 4095)(v:Int):
  Calls Tryz.prog 138 #[.pointer (some ⟨A.his f,0,none⟩),.int .i64 v] w fun e w'=>e=.returned (.tuple #[])∧Rs w0 F0 w' { s with fns:=fset s.fns f { x with his:=hadd x.his v } } A:=by
 obtain⟨hq,hnx⟩:=h.1.hisTurn f x hx;refine(hadd_any (A.his f) x.his n g hn v w hq).mono ?_;rintro e w' ⟨rfl,h1,h2⟩;obtain⟨h3,h4⟩:=hnx w' _ h1 h2;exact⟨rfl,h.next h3 h4⟩
theorem push_rs(h:Rs w0 F0 w s A)(f:Nat)(x:Fnc)(hx:s.fns f=some x)(v:Int):
  Calls Tryz.prog 139 #[.pointer (some ⟨A.rng f,0,none⟩),.int .i64 v] w fun e w'=>e=.returned (.tuple #[])∧Rs w0 F0 w' { s with fns:=fset s.fns f { x with ring:=x.ring++[v] } } A:=by
 obtain⟨hq,hnx⟩:=h.1.rngTurn f x hx;refine(P05.push_any (A.rng f) x.ring v w hq).mono ?_;rintro e w' ⟨rfl,h1,h2⟩;obtain⟨h3,h4⟩:=hnx w' _ h1 h2;exact⟨rfl,h.next h3 h4⟩
theorem begin_rs(h:Rs w0 F0 w s A)(hg:P11.Good s.quo)(f:Nat)(hf:f < 64):
  Calls Tryz.prog 141 #[.pointer (some ⟨A.quo,0,none⟩),.int .i64 f] w fun e w'=>(∃ b,e=.returned (.bool b))∧Rs w0 F0 w' { s with quo:=begQ s.quo f } A:=by
 obtain⟨hq,hn⟩:=h.1.quoTurn;unfold begQ;cases ht:(s.quo.fs f).th
 ·refine(P11.begin_f0 A.quo s.quo f hf ht w hq).mono ?_
  rintro e w' ⟨rfl,h1⟩;rw[if_neg (fun e=>by cases e.1)];exact⟨⟨_,rfl⟩,h.below h1⟩
 ·by_cases hr:P11.askR s.quo f=0
  ·refine(P11.begin_t A.quo s.quo hg f hf ht hr w hq).mono ?_
   rintro e w' ⟨rfl,h1,h2⟩;rw[if_pos ⟨rfl,hr⟩];obtain⟨h3,h4⟩:=hn w' _ h1 h2;exact⟨⟨_,rfl⟩,h.next h3 h4⟩
  ·refine(P11.begin_f A.quo s.quo hg f hf ht hr w hq).mono ?_
   rintro e w' ⟨rfl,h1⟩;rw[if_neg (fun e=>hr e.2)];exact⟨⟨_,rfl⟩,h.below h1⟩
end
theorem fset_fset(c:Nat→Option Fnc)(f:Nat)(x y:Fnc):fset (fset c f x) f y=fset c f y:=by
 funext j
 unfold fset;by_cases e:j=f <;> simp[e]
theorem fset_same(c:Nat→Option Fnc)(f:Nat)(x:Fnc):fset c f x f=some x:=by simp[fset]
theorem begin_any(s:St)(N:Nat)(hI:Inv s N none_)(hN:N < 4095)(hL:s.boxes.length≤999000000)(A:Adr)(w0:World)(F0:Nat→Prop)(f:Nat)(y:Fnc)(hy:s.fns f=some y)(i:Nat)(b:P12.Bx)(hb:s.boxes[i]?=some b)(w:World)(h:Rs w0 F0 w s A):
  Calls Tryz.prog 90 #[.pointer (some ⟨A.core,0,none⟩),.int .i64 f,.pointer (some ⟨A.box i,0,none⟩)] w fun e w'=>e=.returned (.tuple #[])∧∃ cac:Nat→Nat,Rs w0 F0 w' (beginS s f i) { A with cac:=cac }:=by
 have hfo:=hI.fn f y hy;have hf:=hfo.lt;have hbo:=hI.box i b hb;obtain⟨k,hk,hbk⟩:=hbo.host;have hst:=hbo.st;have hid:=hbo.id;have hil:i < s.boxes.length:=get_lt hb;have hidw:(Lit.int .i64 b.id).wf=true:=by rw[hid];exact WalkArith.wf_i64 (by omega)
 have hqg:=hI.quo;have hnow:=hI.now;have hlast:=hfo.last;have hoft:=hfo.often;have hlk:=h.1.look_fn (f:Int) (WalkArith.wf_i64 (by omega)) (some (A.fn f)) (by unfold mFn;rw[if_pos (by omega),show (f:Int).toNat=f by omega,hy];rfl);simp only[pv] at hlk;have hbus:=fun W (hq:P11.Lq W A.quo s.quo)=>P11.busy_any A.quo s.quo f hf (fun e=>by rw[hI.fnq f hf,hy] at e;cases e) W hq;have hbus:=hbus w h.1.quoTurn.1;obtain⟨v,hv⟩:∃ v,s.now - y.last=v:=⟨_,rfl⟩;obtain⟨z,hz⟩:∃ z:Fnc,(if (s.quo.fs f).bu=0∧0≤y.last then { y with his:=hadd y.his (s.now - y.last),ring:=y.ring++[s.now - y.last] } else y)=z:=⟨_,rfl⟩;have hgs:beginS s f i={ s with
   fns:=fset s.fns f { z with often:=min (y.often+1) 1000 }
   tim:=HeapPure.drop P14.lt (HeapPure.drop P14.lt s.tim (1,(f:Int))) (0,b.id)
   quo:=begQ s.quo f
   cac:=cset s.cac k (HeapPure.drop P09.lt ((s.cac k).getD ([],0)).1 b.id,((s.cac k).getD ([],0)).2)
   boxes:=s.boxes.set i (P12.call b s.now).1 }:=by
  unfold beginS;simp only[hy,hb,hbk,Int.toNat_natCast,hz,takeS_eq]
 have HGS:=Lib.hid hgs;clear hgs;obtain⟨s1,hs1⟩:∃ s1:St,{ s with fns:=fset s.fns f z }=s1:=⟨_,rfl⟩;have z5:z.often=y.often:=by rw[← hz];split <;> rfl
 have hw1:IntKind.i64.wrap (s.now - y.last)=s.now - y.last:=IntWalk.i64_in _ ⟨by omega,by omega⟩;have hw2:wrap64 (s.now - y.last)=s.now - y.last:=IntWalk.wrap64_in _ ⟨by omega,by omega⟩;obtain⟨c0,-,c2,-,c4,-⟩:=h.cc;obtain⟨hfc,-⟩:=h.1.fn hy;have d5:w.cell? ⟨A.fn f,5,none⟩=some (.int .i64 y.last):=(cell_of hfc).trans rfl;have HI:=Lib.hid hI;clear hI hbo hid hil hnow hlast hfc;obtain⟨o,ho⟩:∃ o:Int,(y.often:Int)=o:=⟨_,rfl⟩;have ho2:((min (y.often+1) 1000:Nat):Int)=min (o+1) 1000:=by omega
 have hw3:IntKind.i64.wrap (o+1)=o+1:=IntWalk.i64_in _ ⟨by omega,by omega⟩;have hw4:wrap64 (o+1)=o+1:=IntWalk.wrap64_in _ ⟨by omega,by omega⟩;have HO:=Lib.hid (And.intro ho ho2);have e9:beginS s f i={ s1 with
   fns:=fset s1.fns f { z with often:=min (y.often+1) 1000 }
   tim:=HeapPure.drop P14.lt (HeapPure.drop P14.lt s1.tim (1,(f:Int))) (0,b.id)
   quo:=begQ s1.quo f
   cac:=cset s1.cac k (HeapPure.drop P09.lt ((s1.cac k).getD ([],0)).1 b.id,((s1.cac k).getD ([],0)).2)
   boxes:=s1.boxes.set i (P12.call b s1.now).1 }:=by rw[HGS.out,← hs1];simp only[fset_fset]
 have HE:=Lib.hid e9;have hb1:s1.boxes[i]?=some b:=by rw[← hs1];exact hb
 have hqg:P11.Good s1.quo:=by rw[← hs1];exact hqg
 have hs1f:s1.fns f=some z:=by rw[← hs1];exact fset_same _ _ _
 clear ho2 hoft e9 HGS;have HV:=Lib.hid hv;by_cases hb0:(s.quo.fs f).bu=0
 ·by_cases hla:0≤y.last
  ·clear HV
   subst hv;have hzz:z={ y with his:=hadd y.his (s.now - y.last),ring:=y.ring++[s.now - y.last] }:=by rw[← hz,if_pos ⟨hb0,hla⟩]
   have HA:=Lib.hid (hadd_rs h.drew f y hy N hfo.his hN (s.now - y.last));have HQ:Hid (∀ W,Rs w0 F0 W { s with fns:=fset s.fns f { y with his:=hadd y.his (s.now - y.last) } } A→Calls Tryz.prog 139 #[.pointer (some ⟨A.rng f,0,none⟩),.int .i64 (s.now - y.last)] W fun e w'=>e=.returned (.tuple #[])∧Rs w0 F0 w' s1 A):=fun W hW=>by
    have:=push_rs hW f { y with his:=hadd y.his (s.now - y.last) } (fset_same _ _ _) (s.now - y.last);dsimp only at this;rw[fset_fset,← hzz,hs1] at this;exact this
   have HFc:Hid (∀ (s':St) (W:World),(∃ x',s'.fns f=some x'∧x'.last=y.last)→Rs w0 F0 W s' A→W.cell? ⟨A.fn f,5,none⟩=some (.int .i64 y.last)∧W.cell? ⟨A.fn f,7,none⟩=some (.pointer (some ⟨A.his f,0,none⟩))∧W.cell? ⟨A.fn f,8,none⟩=some (.pointer (some ⟨A.rng f,0,none⟩))):=by
    rintro s' W ⟨x',e1,e2⟩ h';obtain⟨hc,-⟩:=h'.1.fn e1;exact⟨by rw[← e2];exact(cell_of hc).trans rfl,(cell_of hc).trans rfl,(cell_of hc).trans rfl⟩
   have HZ:=Lib.hid hzz;have hl0:¬ y.last < 0:=by omega
   rw[hb0] at hbus;obtain⟨g5,g7,-⟩:=HFc.out s w.drew ⟨y,hy,rfl⟩ h.drew;have g0:=h.drew.cc.1;have hA:=HA.out;have H0:=Lib.hid h;clear h hzz;go_enter Tryz.func90,Tryz.ntmps90
   go_wp2_with (go_at_call 36;refine hbus.mono ?_;rintro e w1 ⟨rfl,rfl⟩)
   go_region_held3 (fun W=>W.cell? ⟨A.core,0,none⟩=some (.int .i64 s.now)∧W.cell? ⟨A.fn f,5,none⟩=some (.int .i64 y.last)∧W.cell? ⟨A.fn f,7,none⟩=some (.pointer (some ⟨A.his f,0,none⟩))) (first | exact⟨g0,g5,g7⟩ | exact⟨g0',g5',g7'⟩)
    (first | (go_at_call 138;with_reducible refine hA.mono ?_;rintro e w2 ⟨rfl,h2⟩;have g0':=h2.cc.1;obtain⟨g5',g7',-⟩:=HFc.out _ w2 ⟨{ y with his:=hadd y.his (s.now - y.last) },fset_same _ _ _,rfl⟩ h2;dsimp only at g0'))
   clear g0 g5 g7 g0' g5' g7' hA;obtain⟨g5,-,g8⟩:=HFc.out _ w2.drew ⟨{ y with his:=hadd y.his (s.now - y.last) },fset_same _ _ _,rfl⟩ h2.drew;have g0:=h2.drew.cc.1;have hQ:=HQ.out _ h2.drew;dsimp only at g0;go_wp2_with fail
   go_region_held3 (fun W=>W.cell? ⟨A.core,0,none⟩=some (.int .i64 s.now)∧W.cell? ⟨A.fn f,5,none⟩=some (.int .i64 y.last)∧W.cell? ⟨A.fn f,8,none⟩=some (.pointer (some ⟨A.rng f,0,none⟩))) (first | exact⟨g0,g5,g8⟩ | exact⟨g0',g5',g8'⟩)
    (first | (go_at_call 139;with_reducible refine hQ.mono ?_;rintro e w1 ⟨rfl,h1⟩;have g0':=h1.cc.1;obtain⟨g5',-,g8'⟩:=HFc.out s1 w1 ⟨z,hs1f,(by rw[HZ.out])⟩ h1;rw[show s1.now=s.now by rw[← hs1]] at g0'))
   clear g0 g5 g8 g0' g5' g8' hQ h2;obtain⟨hfb,hfn⟩:=h1.1.fnTurn f z hs1f;have e4:w1.cell? ⟨A.fn f,4,none⟩=some (.int .i64 o):=by rw[← HO.out.1,← z5];exact(cell_of hfb).trans rfl
   have fr4:w1.frozen? ⟨A.fn f,4,none⟩=false:=frozen_of hfb;have hset:=hfn (w1.setCell ⟨A.fn f,4,none⟩ (.int .i64 (min (o+1) 1000))) { z with often:=min (y.often+1) 1000 } rfl rfl (by rw[← HO.out.2];exact set_same (i:=4) _ hfb) (Kept.set1 _ _ _ _);obtain⟨wz,hwz⟩:∃ wz,w1.setCell ⟨A.fn f,4,none⟩ (.int .i64 (min (o+1) 1000))=wz:=⟨_,rfl⟩;rw[hwz] at hset;have h2:=h1.next hset.1 hset.2;have c9:=h2.cc.2.2.2.2.2.2.2.2.2.1;have htd:=tdrop_rs h2 (1,(f:Int)) ⟨(by decide:(Lit.int .i64 1).wf=true),WalkArith.wf_i64 (by omega)⟩;clear hset hfb hfn h1 h2;go_wp2_with fail
   refine htd.mono ?_;rintro e w3 ⟨⟨b1,rfl⟩,h3⟩;have c2:=h3.cc.2.2.1;have hbg:=begin_rs h3 hqg f hf;clear htd c9;go_wp2_with fail
   refine hbg.mono ?_;rintro e w4 ⟨⟨b2,rfl⟩,h4⟩;have htk:=take_rs h4 i b hb1 k hk hbk hidw;clear hbg c2 h3;go_wp2_with fail
   refine htk.mono ?_;rintro e w5 ⟨rfl,cac,h5⟩;have hcl:=call_rs h5 i b hb1 hst s1.now;have c0:=h5.cc.1;dsimp only at c0 hcl;clear htk h4;go_wp2_with fail
   refine hcl.mono ?_;rintro e w6 ⟨⟨b3,rfl⟩,h6⟩;clear hcl c0 h5;go_wp2_with fail
   go_returns
   refine⟨rfl,cac,?_⟩;rw[HE.out];exact h6
  ·have hzz:z=y:=by rw[← hz,if_neg (fun e=>hla e.2)]
   have hla':y.last < 0:=by omega
   have es:s1=s:=by rw[← hs1,hzz];unfold fset;congr 1;funext j;by_cases e:j=f <;> simp[e,hy]
   rw[hb0] at hbus;have h1:Rs w0 F0 w s1 A:=by rw[es];exact h
   obtain⟨hfb,hfn⟩:=h1.1.fnTurn f z hs1f;have e4:w.cell? ⟨A.fn f,4,none⟩=some (.int .i64 o):=by rw[← HO.out.1,← z5];exact(cell_of hfb).trans rfl
   have fr4:w.frozen? ⟨A.fn f,4,none⟩=false:=frozen_of hfb;have hset:=hfn (w.setCell ⟨A.fn f,4,none⟩ (.int .i64 (min (o+1) 1000))) { z with often:=min (y.often+1) 1000 } rfl rfl (by rw[← HO.out.2];exact set_same (i:=4) _ hfb) (Kept.set1 _ _ _ _);obtain⟨wz,hwz⟩:∃ wz,w.setCell ⟨A.fn f,4,none⟩ (.int .i64 (min (o+1) 1000))=wz:=⟨_,rfl⟩;rw[hwz] at hset;have h2:=h1.next hset.1 hset.2;have c9:=h2.cc.2.2.2.2.2.2.2.2.2.1;have htd:=tdrop_rs h2 (1,(f:Int)) ⟨(by decide:(Lit.int .i64 1).wf=true),WalkArith.wf_i64 (by omega)⟩;clear hset hfb hfn h1 h2;clear h es hzz;go_enter Tryz.func90,Tryz.ntmps90
   go_wp2_with (go_at_call 36;refine hbus.mono ?_;rintro e w1 ⟨rfl,rfl⟩)
   refine htd.mono ?_;rintro e w3 ⟨⟨b1,rfl⟩,h3⟩;have c2:=h3.cc.2.2.1;have hbg:=begin_rs h3 hqg f hf;clear htd c9;go_wp2_with fail
   refine hbg.mono ?_;rintro e w4 ⟨⟨b2,rfl⟩,h4⟩;have htk:=take_rs h4 i b hb1 k hk hbk hidw;clear hbg c2 h3;go_wp2_with fail
   refine htk.mono ?_;rintro e w5 ⟨rfl,cac,h5⟩;have hcl:=call_rs h5 i b hb1 hst s1.now;have c0:=h5.cc.1;dsimp only at c0 hcl;clear htk h4;go_wp2_with fail
   refine hcl.mono ?_;rintro e w6 ⟨⟨b3,rfl⟩,h6⟩;clear hcl c0 h5;go_wp2_with fail
   go_returns
   refine⟨rfl,cac,?_⟩;rw[HE.out];exact h6
 ·have hzz:z=y:=by rw[← hz,if_neg (fun e=>hb0 e.1)]
  have es:s1=s:=by rw[← hs1,hzz];unfold fset;congr 1;funext j;by_cases e:j=f <;> simp[e,hy]
  have h1:Rs w0 F0 w s1 A:=by rw[es];exact h
  obtain⟨hfb,hfn⟩:=h1.1.fnTurn f z hs1f;have e4:w.cell? ⟨A.fn f,4,none⟩=some (.int .i64 o):=by rw[← HO.out.1,← z5];exact(cell_of hfb).trans rfl
  have fr4:w.frozen? ⟨A.fn f,4,none⟩=false:=frozen_of hfb;have hset:=hfn (w.setCell ⟨A.fn f,4,none⟩ (.int .i64 (min (o+1) 1000))) { z with often:=min (y.often+1) 1000 } rfl rfl (by rw[← HO.out.2];exact set_same (i:=4) _ hfb) (Kept.set1 _ _ _ _);obtain⟨wz,hwz⟩:∃ wz,w.setCell ⟨A.fn f,4,none⟩ (.int .i64 (min (o+1) 1000))=wz:=⟨_,rfl⟩;rw[hwz] at hset;have h2:=h1.next hset.1 hset.2;have c9:=h2.cc.2.2.2.2.2.2.2.2.2.1;have htd:=tdrop_rs h2 (1,(f:Int)) ⟨(by decide:(Lit.int .i64 1).wf=true),WalkArith.wf_i64 (by omega)⟩;clear hset hfb hfn h1 h2;clear h es hzz;go_enter Tryz.func90,Tryz.ntmps90
  go_wp2_with (go_at_call 36;refine hbus.mono ?_;rintro e w1 ⟨rfl,rfl⟩)
  refine htd.mono ?_;rintro e w3 ⟨⟨b1,rfl⟩,h3⟩;have c2:=h3.cc.2.2.1;have hbg:=begin_rs h3 hqg f hf;clear htd c9;go_wp2_with fail
  refine hbg.mono ?_;rintro e w4 ⟨⟨b2,rfl⟩,h4⟩;have htk:=take_rs h4 i b hb1 k hk hbk hidw;clear hbg c2 h3;go_wp2_with fail
  refine htk.mono ?_;rintro e w5 ⟨rfl,cac,h5⟩;have hcl:=call_rs h5 i b hb1 hst s1.now;have c0:=h5.cc.1;dsimp only at c0 hcl;clear htk h4;go_wp2_with fail
  refine hcl.mono ?_;rintro e w6 ⟨⟨b3,rfl⟩,h6⟩;clear hcl c0 h5;go_wp2_with fail
  go_returns
  refine⟨rfl,cac,?_⟩;rw[HE.out];exact h6
end Go.Proofs.YtigeldkbfbcpmaaGreat
