/- A part of the proof: what the functions of the program come to, and what holds at all times. -/
import Derived.Test.YtigeldkbfbcpmaaGreatM17
set_option linter.unusedVariables false
set_option linter.unusedSectionVars false
set_option linter.unusedSimpArgs false
set_option maxRecDepth 100000
set_option maxHeartbeats 8000000
namespace Go.Proofs.YtigeldkbfbcpmaaGreat
open Go.RowKit Go.Kpt Go.Maps Go.Sort Go.Shelf
def cput(c:Nat→Option Cac)(k:Nat):Nat→Option Cac:=fun x=>if x=k∧c k=none then some ([],0) else c x
def aput(a:Nat→Nat)(k b:Nat):Nat→Nat:=fun x=>if x=k then b else a x
theorem cache_there(s:St)(A:Adr)(F:Nat→Prop)(k:Nat)(hk:k < 32)(cc:Cac)(hcc:s.cac k=some cc)(w:World)(h:Sys w s A F):
  Calls Tryz.prog 144 #[ptr A.core,.int .i64 k] w fun e w'=>e=.returned (ptr (A.cac k))∧w'=w:=by
 obtain⟨ov,hc,-⟩:=h.core;have c6:w.cell? ⟨A.core,6,none⟩=some (.map (some A.cacM)):=(cell_of hc).trans rfl;obtain⟨own,h,-⟩:=h;obtain⟨-,c,m,hm,-,hm2⟩:=h.at_ .cacM;have hwf:(Lit.int .i64 (k:Int)).wf=true:=WalkArith.wf_i64 (by omega);have hlk:=hm.look (t:=83) (et:=123) Tryz.underlying83 none (by kernel_rfl) (k:Int) hwf;rw[hm2,show mCac s A (k:Int)=some (A.cac k) by unfold mCac;rw[if_pos (by omega),show (k:Int).toNat=k by omega,hcc];rfl] at hlk;have hlk2:(Instr.lookup 83 (.map (some A.cacM)) (.int .i64 (k:Int)) false).run Tryz.prog w=.ok (.pointer (some ⟨A.cac k,0,none⟩)) w:=hlk;clear hlk hm hm2 h hc;simp only[ptr];go_enter Tryz.func144,Tryz.ntmps144
 go_wp2_with fail
 go_ret
 exact⟨rfl,rfl⟩
theorem pm_put{w:World}{mb c:Nat}{m:Int→Option (Option Nat)}(h:Pm w mb c m)(hc:c < maxLen){t et:TypeId}(ht:Tryz.prog.underlying t=some (.map 3 et))(k:Int)(hw:(Lit.int .i64 k).wf=true)(b:Nat):
  ∃ w',(Instr.mapUpdate t (.map (some mb)) (.int .i64 k) (.pointer (some ⟨b,0,none⟩))).run Tryz.prog w=.ok () w'∧Pm w' mb (if (m k).isSome then c else c+1) (gput m k (some b))∧Kept (fun x=>x=mb) w w':=by
 obtain⟨D,h1,h2⟩:=h;obtain⟨w',r0,r1,r2⟩:=h1.update (key:=.int .i64 k) (val:=.pointer (some ⟨b,0,none⟩)) intK.keyed ht hc (intK.of k hw) (ptrE.R_val (some b));exact⟨w',r0,gm_put h1 h2 k hw (some b) r1,Kept.of_grown1 r2⟩
theorem row_base0{w:World}{base:Nat}{e:TypeId}{z:Nat}{v:Value}{n:Nat}{raw:List Value}(h:w.ownsRow base e z v n raw):w.ownsRow 0 e z v n raw:=by
 refine⟨h.1,?_⟩;rcases h.2 with h1|⟨g,cap,cur,h0,hb',hr⟩
 ·exact .inl h1
 ·exact .inr ⟨g,cap,cur,h0,Nat.zero_le _,hr⟩
theorem wb_new{w:World}{base cb:Nat}{l:List (Int×P09.Mk)}{c:Nat}(h:P09.WB w base cb l c):P09.WX w 0 cb l c (Off w (fun x=>base≤x∧x < w.heap.size))∧base≤cb∧cb < w.heap.size:=by
 obtain⟨hb,v,mb,h⟩:=h;refine⟨⟨hb,v,mb,⟨h.blk,⟨h.hp.blk,row_base0 h.hp.own,h.hp.mp,h.hp.inj,h.hp.wf,h.hp.len⟩,Nat.zero_le _,Nat.zero_le _,Nat.zero_le _,Nat.zero_le _⟩,fun x hx=>?_⟩,h.cb,lt_of h.blk⟩;obtain⟨h1,h2⟩:=hx;have hlt:x < base:=by
  rcases Nat.lt_or_ge x base with hh|hh
  ·exact hh
  ·exact absurd ⟨hh,h1⟩ h2
 refine⟨h1,fun e=>?_,fun e=>?_,fun e=>?_⟩
 ·have:=h.cb;omega
 ·have:=h.hb;omega
 ·rcases e with e | e
  ·have:=h.mb;omega
  ·have:=(h.hp.own.lt x e.symm).1;omega
theorem below_draw{w w1:World}(h:Below w.drew.heap.size w.drew w1):Below w.heap.size w w1:=⟨h.os,h.tape,h.output,h.size,h.block⟩
theorem cache_post{s:St}{A:Adr}{F:Nat→Prop}{k:Nat}(hk:k < 32)(hcc:s.cac k=none){w w1 w2:World}{cb c':Nat}{m:Int→Option (Option Nat)}{P R:Nat→Prop}(hPm:P A.cacM)
  (hP:∀ x,P x→F x∧x < w.heap.size)
  (hnext:∀ (w':World) (s':St) (A':Adr) (G H:Nat→Prop),Kept (fun x=>P x∨R x) w w'→(∀ x,G x→P x∨(w.heap.size≤x∧x < w'.heap.size))→(∀ x,H x→R x∨(w.heap.size≤x∧x < w'.heap.size))→(∀ x,G x→¬ H x) →
    At s' A' .cacM w' G→At s' A' (.cac k) w' H→(∀ q,q≠.cacM→q≠.cac k→∀ W G,At s A q W G→At s' A' q W G)→Sys w' s' A' (Grow F w w'))
  (hm1:∀ k,(m k).isSome=true→0≤k∧k < 32) (hm2:∀ k,(m k).getD none=mCac s A k) (hB:Below w.heap.size w w1) (hWB:P09.WB w1 w.heap.size cb [] 0)
  (hM2:Pm w2 A.cacM c' (gput m (k:Int) (some cb))) (kM2:Kept (fun x=>x=A.cacM) w1 w2):
  Sys w2 { s with cac:=cput s.cac k } { A with cac:=aput A.cac k cb } (Grow F w w2)∧Kept F w w2:=by
 have hlt:=(hP _ hPm).2;have hs1:=hB.size;have hs2:=kM2.size;have kk:Kept (fun x=>x=A.cacM) w w2:=⟨kM2.os.trans hB.os,kM2.tape.trans hB.tape,kM2.output.trans hB.output,Nat.le_trans hs1 hs2,fun x hx hn=>(kM2.block x (by omega) hn).trans (hB.block x hx)⟩;obtain⟨hX,hc1,hc2⟩:=wb_new hWB;have hX2:=wx_frame hX kM2 (fun x hx e=>by have:=hx.1;omega);refine⟨hnext w2 _ _ P (fun x=>w.heap.size≤x∧x < w1.heap.size) (kk.mono (fun x _ e=>.inl (by rw[e];exact hPm))) (fun x hx=>.inl hx) (fun x hx=>.inr ⟨hx.1,by omega⟩) (fun x hx hh=>by have:=(hP x hx).2;omega) ?_ ?_ ?_,kk.mono (fun x _ e=>by rw[e];exact(hP _ hPm).1)⟩
 ·refine⟨hPm,c',_,hM2,fun j hj=>?_,fun j=>?_⟩
  ·unfold gput at hj
   split at hj
   ·omega
   ·exact hm1 j hj
  ·unfold gput mCac
   by_cases e:j=(k:Int)
   ·subst e
    rw[if_pos rfl,if_pos (by omega)];simp[cput,aput,hcc]
   ·rw[if_neg e,hm2]
    unfold mCac;by_cases hr:0≤j∧j < 32
    ·have hne:j.toNat≠k:=by omega
     rw[if_pos hr,if_pos hr];simp[cput,aput,hne]
    ·rw[if_neg hr,if_neg hr]
 ·intro cc hcc'
  have e1:cc=([],0):=by
   simp[cput,hcc] at hcc';exact hcc'.symm
  have e2:({ A with cac:=aput A.cac k cb }:Adr).cac k=cb:=by simp[aput]
  rw[e2];subst e1;exact⟨⟨hc1,hc2⟩,hX2⟩
 ·intro q h1 h2 W G h
  cases q with
  | cac j=>
   have hne:j≠k:=fun e=>h2 (by rw[e]);intro cc hj;have e2:({ A with cac:=aput A.cac k cb }:Adr).cac j=A.cac j:=by simp[aput,hne]
   rw[e2];exact h cc (by simpa[cput,hne] using hj)
  | cacM=>exact absurd rfl h1
  | _=>exact h
theorem cache_new(s:St)(A:Adr)(F:Nat→Prop)(k:Nat)(hk:k < 32)(hcc:s.cac k=none)(w:World)(h:Sys w s A F):
  Calls Tryz.prog 144 #[ptr A.core,.int .i64 k] w fun e w'=>∃ cb,e=.returned (ptr cb)∧Sys w' { s with cac:=cput s.cac k } { A with cac:=aput A.cac k cb } (Grow F w w')∧Kept F w w':=by
 obtain⟨ov,hc,-⟩:=h.core;have hltc:=lt_of hc;obtain⟨P,R,hP,hR,hPR,hAP,hAR,hnext⟩:=h.two .cacM (.cac k) (by intro e;cases e);obtain⟨hPm,c,m,hm,hm1,hm2⟩:=hAP;have hne:A.core≠A.cacM:=fun e=>by
  obtain⟨D,⟨es,clock,hb,-⟩,-⟩:=hm;rw[← e,hc] at hb;cases hb
 have hltm:=hm.lt;have c6:w.cell? ⟨A.core,6,none⟩=some (.map (some A.cacM)):=(cell_of hc).trans rfl;have hwf:(Lit.int .i64 (k:Int)).wf=true:=WalkArith.wf_i64 (by omega);have hmk:(m (k:Int)).getD none=none:=by
  rw[hm2];unfold mCac;rw[if_pos (by omega),show (k:Int).toNat=k by omega,hcc];rfl
 have hlk:=hm.look (t:=83) (et:=123) Tryz.underlying83 none (by kernel_rfl) (k:Int) hwf;rw[hmk] at hlk;have hlk2:(Instr.lookup 83 (.map (some A.cacM)) (.int .i64 (k:Int)) false).run Tryz.prog w=.ok (.pointer none) w:=hlk;have hcl:c < maxLen:=by
  obtain⟨D,h1,h2⟩:=hm;obtain⟨k1,k2,k3⟩:=keys_spec h1 h2;have:c≤32:=by
   rw[← k3];refine nodup_le _ _ k1 fun x hx=>?_;have:=hm1 x ((k2 x).1 hx).1;omega
  unfold maxLen;omega
 have hcn:=P09.cnew_any w.drew;have hcd:w.drew.heap[A.core]?=some (.cells (coreCells s A ov) 96 (0,0)):=hc;have hmd:Pm w.drew A.cacM c m:=hm.kept (F:=fun _=>False) ((Kept.refl _ w).drew) (fun h=>h);have cd6:w.drew.cell? ⟨A.core,6,none⟩=some (.map (some A.cacM)):=(cell_of hcd).trans rfl;have HC:=Lib.hid hcd;have HM:=Lib.hid hmd;have HN:=Lib.hid hnext;have H1:=Lib.hid (And.intro hm1 hm2);have H2:=Lib.hid (And.intro hP (And.intro hR hPR));clear hlk hm hm1 hm2 h hc hcd hmd hnext hmk hAR hP hR hPR;simp only[ptr];go_enter Tryz.func144,Tryz.ntmps144
 go_wp2_with fail
 go_region_with (go_at_call 166;refine hcn.mono ?_;rintro e w1 ⟨cb,rfl,hWB,hB⟩;have hc1:=(hB.block A.core (lt_of HC.out)).trans HC.out;have e6:w1.cell? ⟨A.core,6,none⟩=some (.map (some A.cacM)):=(cell_of hc1).trans rfl;obtain⟨w2,hrun,hM2,kM2⟩:=pm_put (HM.out.below hB) hcl Tryz.underlying83 (k:Int) hwf cb;have hc2:=(kM2.block A.core (lt_of hc1) hne).trans hc1;have f6:w2.cell? ⟨A.core,6,none⟩=some (.map (some A.cacM)):=(cell_of hc2).trans rfl;have hl2:(Instr.lookup 83 (.map (some A.cacM)) (.int .i64 (k:Int)) false).run Tryz.prog w2=.ok (.pointer (some ⟨cb,0,none⟩)) w2:=by have hh:=hM2.look (t:=83) (et:=123) Tryz.underlying83 none (by kernel_rfl) (k:Int) hwf;rw[show gput m (k:Int) (some cb) (k:Int)=some (some cb) by simp[gput]] at hh;exact hh)
 all_goals clear hlk2 hrun
 all_goals go_wp2_with fail
 all_goals go_ret
 all_goals exact⟨cb,rfl,cache_post hk hcc hPm H2.out.1 HN.out H1.out.1 H1.out.2 (below_draw hB) hWB hM2 kM2⟩
theorem cput_there{c:Nat→Option Cac}{k:Nat}{x:Cac}(h:c k=some x):cput c k=c:=by
 funext j
 unfold cput;rw[if_neg (fun e=>by rw[h] at e;cases e.2)]
theorem cput_at(c:Nat→Option Cac)(k:Nat):cput c k k=some ((c k).getD ([],0)):=by
 unfold cput;cases e:c k with
 | none=>simp
 | some x=>simp
theorem cache_any(s:St)(A:Adr)(F:Nat→Prop)(k:Nat)(hk:k < 32)(w:World)(h:Sys w s A F):
  Calls Tryz.prog 144 #[ptr A.core,.int .i64 k] w fun e w'=>∃ acs:Nat→Nat,e=.returned (ptr (acs k))∧Sys w' { s with cac:=cput s.cac k } { A with cac:=acs } (Grow F w w')∧Kept F w w':=by
 cases hcc:s.cac k with
 | none=>
  refine(cache_new s A F k hk hcc w h).mono ?_;rintro e w' ⟨cb,rfl,h1,h2⟩;refine⟨aput A.cac k cb,?_,h1,h2⟩;rw[show aput A.cac k cb k=cb by simp[aput]]
 | some cc=>
  refine(cache_there s A F k hk cc hcc w h).mono ?_;rintro e w' ⟨rfl,rfl⟩;rw[cput_there hcc];exact⟨A.cac,rfl,h.mono (fun x hx=>.inl hx),Kept.refl _ _⟩
def cset(c:Nat→Option Cac)(k:Nat)(x:Cac):Nat→Option Cac:=fun j=>if j=k then some x else c j
theorem Sys.cacheTurn{w:World}{s:St}{A:Adr}{F:Nat→Prop}(h:Sys w s A F)(k:Nat)(cc:Cac)(hcc:s.cac k=some cc):
  ∃ Q:Nat→Prop,P09.WX w 0 (A.cac k) cc.1 cc.2 Q∧∀ w' (x:Cac),P09.WX w' 0 (A.cac k) x.1 x.2 Q→Below 0 w w'→P09.Same Q w w'→Sys w' { s with cac:=cset s.cac k x } A (Grow F w w')∧Kept F w w':=by
 obtain⟨G,hGF,hGlt,hat,hnext⟩:=h.part (.cac k);obtain⟨h1,h2⟩:=hat cc hcc;refine⟨Off w G,h2,fun w' x hx hB hS=>?_⟩;have hK:Kept G w w':=⟨hB.os,hB.tape,hB.output,hB.size,fun y hy hn=>hS y ⟨hy,hn⟩⟩;refine⟨hnext w' _ A hK ?_ ?_,Kept.grow hK hGF⟩
 ·intro c hc
  have e1:c=x:=by simp[cset] at hc;exact hc.symm
  subst e1;refine⟨.inl h1,?_⟩;obtain⟨hb,v,mb,hw,hq⟩:=hx;refine⟨hb,v,mb,hw,fun y hy=>?_⟩;obtain⟨y1,y2⟩:=hy;refine hq y ⟨?_,fun hg=>y2 (.inl hg)⟩;rcases Nat.lt_or_ge y w.heap.size with hh|hh
  ·exact hh
  ·exact absurd (.inr ⟨hh,y1⟩) y2
 ·intro q hq W H hH
  cases q with
  | cac j=>
   have hne:j≠k:=fun e=>hq (by rw[e]);intro c hc;exact hH c (by simpa[cset,hne] using hc)
  | cacM=>
   obtain⟨a1,c,m,a2,a3,a4⟩:=hH;refine⟨a1,c,m,a2,a3,fun j=>?_⟩;rw[a4];unfold mCac;by_cases hr:0≤j∧j < 32
   ·rw[if_pos hr,if_pos hr]
    by_cases e:j.toNat=k
    ·simp[cset,e,hcc]
    ·simp[cset,e]
   ·rw[if_neg hr,if_neg hr]
  | _=>exact hH
theorem sys_drop(s:St)(A:Adr)(F:Nat→Prop)(k:Nat)(cc:Cac)(hcc:s.cac k=some cc)(id:Int)(hid:(Lit.int .i64 id).wf=true)(w:World)(h:Sys w s A F):
  Calls Tryz.prog 163 #[ptr (A.cac k),.int .i64 id] w fun e w'=>e=.returned (.bool (HeapPure.idx cc.1 id).isSome)∧Sys w' { s with cac:=cset s.cac k (HeapPure.drop P09.lt cc.1 id,cc.2) } A (Grow F w w')∧Kept F w w':=by
 obtain⟨Q,hX,hnext⟩:=h.cacheTurn k cc hcc;refine(P09.xdrop_any P09.lessC 0 (A.cac k) cc.1 cc.2 id hid Q w hX).mono ?_;rintro e w' ⟨rfl,h1,h2,h3⟩;obtain⟨r1,r2⟩:=hnext w' (HeapPure.drop P09.lt cc.1 id,cc.2) h1 h2 h3;exact⟨rfl,r1,r2⟩
theorem Sys.timTurn{w:World}{s:St}{A:Adr}{F:Nat→Prop}(h:Sys w s A F):
  ∃ Q:Nat→Prop,P14.TX w 0 A.tim s.tim Q∧∀ w' (l:List (P14.Ke×P14.Tm)),P14.TX w' 0 A.tim l Q→Below 0 w w'→P14.Same Q w w'→Sys w' { s with tim:=l } A (Grow F w w')∧Kept F w w':=by
 obtain⟨G,hGF,hGlt,hat,hnext⟩:=h.part .tim;obtain⟨h1,h2⟩:=hat;refine⟨Off w G,h2,fun w' l hx hB hS=>?_⟩;have hK:Kept G w w':=⟨hB.os,hB.tape,hB.output,hB.size,fun y hy hn=>hS y ⟨hy,hn⟩⟩;refine⟨hnext w' _ A hK ⟨.inl h1,?_⟩ ?_,Kept.grow hK hGF⟩
 ·obtain⟨hb,v,mb,hw,hq⟩:=hx
  refine⟨hb,v,mb,hw,fun y hy=>?_⟩;obtain⟨y1,y2⟩:=hy;refine hq y ⟨?_,fun hg=>y2 (.inl hg)⟩;rcases Nat.lt_or_ge y w.heap.size with hh|hh
  ·exact hh
  ·exact absurd (.inr ⟨hh,y1⟩) y2
 ·intro q hq W H hH
  cases q with
  | tim=>exact absurd rfl hq
  | _=>exact hH
theorem sys_tdrop(s:St)(A:Adr)(F:Nat→Prop)(k:P14.Ke)(hk:P14.kok k)(w:World)(h:Sys w s A F):
  Calls Tryz.prog 140 #[ptr A.tim,P14.kv k] w fun e w'=>e=.returned (.bool (HeapPure.idx s.tim k).isSome)∧Sys w' { s with tim:=HeapPure.drop P14.lt s.tim k } A (Grow F w w')∧Kept F w w':=by
 obtain⟨Q,hX,hnext⟩:=h.timTurn;refine(P14.tdrop_any 0 A.tim s.tim k hk Q w hX).mono ?_;rintro e w' ⟨rfl,h1,h2,h3⟩;obtain⟨r1,r2⟩:=hnext w' _ h1 h2 h3;exact⟨rfl,r1,r2⟩
theorem Sys.boxTurn{w:World}{s:St}{A:Adr}{F:Nat→Prop}(h:Sys w s A F)(i:Nat)(x:P12.Bx)(hx:s.boxes[i]?=some x):
  P12.Bq w (A.box i) x∧∀ w' (y:P12.Bx),P12.Bq w' (A.box i) y→Kept (fun b=>b=A.box i) w w'→Sys w' { s with boxes:=s.boxes.set i y } A (Grow F w w')∧Kept F w w':=by
 obtain⟨G,hGF,hGlt,hat,hnext⟩:=h.part (.box i);obtain⟨h1,h2⟩:=hat x hx;have hi:i < s.boxes.length:=by
  rcases Nat.lt_or_ge i s.boxes.length with hh|hh
  ·exact hh
  ·rw[List.getElem?_eq_none hh] at hx;cases hx
 refine⟨h2,fun w' y hy k=>?_⟩;have hK:Kept G w w':=k.mono (fun b _ e=>by rw[e];exact h1);refine⟨hnext w' _ A hK ?_ ?_,Kept.grow hK hGF⟩
 ·intro b hb
  have hb':(s.boxes.set i y)[i]?=some b:=hb;rw[List.getElem?_set_self hi] at hb';injection hb' with hb'
  subst hb';exact⟨.inl h1,hy⟩
 ·intro q hq W H hH
  cases q with
  | box j=>
   have hne:i≠j:=fun e=>hq (by rw[e]);intro b hb;have hb':(s.boxes.set i y)[j]?=some b:=hb;rw[List.getElem?_set_ne hne] at hb';exact hH b hb'
  | boxM=>
   obtain⟨a1,c,a2⟩:=hH;refine⟨a1,c,?_⟩;have e:mBox { s with boxes:=s.boxes.set i y } A=mBox s A:=by
    funext j
    unfold mBox;rw[show ({ s with boxes:=s.boxes.set i y }:St).boxes.length=s.boxes.length from List.length_set]
   rw[e];exact a2
  | _=>exact hH
theorem Sys.hostsTurn{w:World}{s:St}{A:Adr}{F:Nat→Prop}(h:Sys w s A F):
  P13.Hq w A.hosts s.hosts∧∀ w' f,P13.Hq w' A.hosts f→Kept (fun b=>b=A.hosts) w w'→Sys w' { s with hosts:=f } A (Grow F w w')∧Kept F w w':=by
 obtain⟨G,hGF,hGlt,hat,hnext⟩:=h.part .hosts;obtain⟨h1,h2⟩:=hat;refine⟨h2,fun w' f hy k=>?_⟩;have hK:Kept G w w':=k.mono (fun b _ e=>by rw[e];exact h1);refine⟨hnext w' _ A hK ⟨.inl h1,hy⟩ ?_,Kept.grow hK hGF⟩;intro q hq W H hH;cases q with
 | hosts=>exact absurd rfl hq
 | _=>exact hH
def tset(c:Nat→Option Bkt)(k:Nat)(x:Bkt):Nat→Option Bkt:=fun j=>if j=k then some x else c j
theorem Sys.tokTurn{w:World}{s:St}{A:Adr}{F:Nat→Prop}(h:Sys w s A F)(a:Nat)(t:Bkt)(ht:s.tok a=some t):
  P10.Bk w (A.tok a) t.s t.r t.t∧∀ w' (u:Bkt),P10.Bk w' (A.tok a) u.s u.r u.t→Kept (fun b=>b=A.tok a) w w'→Sys w' { s with tok:=tset s.tok a u } A (Grow F w w')∧Kept F w w':=by
 obtain⟨G,hGF,hGlt,hat,hnext⟩:=h.part (.tok a);obtain⟨h1,h2⟩:=hat t ht;refine⟨h2,fun w' u hy k=>?_⟩;have hK:Kept G w w':=k.mono (fun b _ e=>by rw[e];exact h1);refine⟨hnext w' _ A hK ?_ ?_,Kept.grow hK hGF⟩
 ·intro c hc
  have e1:c=u:=by simp[tset] at hc;exact hc.symm
  subst e1;exact⟨.inl h1,hy⟩
 ·intro q hq W H hH
  cases q with
  | tok j=>
   have hne:j≠a:=fun e=>hq (by rw[e]);intro c hc;exact hH c (by simpa[tset,hne] using hc)
  | tokM=>
   obtain⟨a1,c,a2⟩:=hH;refine⟨a1,c,?_⟩;have e:mTok { s with tok:=tset s.tok a u } A=mTok s A:=by
    funext j
    unfold mTok;by_cases hr:0≤j∧j < 16
    ·rw[if_pos hr,if_pos hr]
     by_cases e:j.toNat=a
     ·simp[tset,e,ht]
     ·simp[tset,e]
    ·rw[if_neg hr,if_neg hr]
   rw[e];exact a2
  | _=>exact hH
def fset(c:Nat→Option Fnc)(k:Nat)(x:Fnc):Nat→Option Fnc:=fun j=>if j=k then some x else c j
theorem fset_at{c:Nat→Option Fnc}{k:Nat}{x y:Fnc}(h:fset c k x k=some y):y=x:=by simp[fset] at h;exact h.symm
theorem mFn_set{s:St}{A:Adr}{f:Nat}{x:Fnc}(hx:s.fns f=some x)(y:Fnc):mFn { s with fns:=fset s.fns f y } A=mFn s A:=by
 funext j
 unfold mFn;by_cases hr:0≤j∧j < 64
 ·rw[if_pos hr,if_pos hr]
  by_cases e:j.toNat=f
  ·simp[fset,e,hx]
  ·simp[fset,e]
 ·rw[if_neg hr,if_neg hr]
theorem Sys.fnTurn{w:World}{s:St}{A:Adr}{F:Nat→Prop}(h:Sys w s A F)(f:Nat)(x:Fnc)(hx:s.fns f=some x):
  w.heap[A.fn f]?=some (.cells (fcells x (A.his f) (A.rng f)) 133 (0,0))∧∀ w' (y:Fnc),y.his=x.his→y.ring=x.ring→w'.heap[A.fn f]?=some (.cells (fcells y (A.his f) (A.rng f)) 133 (0,0))→Kept (fun b=>b=A.fn f) w w'→Sys w' { s with fns:=fset s.fns f y } A (Grow F w w')∧Kept F w w':=by
 obtain⟨G,hGF,hGlt,hat,hnext⟩:=h.part (.fn f);obtain⟨h1,h2⟩:=hat x hx;refine⟨h2,fun w' y e1 e2 hy k=>?_⟩;have hK:Kept G w w':=k.mono (fun b _ e=>by rw[e];exact h1);refine⟨hnext w' _ A hK ?_ ?_,Kept.grow hK hGF⟩
 ·intro c hc
  obtain rfl:=fset_at hc;exact⟨.inl h1,hy⟩
 ·intro q hq W H hH
  cases q with
  | fn j=>
   have hne:j≠f:=fun e=>hq (by rw[e]);intro c hc;exact hH c (by simpa[fset,hne] using hc)
  | his j=>
   intro c hc;by_cases e:j=f
   ·subst e
    obtain rfl:=fset_at hc;rw[e1];exact hH x hx
   ·exact hH c (by simpa[fset,e] using hc)
  | rng j=>
   intro c hc;by_cases e:j=f
   ·subst e
    obtain rfl:=fset_at hc;rw[e2];exact hH x hx
   ·exact hH c (by simpa[fset,e] using hc)
  | fnM=>
   obtain⟨a1,c,a2⟩:=hH;exact⟨a1,c,by rw[mFn_set hx];exact a2⟩
  | _=>exact hH
theorem Sys.hisTurn{w:World}{s:St}{A:Adr}{F:Nat→Prop}(h:Sys w s A F)(f:Nat)(x:Fnc)(hx:s.fns f=some x):
  Hh w (A.his f) x.his∧∀ w' (z:Hst),Hh w' (A.his f) z→Kept (fun b=>b=A.his f) w w'→Sys w' { s with fns:=fset s.fns f { x with his:=z } } A (Grow F w w')∧Kept F w w':=by
 obtain⟨G,hGF,hGlt,hat,hnext⟩:=h.part (.his f);obtain⟨h1,h2⟩:=hat x hx;refine⟨h2,fun w' z hy k=>?_⟩;have hK:Kept G w w':=k.mono (fun b _ e=>by rw[e];exact h1);refine⟨hnext w' _ A hK ?_ ?_,Kept.grow hK hGF⟩
 ·intro c hc
  obtain rfl:=fset_at hc;exact⟨.inl h1,hy⟩
 ·intro q hq W H hH
  cases q with
  | his j=>
   have hne:j≠f:=fun e=>hq (by rw[e]);intro c hc;exact hH c (by simpa[fset,hne] using hc)
  | fn j=>
   intro c hc;by_cases e:j=f
   ·subst e
    obtain rfl:=fset_at hc;exact hH x hx
   ·exact hH c (by simpa[fset,e] using hc)
  | rng j=>
   intro c hc;by_cases e:j=f
   ·subst e
    obtain rfl:=fset_at hc;exact hH x hx
   ·exact hH c (by simpa[fset,e] using hc)
  | fnM=>
   obtain⟨a1,c,a2⟩:=hH;exact⟨a1,c,by rw[mFn_set hx];exact a2⟩
  | _=>exact hH
theorem Sys.rngTurn{w:World}{s:St}{A:Adr}{F:Nat→Prop}(h:Sys w s A F)(f:Nat)(x:Fnc)(hx:s.fns f=some x):
  P05.Rg w (A.rng f) x.ring∧∀ w' (z:List Int),P05.Rg w' (A.rng f) z→Kept (fun b=>b=A.rng f) w w'→Sys w' { s with fns:=fset s.fns f { x with ring:=z } } A (Grow F w w')∧Kept F w w':=by
 obtain⟨G,hGF,hGlt,hat,hnext⟩:=h.part (.rng f);obtain⟨h1,h2⟩:=hat x hx;refine⟨h2,fun w' z hy k=>?_⟩;have hK:Kept G w w':=k.mono (fun b _ e=>by rw[e];exact h1);refine⟨hnext w' _ A hK ?_ ?_,Kept.grow hK hGF⟩
 ·intro c hc
  obtain rfl:=fset_at hc;exact⟨.inl h1,hy⟩
 ·intro q hq W H hH
  cases q with
  | rng j=>
   have hne:j≠f:=fun e=>hq (by rw[e]);intro c hc;exact hH c (by simpa[fset,hne] using hc)
  | fn j=>
   intro c hc;by_cases e:j=f
   ·subst e
    obtain rfl:=fset_at hc;exact hH x hx
   ·exact hH c (by simpa[fset,e] using hc)
  | his j=>
   intro c hc;by_cases e:j=f
   ·subst e
    obtain rfl:=fset_at hc;exact hH x hx
   ·exact hH c (by simpa[fset,e] using hc)
  | fnM=>
   obtain⟨a1,c,a2⟩:=hH;exact⟨a1,c,by rw[mFn_set hx];exact a2⟩
  | _=>exact hH
theorem Sys.quoTurn{w:World}{s:St}{A:Adr}{F:Nat→Prop}(h:Sys w s A F):
  P11.Lq w A.quo s.quo∧∀ w' l,P11.Lq w' A.quo l→Kept (fun b=>b=A.quo) w w'→Sys w' { s with quo:=l } A (Grow F w w')∧Kept F w w':=by
 obtain⟨G,hGF,hGlt,hat,hnext⟩:=h.part .quo;obtain⟨h1,h2⟩:=hat;refine⟨h2,fun w' f hy k=>?_⟩;have hK:Kept G w w':=k.mono (fun b _ e=>by rw[e];exact h1);refine⟨hnext w' _ A hK ⟨.inl h1,hy⟩ ?_,Kept.grow hK hGF⟩;intro q hq W H hH;cases q with
 | quo=>exact absurd rfl hq
 | _=>exact hH
theorem Sys.liveTurn{w:World}{s:St}{A:Adr}{F:Nat→Prop}(h:Sys w s A F):
  ∃ c,Pm w A.boxM c (mBox s A)∧∀ w' c' lv,Pm w' A.boxM c' (mBox { s with live:=lv } A)→Kept (fun b=>b=A.boxM) w w'→Sys w' { s with live:=lv } A (Grow F w w')∧Kept F w w':=by
 obtain⟨G,hGF,hGlt,hat,hnext⟩:=h.part .boxM;obtain⟨h1,c,h2⟩:=hat;refine⟨c,h2,fun w' c' lv hy k=>?_⟩;have hK:Kept G w w':=k.mono (fun b _ e=>by rw[e];exact h1);refine⟨hnext w' _ A hK ⟨.inl h1,c',hy⟩ ?_,Kept.grow hK hGF⟩;intro q hq W H hH;cases q with
 | boxM=>exact absurd rfl hq
 | _=>exact hH
theorem Sys.untTurn{w:World}{s:St}{A:Adr}{F:Nat→Prop}(h:Sys w s A F):
  ∃ c,Um w A.untM c s.unt∧∀ w' c' u,Um w' A.untM c' u→Kept (fun b=>b=A.untM) w w'→Sys w' { s with unt:=u } A (Grow F w w')∧Kept F w w':=by
 obtain⟨G,hGF,hGlt,hat,hnext⟩:=h.part .untM;obtain⟨h1,c,h2⟩:=hat;refine⟨c,h2,fun w' c' u hy k=>?_⟩;have hK:Kept G w w':=k.mono (fun b _ e=>by rw[e];exact h1);refine⟨hnext w' _ A hK ⟨.inl h1,c',hy⟩ ?_,Kept.grow hK hGF⟩;intro q hq W H hH;cases q with
 | untM=>exact absurd rfl hq
 | _=>exact hH
theorem mBox_gone(s:St)(A:Adr)(id:Int):gdel (mBox s A) id=mBox { s with live:=fun j=>if j=id then false else s.live j } A:=by
 funext j
 unfold gdel mBox;by_cases e:j=id
 ·subst e
  rw[if_pos rfl,if_neg (fun hh=>by have:=hh.2.2;simp at this)]
 ·rw[if_neg e]
  simp[e]
theorem Sys.numTurn{w:World}{s:St}{A:Adr}{F:Nat→Prop}(h:Sys w s A F):
  ∃ ov,w.heap[A.core]?=some (.cells (coreCells s A ov) 96 (0,0))∧∀ w' (now next:Int) (ans:Nat→Int),w'.heap[A.core]?=some (.cells (coreCells { s with now:=now,next:=next,ans:=ans } A ov) 96 (0,0))→Kept (fun b=>b=A.core) w w' →
   Sys w' { s with now:=now,next:=next,ans:=ans } A (Grow F w w')∧Kept F w w':=by
 obtain⟨G,hGF,hGlt,hat,hnext⟩:=h.part .core;obtain⟨h1,ov,h2,h3⟩:=hat;refine⟨ov,h2,fun w' now next ans hy k=>?_⟩;have hK:Kept G w w':=k.mono (fun b _ e=>by rw[e];exact h1);refine⟨hnext w' _ A hK ⟨.inl h1,ov,hy,fun l hl=>?_⟩ ?_,Kept.grow hK hGF⟩
 ·obtain⟨r1,r2⟩:=h3 l hl
  exact⟨row_kept r1 k (fun g hg=>(r2 g hg).2),fun g hg=>⟨.inl (r2 g hg).1,(r2 g hg).2⟩⟩
 ·intro q hq W H hH
  cases q with
  | core=>exact absurd rfl hq
  | _=>exact hH
theorem Sys.box{w:World}{s:St}{A:Adr}{F:Nat→Prop}(h:Sys w s A F){i:Nat}{x:P12.Bx}(hx:s.boxes[i]?=some x):P12.Bq w (A.box i) x∧F (A.box i):=by
 obtain⟨own,h,hF⟩:=h;obtain⟨h1,h2⟩:=h.at_ (.box i) x hx;exact⟨h2,hF _ _ h1⟩
theorem Sys.hostsAt{w:World}{s:St}{A:Adr}{F:Nat→Prop}(h:Sys w s A F):P13.Hq w A.hosts s.hosts∧F A.hosts:=by
 obtain⟨own,h,hF⟩:=h;obtain⟨h1,h2⟩:=h.at_ .hosts;exact⟨h2,hF _ _ h1⟩
section
variable (b:Nat) (x:P12.Bx) (c:Nat) (k:Int) (W:World) (h:P12.Bq W b x) (hc:W.cell? ⟨c,0,none⟩=some (.int .i64 k))
include h hc
theorem host82_any:Calls Tryz.prog 82 #[.pointer (some ⟨b,0,none⟩),.pointer (some ⟨c,0,none⟩)] W fun e w'=>e=.returned (.bool (x.host == k))∧∃ m,w'=W.drewN m:=by
 obtain⟨-,-,c2,-,-,-,-,-⟩:=h.cells;go_enter Tryz.func82,Tryz.ntmps82
 go_wp2_with fail
 go_quiet (fail)
 go_wp2_with fail
 go_ret
 exact⟨rfl,_,rfl⟩
theorem host85_any:Calls Tryz.prog 85 #[.pointer (some ⟨b,0,none⟩),.pointer (some ⟨c,0,none⟩)] W fun e w'=>e=.returned (.bool (x.host == k))∧∃ m,w'=W.drewN m:=by
 obtain⟨-,-,c2,-,-,-,-,-⟩:=h.cells;go_enter Tryz.func85,Tryz.ntmps85
 go_wp2_with fail
 go_quiet (fail)
 go_wp2_with fail
 go_ret
 exact⟨rfl,_,rfl⟩
theorem fn123_any:Calls Tryz.prog 123 #[.pointer (some ⟨b,0,none⟩),.pointer (some ⟨c,0,none⟩)] W fun e w'=>e=.returned (.bool (x.fn == k))∧∃ m,w'=W.drewN m:=by
 obtain⟨-,c1,-,-,-,-,-,-⟩:=h.cells;go_enter Tryz.func123,Tryz.ntmps123
 go_wp2_with fail
 go_quiet (fail)
 go_wp2_with fail
 go_ret
 exact⟨rfl,_,rfl⟩
theorem pin161_any:Calls Tryz.prog 161 #[.pointer (some ⟨b,0,none⟩),.pointer (some ⟨c,0,none⟩)] W fun e w'=>e=.returned (.bool (x.fn == k && x.pin))∧∃ m,w'=W.drewN m:=by
 obtain⟨-,c1,-,-,-,-,c6,-⟩:=h.cells;by_cases e:x.fn=k
 ·have e':(x.fn == k)=true:=beq_iff_eq.2 e
  go_enter Tryz.func161,Tryz.ntmps161
  go_wp2_with fail
  go_quiet (fail)
  go_wp2_with fail
  go_ret
  exact⟨by rw[e'];rfl,_,rfl⟩
 ·have e':(x.fn == k)=false:=beq_eq_false_iff_ne.2 e
  go_enter Tryz.func161,Tryz.ntmps161
  go_wp2_with fail
  go_quiet (fail)
  go_wp2_with fail
  go_ret
  exact⟨by rw[e'];rfl,_,rfl⟩
theorem free137_any(hs:x.st < 4):Calls Tryz.prog 137 #[.pointer (some ⟨b,0,none⟩),.pointer (some ⟨c,0,none⟩)] W fun e w'=>e=.returned (.bool (x.fn == k && P12.idle x))∧∃ m,w'=W.drewN m:=by
 obtain⟨-,c1,-,-,-,-,c6,-⟩:=h.cells;have hid:∀ n,Calls Tryz.prog 96 #[.pointer (some ⟨b,0,none⟩)] (W.drewN n) fun e w''=>e=.returned (.bool (P12.idle x))∧∃ m,w''=W.drewN m:=fun n=>(P12.idle_any b x (W.drewN n) (show P12.Bq (W.drewN n) b x from h) hs).mono (by rintro e w' ⟨rfl,rfl⟩;exact⟨rfl,n,rfl⟩);by_cases e:x.fn=k
 ·have e':(x.fn == k)=true:=beq_iff_eq.2 e
  go_enter Tryz.func137,Tryz.ntmps137
  go_wp2_with fail
  go_quiet ((go_at_call 96;exact hid _))
  go_wp2_with fail
  go_ret
  exact⟨by rw[e'];rfl,_,rfl⟩
 ·have e':(x.fn == k)=false:=beq_eq_false_iff_ne.2 e
  go_enter Tryz.func137,Tryz.ntmps137
  go_wp2_with fail
  go_quiet ((go_at_call 96;exact hid _))
  go_wp2_with fail
  go_ret
  exact⟨by rw[e'];rfl,_,rfl⟩
theorem room143_any(hs:x.st < 4):Calls Tryz.prog 143 #[.pointer (some ⟨b,0,none⟩),.pointer (some ⟨c,0,none⟩)] W fun e w'=>e=.returned (.bool (x.host == k && P12.idle x && !x.pin))∧∃ m,w'=W.drewN m:=by
 obtain⟨-,-,c2,-,-,-,c6,-⟩:=h.cells;have hid:∀ n,Calls Tryz.prog 96 #[.pointer (some ⟨b,0,none⟩)] (W.drewN n) fun e w''=>e=.returned (.bool (P12.idle x))∧∃ m,w''=W.drewN m:=fun n=>(P12.idle_any b x (W.drewN n) (show P12.Bq (W.drewN n) b x from h) hs).mono (by rintro e w' ⟨rfl,rfl⟩;exact⟨rfl,n,rfl⟩);by_cases e:x.host=k
 ·have e':(x.host == k)=true:=beq_iff_eq.2 e
  cases hi:P12.idle x <;> rw[hi] at hid
  ·go_enter Tryz.func143,Tryz.ntmps143
   go_wp2_with fail
   go_quiet ((go_at_call 96;exact hid _))
   go_wp2_with fail
   go_ret
   exact⟨by rw[e'];rfl,_,rfl⟩
  ·go_enter Tryz.func143,Tryz.ntmps143
   go_wp2_with fail
   go_quiet ((go_at_call 96;exact hid _))
   go_wp2_with fail
   go_ret
   exact⟨by rw[e'];rfl,_,rfl⟩
 ·have e':(x.host == k)=false:=beq_eq_false_iff_ne.2 e
  go_enter Tryz.func143,Tryz.ntmps143
  go_wp2_with fail
  go_quiet (fail)
  go_wp2_with fail
  go_ret
  exact⟨by rw[e'];rfl,_,rfl⟩
end
theorem Sys.step{w w1 w2:World}{s:St}{A:Adr}{F:Nat→Prop}(h:Sys w2 s A (Grow (Grow F w w1) w1 w2))(k1:Kept F w w1)(k2:Kept (Grow F w w1) w1 w2):Sys w2 s A (Grow F w w2)∧Kept F w w2:=by
 have h1:=k1.size;have h2:=k2.size;refine⟨h.mono (fun x hx=>?_),⟨k2.os.trans k1.os,k2.tape.trans k1.tape,k2.output.trans k1.output,by omega,fun x hx hn=>?_⟩⟩
 ·rcases hx with (hx | hx) | hx
  ·exact .inl hx
  ·exact .inr ⟨hx.1,by omega⟩
  ·exact .inr ⟨by omega,hx.2⟩
 ·exact(k2.block x (by omega) (fun e=>e.elim hn (fun e=>by omega))).trans (k1.block x hx hn)
theorem drew_kept{F:Nat→Prop}{w w1:World}(h:Kept F w.drew w1):Kept F w w1:=⟨h.os,h.tape,h.output,h.size,h.block⟩
def takeS(s:St)(k:Nat)(id:Int):St:=
 { s with cac:=cset (cput s.cac k) k (HeapPure.drop P09.lt ((s.cac k).getD ([],0)).1 id,((s.cac k).getD ([],0)).2),tim:=HeapPure.drop P14.lt s.tim (0,id) }
theorem take_any(s:St)(A:Adr)(F:Nat→Prop)(i:Nat)(x:P12.Bx)(hx:s.boxes[i]?=some x)(k:Nat)(hk:k < 32)(hxk:x.host=(k:Int))(hid:(Lit.int .i64 x.id).wf=true)(hok:P14.kok (0,x.id))(w:World)(h:Sys w s A F):
  Calls Tryz.prog 130 #[ptr A.core,ptr (A.box i)] w fun e w'=>e=.returned (.tuple #[])∧∃ acs:Nat→Nat,Sys w' (takeS s k x.id) { A with cac:=acs } (Grow F w w')∧Kept F w w':=by
 have hS:=h.drew;have hq:=(hS.box hx).1;obtain⟨c0,-,c2,-,-,-,-,-⟩:=hq.cells;rw[hxk] at c2;have hcache:=cache_any s A F k hk w.drew hS;have hdrop:=fun (acs:Nat→Nat) (w1:World) (G:Nat→Prop) (h1:Sys w1 { s with cac:=cput s.cac k } { A with cac:=acs } G)=>sys_drop { s with cac:=cput s.cac k } { A with cac:=acs } G k _ (cput_at s.cac k) x.id hid w1 h1;have hbx:=fun (acs:Nat→Nat) (s':St) (hs:s'.boxes=s.boxes) (w1:World) (G:Nat→Prop) (h1:Sys w1 s' { A with cac:=acs } G)=>(h1.box (i:=i) (x:=x) (by rw[hs];exact hx)).1;obtain⟨id,hidv⟩:∃ id,x.id=id:=⟨_,rfl⟩;rw[hidv] at c0 hdrop hok ⊢;have hid0:∀ (acs:Nat→Nat) (s':St) (hs:s'.boxes=s.boxes) (w1:World) (G:Nat→Prop) (h1:Sys w1 s' { A with cac:=acs } G),w1.cell? ⟨A.box i,0,none⟩=some (.int .i64 id):=fun acs s' hs w1 G h1=>by
  rw[← hidv];exact(hbx acs s' hs w1 G h1).cells.1
 have HD:=Lib.hid hdrop;have HI:=Lib.hid hid0;clear hdrop hid0 hbx hq h hS;simp only[ptr] at hcache ⊢;go_enter Tryz.func130,Tryz.ntmps130
 go_wp2_with fail
 go_region_with (first
  | (go_at_call 144;refine hcache.mono ?_;rintro e w1 ⟨acs,rfl,hS1,hK1⟩;have d0:=HI.out acs { s with cac:=cput s.cac k } rfl w1 (Grow F w.drew w1) hS1;have hdr:=HD.out acs w1 (Grow F w.drew w1) hS1;simp only[ptr] at hdr)
  | (go_at_call 163;refine hdr.mono ?_;rintro e w2 ⟨rfl,hS2,hK2⟩))
 all_goals
  clear c0 c2 d0 hdr hcache;obtain⟨hS3,hK3⟩:=Sys.step hS2 hK1 hK2;have hS4:=hS3.drew;have d0:=HI.out acs { s with cac:=cset (cput s.cac k) k (HeapPure.drop P09.lt ((s.cac k).getD ([],0)).1 id,((s.cac k).getD ([],0)).2) } rfl w2.drew (Grow F w.drew w2) hS4;obtain⟨ov,hc,-⟩:=hS4.core;have c9:w2.drew.cell? ⟨A.core,9,none⟩=some (.pointer (some ⟨A.tim,0,none⟩)):=(cell_of hc).trans rfl;have htd:=sys_tdrop _ _ _ (0,id) hok w2.drew hS4;simp only[ptr,P14.kv] at htd;clear hc hS1 hS2 hK1 hK2 hS3 hS4;go_wp2_with fail
  go_region_with (go_at_call 140;refine htd.mono ?_;rintro e w3 ⟨rfl,hS5,hK5⟩)
 all_goals
  go_wp2_with fail
  go_returns
  obtain⟨hS6,hK6⟩:=Sys.step (w:=w) (w1:=w2) hS5 (drew_kept hK3) (drew_kept hK5);exact⟨rfl,acs,hS6,hK6⟩
def bp(s:St)(p:P12.Bx→Bool):Int→Bool:=fun x=>match s.boxes[x.toNat - 1]? with | some b=>p b | none=>false
theorem bp_at{s:St}{p:P12.Bx→Bool}{i:Nat}{b:P12.Bx}(h:s.boxes[i]?=some b):bp s p ((i:Int)+1)=p b:=by
 unfold bp;rw[show ((i:Int)+1).toNat - 1=i by omega,h]
theorem asks_of{s:St}{A:Adr}{F:Nat→Prop}{g c:Nat}{P:P12.Bx→Bool}{v:Value}{w1:World}(h:Sys w1 s A F)(hc:w1.cell? ⟨c,0,none⟩=some v)(hlt:c < w1.heap.size)
  (hcall:∀ i x W,s.boxes[i]?=some x→P12.Bq W (A.box i) x→W.cell? ⟨c,0,none⟩=some v→Calls Tryz.prog g #[.pointer (some ⟨A.box i,0,none⟩),.pointer (some ⟨c,0,none⟩)] W fun e w'=>e=.returned (.bool (P x))∧∃ m,w'=W.drewN m):
  ∀ W,Below w1.heap.size w1 W→Asks s A g #[.pointer (some ⟨c,0,none⟩)] (bp s P) W:=by
 intro W hW i hi hl;obtain⟨x,hx⟩:∃ x,s.boxes[i]?=some x:=⟨_,List.getElem?_eq_getElem hi⟩;rw[bp_at hx];refine hcall i x W hx ((h.below hW).box hx).1 ?_;rw[World.cell?_of_block (show W.heap[c]?=w1.heap[c]? from hW.block c hlt)];exact hc
theorem eg161:∀ args w,(callFunc 161 args).run Tryz.prog w=.ok (.enter 161 args) w:=by intro args w;rfl
theorem pinned_any(s:St)(A:Adr)(F:Nat→Prop)(hN:s.boxes.length≤1000000000)(k:Int)(w:World)(h:Sys w s A F):
  Calls Tryz.prog 128 #[ptr A.core,.int .i64 k] w fun e w'=>∃ v,e=.returned v∧ReadI w' w.heap.size v ((ids s).filter (bp s fun x=>x.fn == k && x.pin))∧Below w.heap.size w w':=by
 obtain⟨wa,hwa⟩:∃ wa,w.alloc (.cells #[.int .i64 k] 3)=wa:=⟨_,rfl⟩;have hsz:wa.heap.size=w.heap.size+1:=by subst hwa;simp
 have hba:Below w.heap.size w wa:=by subst hwa;exact(Below.refl _ w).alloc (Nat.le_refl _) _
 have hca:wa.heap[w.heap.size]?=some (.cells #[.int .i64 k] 3 (0,0)):=by subst hwa;exact heap_alloc_new _ _
 have ca:wa.cell? ⟨w.heap.size,0,none⟩=some (.int .i64 k):=(cell_of hca).trans rfl;have hS:=h.below hba;have hw:=where_any s A F hN 161 #[.pointer (some ⟨w.heap.size,0,none⟩)] (bp s fun x=>x.fn == k && x.pin) eg161 wa hS
  (asks_of hS ca (by omega) fun i x W _ hq hc=>pin161_any _ x _ k W hq hc)
 clear hS h ca hca;simp only[ptr] at hw ⊢;go_enter Tryz.func128,Tryz.ntmps128
 go_wp2_with (go_at_call 81;refine hw.mono ?_;rintro e w' ⟨v,rfl,hr,hb⟩)
 go_ret
 refine⟨_,rfl,?_,hba.trans (hb.mono (by omega))⟩;rcases hr with hr|⟨g,cap,h1,h2,h3,h4⟩
 ·exact .inl hr
 ·exact .inr ⟨g,cap,h1,h2,by omega,h4⟩
theorem ReadI.any{w:World}{base:Nat}{v:Value}{l:List Int}(h:ReadI w base v l):∃ a cap,v=.slice a l.length cap∧∀ j,j < l.length→∃ g,a=some ⟨g,0,none⟩∧base≤g∧g < w.heap.size∧w.cell? ⟨g,j,none⟩=some (.int .i64 (l.getD j 0)):=by
 rcases h with ⟨rfl,rfl⟩|⟨g,cap,rfl,h2,h3,h4,h5⟩
 ·exact⟨none,0,rfl,fun j hj=>by simp at hj⟩
 ·exact⟨_,cap,rfl,fun j hj=>⟨g,rfl,h3,h4,(h5 j hj).1⟩⟩
def sn(s:St)(i:Nat):Int:=((s.boxes[i]?).map (·.since)).getD 0
def better(s:St)(o:Option Nat)(x:Int):Option Nat:=
 match o with
 | none=>some (x.toNat - 1)
 | some j=>if sn s j < sn s (x.toNat - 1) then some (x.toNat - 1) else some j
def freeOf(s:St)(k:Int):Option Nat:=((ids s).filter (bp s fun x=>x.fn == k && P12.idle x)).foldl (better s) none
theorem fold_snoc{α:Type}(f:α→Int→α)(a:α)(l:List Int)(j:Nat)(hj:j < l.length):(l.take (j+1)).foldl f a=f ((l.take j).foldl f a) (l.getD j 0):=by
 rw[List.take_add_one,List.foldl_append,List.getElem?_eq_getElem hj,List.getD_eq_getElem?_getD,List.getElem?_eq_getElem hj];rfl
theorem eg137:∀ args w,(callFunc 137 args).run Tryz.prog w=.ok (.enter 137 args) w:=by intro args w;rfl
theorem better_lt{s:St}{o:Option Nat}{x:Int}{n:Nat}(ho:∀ j,o=some j→j < n)(hx:x.toNat - 1 < n):∀ j,better s o x=some j→j < n:=by
 intro j hj;unfold better at hj;split at hj
 ·injection hj with hj;omega
 ·split at hj
  ·injection hj with hj;omega
  ·exact ho j hj
theorem free_any(s:St)(A:Adr)(F:Nat→Prop)(hN:s.boxes.length≤1000000000)(hst:∀ (i:Nat) (x:P12.Bx),s.boxes[i]?=some x→x.st < 4)(k:Int)(w:World)(h:Sys w s A F):
  Calls Tryz.prog 89 #[ptr A.core,.int .i64 k] w fun e w'=>e=.returned (pv ((freeOf s k).map A.box))∧Below w.heap.size w w':=by
 obtain⟨wa,hwa⟩:∃ wa,w.alloc (.cells #[.int .i64 k] 3)=wa:=⟨_,rfl⟩;have hsz:wa.heap.size=w.heap.size+1:=by subst hwa;simp
 have hba:Below w.heap.size w wa:=by subst hwa;exact(Below.refl _ w).alloc (Nat.le_refl _) _
 have hca:wa.heap[w.heap.size]?=some (.cells #[.int .i64 k] 3 (0,0)):=by subst hwa;exact heap_alloc_new _ _
 have ca:wa.cell? ⟨w.heap.size,0,none⟩=some (.int .i64 k):=(cell_of hca).trans rfl;have hS:=h.below hba;have hw:=where_any s A F hN 137 #[.pointer (some ⟨w.heap.size,0,none⟩)] (bp s fun x=>x.fn == k && P12.idle x) eg137 wa hS
  (asks_of hS ca (by omega) fun i x W hx hq hc=>free137_any _ x _ k W hq hc (hst i x hx))
 have hmem:∀ x,x ∈ (ids s).filter (bp s fun x=>x.fn == k && P12.idle x)→∃ i:Nat,i < s.boxes.length∧x=(i:Int)+1∧s.live ((i:Int)+1)=true:=fun x hx=>ids_is (List.mem_filter.1 hx).1;have hlen:((ids s).filter (bp s fun x=>x.fn == k && P12.idle x)).length≤1000000000:=by
  have:=List.length_filter_le (bp s fun x=>x.fn == k && P12.idle x) (ids s);have:=ids_len s;omega
 unfold freeOf;obtain⟨l,hl⟩:∃ l,(ids s).filter (bp s fun x=>x.fn == k && P12.idle x)=l:=⟨_,rfl⟩;rw[hl] at hw hmem hlen ⊢;obtain⟨n,hn⟩:∃ n,l.length=n:=⟨_,rfl⟩;have hfs:=fold_snoc (better s) none l;have hall:l.take n=l:=List.take_of_length_le (by omega);rw[hn] at hfs hlen;have HF:=Lib.hid hfs;clear h hca hl hfs;simp only[ptr] at hw ⊢;go_enter Tryz.func89,Tryz.ntmps89
 go_wp2_with fail
 refine hw.mono ?_;clear hw;rintro e w1 ⟨v,rfl,hr,hb⟩;have hs1:=hb.size;have hb1:=hba.trans (hb.mono (by omega));obtain⟨a,cap,rfl,hrd⟩:=hr.any;have hS1:=hS.below hb;obtain⟨ov,hc,-⟩:=hS1.core;have c7:w1.cell? ⟨A.core,7,none⟩=some (.map (some A.boxM)):=(cell_of hc).trans rfl;rw[hn] at hrd;have HR:=Lib.hid hrd;have HM:=Lib.hid hmem;clear hrd hmem hr hc hS hb hba ca hwa;rw[hn];go_wp2_with fail
 go_loopw [5,13] (fun y x wr=>∃ (j q:Nat),x=.int .i64 j∧y=pv (((l.take j).foldl (better s) none).map A.box)∧j≤n∧wr=w1.drewN q∧∀ i,(l.take j).foldl (better s) none=some i→i < s.boxes.length) (fun _ x _=>n - (intOf x).toNat)
 case atStart=>exact⟨0,0,rfl,rfl,by omega,rfl,fun i hi=>by cases hi⟩
 case round=>
  obtain⟨j,q,rfl,rfl,hj,rfl,hlt⟩:=hrel;by_cases hjn:j < n
  ·obtain⟨g,rfl,hg1,hg2,hcell⟩:=HR.out j hjn
   have hs:=HF.out j hjn;obtain⟨i,hi,hx,hlv⟩:=HM.out (l.getD j 0) (by rw[List.getD_eq_getElem?_getD,List.getElem?_eq_getElem (by omega)];exact List.getElem_mem _);rw[hx] at hcell hs;obtain⟨x,hbx⟩:∃ x,s.boxes[i]?=some x:=⟨_,List.getElem?_eq_getElem hi⟩;have hlk:=(hS1.drewN q).look_box ((i:Int)+1) (WalkArith.wf_i64 (by omega)) (some (A.box i)) (by unfold mBox;rw[if_pos ⟨by omega,by omega,hlv⟩,show ((i:Int)+1).toNat - 1=i by omega];rfl);have hq:=(hS1.box hbx).1;obtain⟨-,-,-,-,-,-,-,d7⟩:=hq.cells;have j1:(j:Int) < (n:Int):=by omega
   have hto:((i:Int)+1).toNat - 1=i:=by omega
   have hsn:sn s i=x.since:=by unfold sn;rw[hbx];rfl
   have hlt2:=better_lt (s:=s) (x:=(i:Int)+1) hlt (by omega);rw[← hs] at hlt2;obtain⟨o,ho⟩:∃ o,(l.take j).foldl (better s) none=o:=⟨_,rfl⟩;rw[ho] at hs hlt ⊢;have HS:=Lib.hid hs;have HL:=Lib.hid hlt2;simp only[pv] at hlk;clear hs hlt2 hx ho;obtain⟨z,hz⟩:∃ z,(i:Int)+1=z:=⟨_,rfl⟩;rw[hz] at hcell hlk;have HZ:=Lib.hid hz;clear hz;cases o with
   | none=>
    clear d7;simp only[Option.map_none,pv];go_wp2_with fail
    go_quiet (fail)
    go_wp2_with fail
    go_roundw
    case rel=>
     refine⟨j+1,_,by go_num,?_,by omega,rfl,HL.out⟩;rw[HS.out];simp only[better,hto];rfl
    case measure=>simp[intOf];omega
   | some i0=>
    obtain⟨x0,hb0⟩:∃ x,s.boxes[i0]?=some x:=⟨_,List.getElem?_eq_getElem (hlt i0 rfl)⟩;obtain⟨-,-,-,-,-,-,-,e7⟩:=((hS1.box hb0).1).cells;have hsn0:sn s i0=x0.since:=by unfold sn;rw[hb0];rfl
    obtain⟨t,ht⟩:∃ t,x.since=t:=⟨_,rfl⟩;obtain⟨t0,ht0⟩:∃ t,x0.since=t:=⟨_,rfl⟩;rw[ht] at d7 hsn;rw[ht0] at e7 hsn0;have HN:=Lib.hid (And.intro hsn hsn0);clear hsn hsn0 hlt ht ht0;simp only[Option.map_some,pv];by_cases hgt:t0 < t
    ·go_wp2_with fail
     go_quiet (fail)
     go_wp2_with fail
     go_roundw
     case rel=>
      refine⟨j+1,_,by go_num,?_,by omega,rfl,HL.out⟩;rw[HS.out];simp only[better,hto,HN.out.1,HN.out.2];rw[if_pos hgt];rfl
     case measure=>simp[intOf];omega
    ·go_wp2_with fail
     go_quiet (fail)
     go_wp2_with fail
     go_roundw
     case rel=>
      refine⟨j+1,_,by go_num,?_,by omega,rfl,HL.out⟩;rw[HS.out];simp only[better,hto,HN.out.1,HN.out.2];rw[if_neg (show ¬ t0 < t by omega)];rfl
     case measure=>simp[intOf];omega
  ·obtain rfl:j=n:=by omega
   go_wp2_with fail
   go_ret
   exact⟨by rw[hall];rfl,hb1.trans ⟨rfl,rfl,rfl,Nat.le_refl _,fun _ _=>rfl⟩⟩
end Go.Proofs.YtigeldkbfbcpmaaGreat
