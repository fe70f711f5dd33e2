/- A part of the proof: what the functions of the program come to, and what holds at all times. -/
import Derived.BigQuiet
import Derived.Test.YtigeldkbfbcpmaaGreatM21
import Derived.Test.YtigeldkbfbcpmaaGreatM23
import Derived.Test.YtigeldkbfbcpmaaGreatM20
set_option linter.unusedVariables false
set_option linter.unusedSectionVars false
set_option linter.unusedSimpArgs false
set_option maxRecDepth 100000
set_option maxHeartbeats 8000000
namespace Go.Proofs.YtigeldkbfbcpmaaGreat
open Go.RowKit Go.Kpt
theorem start_any(s:St)(N:Nat)(hI:Low s N)(hn:s.next=(s.boxes.length:Int)+1)(hL:s.boxes.length≤999000000)(l:List Cmd)(hl0:s.out=some l)(hl1:l.length≤2000000000)(A:Adr)(w0:World)(F0:Nat→Prop)(f:Nat)(y:Fnc)(hy:s.fns f=some y)(k:Nat)(hk:k < 32)(w:World)(h:Rs w0 F0 w s A):
  Calls Tryz.prog 94 #[.pointer (some ⟨A.core,0,none⟩),.int .i64 f,.int .i64 k] w fun e w'=>∃ bb:Nat,e=.returned (.pointer (some ⟨bb,0,none⟩))∧Rs w0 F0 w' (startS s f k) { A with box:=bxput A.box s.boxes.length bb }:=by
 have hfo:=hI.fn f y hy;have hf:=hfo.lt;have hho:=(hI.host k hk).us;obtain⟨mem,hmm⟩:∃ m:Int,(y.mem:Int)=m:=⟨_,rfl⟩;have hm0:0≤mem:=by omega
 obtain⟨-,-,-,-,c4,-⟩:=h.cc;have hlk:=h.1.look_fn (f:Int) (WalkArith.wf_i64 (by omega)) (some (A.fn f)) (by unfold mFn;rw[if_pos (by omega),show (f:Int).toNat=f by omega,hy];rfl);simp only[pv] at hlk;obtain⟨s1,hs1⟩:∃ s1:St,{ s with hosts:=P13.put s.hosts k (P13.took (s.hosts k) mem) }=s1:=⟨_,rfl⟩;have htk:=hostTake_rs h.drew k hk hho mem hm0;rw[hs1] at htk;have HF:∀ (s':St) (w':World),s'.fns=s.fns→Rs w0 F0 w' s' A→w'.cell? ⟨A.fn f,1,none⟩=some (.int .i64 mem):=by
  intro s' w' e1 h';obtain⟨hc,-⟩:=h'.1.fn (f:=f) (x:=y) (by rw[e1];exact hy);rw[← hmm];exact(cell_of hc).trans rfl
 have HF:=Lib.hid HF;have e1:s1.fns=s.fns:=by rw[← hs1]
 have e2:s1.next=s.next:=by rw[← hs1]
 have e3:s1.now=s.now:=by rw[← hs1]
 have e4:s1.boxes=s.boxes:=by rw[← hs1]
 have e5:s1.out=some l:=by rw[← hs1];exact hl0
 have hgs:startS s f k={ (withBox { s1 with next:=s.next+1 } ⟨s.next,f,k,mem,0,false,false,s.now⟩ ((s1.boxes.length:Int)+1)) with out:=some (l++[⟨true,s.next,f,k⟩]) }:=by
  unfold startS withBox;rw[hy];simp only[outl,hl0,Option.getD_some,← hn,← hs1,hmm]
 have HGS:=Lib.hid hgs;have k5:=h.drew.cc.2.2.2.2.2.1;have k1:=HF.out s w.drew rfl h.drew;have hnx:s.next+1≤1000000000∧0≤s.next:=by omega
 clear hgs hfo hho hI hm0 h;obtain⟨nx,hnxv⟩:∃ nx,s.next=nx:=⟨_,rfl⟩;obtain⟨now,hnow⟩:∃ nx,s.now=nx:=⟨_,rfl⟩;rw[hnxv] at e2 hn hnx HGS;rw[hnow] at e3 HGS;have HN:=Lib.hid (And.intro hn hL);clear hn hL;go_enter Tryz.func94,Tryz.ntmps94
 go_wp2_with fail
 go_region_held3 (fun W=>W.cell? ⟨A.core,5,none⟩=some (.pointer (some ⟨A.hosts,0,none⟩))∧W.cell? ⟨A.fn f,1,none⟩=some (.int .i64 mem)) (exact⟨by assumption,by assumption⟩)
  (first | (go_at_call 146;refine htk.mono ?_;rintro e w1 ⟨⟨b,rfl⟩,h1⟩;have d5:=h1.cc.2.2.2.2.2.1;have d1:=HF.out s1 w1 e1 h1))
 clear c4 hlk k5 k1 htk d5 d1;have m0:=h1.drew.cc.1;have m1:=h1.drew.cc.2.1;have f1:=HF.out s1 w1.drew e1 h1.drew;rw[e3] at m0;rw[e2] at m1;have hnb:=fun W=>P12.new_any nx (f:Int) (k:Int) mem now W;have H1:=Lib.hid h1;clear h1;go_wp2_with fail
 go_region_held3 (fun W=>W.cell? ⟨A.core,0,none⟩=some (.int .i64 now)∧W.cell? ⟨A.core,1,none⟩=some (.int .i64 nx)∧W.cell? ⟨A.fn f,1,none⟩=some (.int .i64 mem)) (exact⟨by assumption,by assumption,by assumption⟩)
  (first | (go_at_call 147;with_reducible refine(hnb _).mono ?_;rintro e w2 ⟨rfl,hbq,hB,hsz⟩;have h2:=H1.out.drew.below hB;have m0:=h2.cc.1;have m1:=h2.cc.2.1;rw[e3] at m0;rw[e2] at m1;have f1:=HF.out s1 w2 e1 h2))
 have hsb:Sys w1 s1 A (fun x=>Grow F0 w0 w1 x∧x < w1.heap.size):=H1.out.1.lt;have hB1:Below w1.heap.size w1 w2:=below_draw hB;obtain⟨ov,hcore,hnum⟩:=(hsb.below hB1).numTurn;have hbq:P12.Bq w2 w1.heap.size ⟨nx,f,k,mem,0,false,false,now⟩:=hbq;have hsz:w2.heap.size=w1.heap.size+1:=hsz;have c1:w2.cell? ⟨A.core,1,none⟩=some (.int .i64 nx):=m1;have fr1:w2.frozen? ⟨A.core,1,none⟩=false:=frozen_of hcore;have hw1:(IntKind.i64.wrap (nx+1))=nx+1:=IntWalk.i64_in _ ⟨by omega,by omega⟩;have hw2:wrap64 (nx+1)=nx+1:=IntWalk.wrap64_in _ ⟨by omega,by omega⟩;have hset:=hnum (w2.setCell ⟨A.core,1,none⟩ (.int .i64 (nx+1))) s1.now (nx+1) s1.ans (set_same (i:=1) _ hcore) (Kept.set1 _ _ _ _);have HS:=Lib.hid hset;have HB:=Lib.hid hbq;have HZ:=Lib.hid (And.intro hsz hB1);clear hsb hB hB1 hnum hbq hsz hset h2 m0 m1 f1 hnb hcore hnx;go_wp2_with fail
 clear c1 fr1 hw1 hw2;have hcl3:(w2.setCell ⟨A.core,1,none⟩ (.int .i64 (nx+1))).heap.size=w2.heap.size:=World.size_setCell _ _ _;have hq3:P12.Bq (w2.setCell ⟨A.core,1,none⟩ (.int .i64 (nx+1))) w1.heap.size ⟨nx,f,k,mem,0,false,false,now⟩:=HB.out.kept (Kept.set1 w2 A.core 1 _) (fun e=>by have:=H1.out.lt;omega);generalize w2.setCell ⟨A.core,1,none⟩ (.int .i64 (nx+1))=w3 at *;obtain⟨s2,hs2⟩:∃ s2:St,{ s1 with next:=nx+1 }=s2:=⟨_,rfl⟩;have hS3:Sys w3 s2 A (Grow (fun x=>Grow F0 w0 w1 x∧x < w1.heap.size) w2 w3):=by rw[← hs2];exact HS.out.1
 have b2:s2.boxes=s.boxes:=by rw[← hs2];exact e4
 have o2:s2.out=some l:=by rw[← hs2];exact e5
 have hnF:¬ Grow (fun x=>Grow F0 w0 w1 x∧x < w1.heap.size) w2 w3 w1.heap.size:=fun e=>by
  rcases e with e|e
  ·have:=e.2;omega
  ·have:=HZ.out.1;omega
 obtain⟨c,hPm,hFm,hcc,hnext⟩:=(hS3.drew).newBox w1.heap.size _ (show P12.Bq w3.drew w1.heap.size ⟨nx,f,k,mem,0,false,false,now⟩ from hq3) hnF;have hnw:(Lit.int .i64 nx).wf=true:=by
  have:=HN.out.1;have:=HN.out.2;exact WalkArith.wf_i64 (by omega)
 obtain⟨w4,hrun,hM4,kM4⟩:=pm_put hPm (by have:=HN.out.2;unfold maxLen;rw[b2] at hcc;omega) Tryz.underlying84 nx hnw w1.heap.size;rw[show nx=(s2.boxes.length:Int)+1 by rw[b2];exact HN.out.1,mBox_new s2 A ⟨nx,f,k,mem,0,false,false,now⟩ w1.heap.size] at hM4;obtain⟨n1,n2⟩:=hnext w4 _ hM4 kM4;have hk14:Kept F0 w0 w4:=by
  have ka:=H1.out.2;have kb:Kept (fun x=>Grow F0 w0 w1 x∧x < w1.heap.size) w1 w2:=Kept.of_below HZ.out.2;have kc:Kept (fun x=>Grow F0 w0 w1 x∧x < w1.heap.size) w2 w3:=HS.out.2;have kd:Kept (Grow (fun x=>Grow F0 w0 w1 x∧x < w1.heap.size) w2 w3) w3 w4:=drew_kept n2;have ke:=(ka.trans kb (fun x hx hh=>by
   rcases hh.1 with hh|hh
   ·exact hh
   ·omega)).trans kc (fun x hx hh=>by
   rcases hh.1 with hh|hh
   ·exact hh
   ·omega)
  refine ke.trans kd (fun x hx hh=>?_);rcases hh with hh|hh
  ·rcases hh.1 with hh | hh
   ·exact hh
   ·omega
  ·have:=ke.size;have:=HZ.out.1;have:=ka.size;omega
 have hs01:w0.heap.size≤w1.heap.size:=H1.out.2.size;have hs34:w3.heap.size≤w4.heap.size:=n2.size;have h4:Rs w0 F0 w4 (withBox s2 ⟨nx,f,k,mem,0,false,false,now⟩ ((s2.boxes.length:Int)+1)) { A with box:=bxput A.box s2.boxes.length w1.heap.size }:=by
  refine Rs.of n1 (fun y hy=>?_) hk14;have hz:=HZ.out.1;rcases hy with ((hy|hy)|hy)|hy
  ·rcases hy.1 with hy2 | hy2
   ·exact .inl hy2
   ·exact .inr ⟨hy2.1,by omega⟩
  ·exact .inr ⟨by omega,by omega⟩
  ·have:w3.heap.size≤y:=hy.1
   exact .inr ⟨by omega,hy.2⟩
  ·exact .inr ⟨by omega,by omega⟩
 have g7:w3.cell? ⟨A.core,7,none⟩=some (.map (some A.boxM)):=by
  obtain⟨ov3,hc3,-⟩:=hS3.core;exact(cell_of hc3).trans rfl
 have g0:w3.cell? ⟨w1.heap.size,0,none⟩=some (.int .i64 nx):=hq3.cells.1;have H4:=Lib.hid h4;clear h4 hk14 n1 n2 hM4 kM4 hPm hFm hcc hnext hnF hS3 hq3 hs01 hs34 hcl3;have HW:=Lib.hid hnw;clear hnw;go_region
 all_goals
  clear hrun g7 g0;have h4:=H4.out;obtain⟨s3,hs3⟩:∃ s3:St,withBox s2 ⟨nx,f,k,mem,0,false,false,now⟩ ((s2.boxes.length:Int)+1)=s3:=⟨_,rfl⟩;obtain⟨A3,hA3⟩:∃ A3:Adr,{ A with box:=bxput A.box s2.boxes.length w1.heap.size }=A3:=⟨_,rfl⟩;rw[hs3,hA3] at h4;have hz:s3.boxes[s2.boxes.length]?=some ⟨nx,f,k,mem,0,false,false,now⟩:=by rw[← hs3];show (s2.boxes++[_])[s2.boxes.length]?=_;rw[List.getElem?_append_right (Nat.le_refl _)];simp
  have o3:s3.out=some l:=by rw[← hs3];exact o2
  have hbA:A3.box s2.boxes.length=w1.heap.size:=by rw[← hA3];simp[bxput]
  have hcA:A3.core=A.core:=by rw[← hA3]
  have hi43:=info43;obtain⟨i0,hi0,hi1⟩:∃ i0,Tryz.prog.info? 43=some i0∧(i0.zero,i0.size,i0.bytes)=(some (.agg #[.bool false,.int .i64 0,.int .i64 0,.int .i64 0]),4,32):=by
   cases e:Tryz.prog.info? 43 with
   | none=>rw[e] at hi43;cases hi43
   | some i0=>rw[e] at hi43;exact⟨i0,rfl,by simpa using hi43⟩
  have iz0:i0.zero=some (.agg #[.bool false,.int .i64 0,.int .i64 0,.int .i64 0]):=congrArg (·.1) hi1;have iz1:i0.size=4:=congrArg (·.2.1) hi1;have iz2:i0.bytes=32:=congrArg (·.2.2) hi1;clear hi43 hi1;obtain⟨ov4,hcore,hrow,hne,hbx,hout⟩:=h4.drew.1.outTurn l o3;obtain⟨hbi,hgi⟩:=hbx _ _ hz;have hq:=h4.drew.bq hz;rw[hbA] at hbi hgi hq;rw[hcA] at hbi hcore hne;have hbh:w4.drew.heap[w1.heap.size]?=some (.cells (P12.bc ⟨nx,f,k,mem,0,false,false,now⟩) 70 (0,0)):=hq;have hblt:=lt_of hbh;have hclt:=lt_of hcore;have hkA0:Kept (fun _=>False) w4 (w4.alloc (.cells #[.bool true,.int .i64 nx,.int .i64 f,.int .i64 k] 43)).drew:=((Kept.refl _ w4).alloc _).drew;have hkA:Kept (fun _=>False) w4.drew (w4.alloc (.cells #[.bool true,.int .i64 nx,.int .i64 f,.int .i64 k] 43)).drew:=⟨hkA0.os,hkA0.tape,hkA0.output,hkA0.size,hkA0.block⟩;clear hkA0;have hba:=(hkA.block _ hblt (fun h=>h)).trans hbh;have hcoa:=(hkA.block _ hclt (fun h=>h)).trans hcore;have hrowa:=row_kept hrow hkA (fun _ _ h=>h);have hna:(w4.alloc (.cells #[.bool true,.int .i64 nx,.int .i64 f,.int .i64 k] 43)).drew.heap[w4.heap.size]?=some (.cells #[.bool true,.int .i64 nx,.int .i64 f,.int .i64 k] 43 (0,0)):=heap_alloc_new _ _;have a0:(w4.alloc (.cells #[.bool true,.int .i64 nx,.int .i64 f,.int .i64 k] 43)).cell? ⟨w1.heap.size,0,none⟩=some (.int .i64 nx):=(cell_of (w:=(w4.alloc (.cells #[.bool true,.int .i64 nx,.int .i64 f,.int .i64 k] 43)).drew) hba).trans rfl;have a10:(w4.alloc (.cells #[.bool true,.int .i64 nx,.int .i64 f,.int .i64 k] 43)).cell? ⟨A.core,10,none⟩=some ov4:=(cell_of (w:=(w4.alloc (.cells #[.bool true,.int .i64 nx,.int .i64 f,.int .i64 k] 43)).drew) hcoa).trans rfl;have k0:w4.cell? ⟨w1.heap.size,0,none⟩=some (.int .i64 nx):=(cell_of (w:=w4.drew) hbh).trans rfl;have c10:w4.cell? ⟨A.core,10,none⟩=some ov4:=(cell_of (w:=w4.drew) hcore).trans rfl;have hone:∀ u ∈ ([.bool true,.int .i64 nx,.int .i64 f,.int .i64 k]:List Value),u.oneCell'=true:=by intro u hu;simp at hu;rcases hu with rfl|rfl|rfl|rfl <;> rfl
  have hnews:∀ j u,([.bool true,.int .i64 nx,.int .i64 f,.int .i64 k]:List Value)[j]?=some u→(w4.alloc (.cells #[.bool true,.int .i64 nx,.int .i64 f,.int .i64 k] 43)).drew.cell? ((⟨w4.heap.size,0,none⟩:Addr).add j)=some u:=by
   intro j u hj;have hplain:(⟨w4.heap.size,0,none⟩:Addr).add j=⟨w4.heap.size,j,none⟩:=by unfold Addr.add;split <;> simp_all
   rw[hplain];refine(cell_of hna).trans ?_;simpa using hj
  have hml:l.length+1≤maxLen:=by unfold maxLen;omega
  have hby:(l.length+1)*32≤140737488355328:=by omega
  have HR:=Lib.hid hrowa;have HN2:=Lib.hid hnews;have HO:=Lib.hid hout;have H1:=Lib.hid h4;have HC:=Lib.hid (And.intro hcoa hba);have HK:=Lib.hid hkA;clear hrow hrowa hnews hout h4 hq hbh hba hcoa hkA hcore hna hbx hz;go_wp2_with fail
  go_region_law ((refine step_append_lies _ (by rfl) _ _ 39 (by rfl) 0 43 i0 (.agg #[.bool false,.int .i64 0,.int .i64 0,.int .i64 0]) 4 32 Tryz.underlying39 hi0 iz0 iz1 iz2 rfl (by decide) ov4 l.length (outCells l) (by rfl) HR.out ⟨w4.heap.size,0,none⟩ 1 1 [.bool true,.int .i64 nx,.int .i64 f,.int .i64 k] (by rfl) rfl HN2.out hone (by decide) hml hby (Nat.zero_le _) _ rfl ?_;intro g1 cap1 w5 hown3 hgrow hloc hlt3;have hkg:Kept (fun y=>some y=ov4.ownBlock) _ w5:=Kept.of_grown hgrow;have b3:=(hkg.block A.core (lt_of HC.out.1) (fun h=>hne _ h.symm rfl)).trans HC.out.1;have r10:w5.cell? ⟨A.core,10,none⟩=some ov4:=(cell_of b3).trans rfl;have f10:w5.frozen? ⟨A.core,10,none⟩=false:=frozen_of b3))
  all_goals
   have b5:(w5.setCell ⟨A.core,10,none⟩ (.slice (some ⟨g1,0,none⟩) (l.length+1) cap1)).heap[A.core]?=some (.cells (coreCells s3 A3 (.slice (some ⟨g1,0,none⟩) (l.length+1) cap1)) 96 (0,0)):=set_same (i:=10) _ b3;have hks:=Kept.set1 w5 A.core 10 (.slice (some ⟨g1,0,none⟩) (l.length+1) cap1);have hg1:g1≠A.core:=by
    rcases hloc with hloc|hloc
    ·exact hne _ hloc
    ·have e1:A.core < w4.heap.size:=hclt
     have e2:g1=w4.heap.size+1:=by rw[hloc];simp
     omega
   have hown4:=row_kept hown3 hks (fun g' h1 h2=>by cases h1;exact hg1 h2);have hkw:Kept (fun b=>b=A3.core∨ov4.ownBlock=some b) w4.drew (w5.setCell ⟨A.core,10,none⟩ (.slice (some ⟨g1,0,none⟩) (l.length+1) cap1)):=
    ((HK.out.mono (fun _ _ h=>h.elim)).trans hkg (fun _ _ h=>.inr h.symm)).trans hks (fun _ _ h=>.inl (by rw[hcA];exact h))
   have hfin:=HO.out _ _ (l++[⟨true,nx,f,k⟩]) (by rw[hcA];exact b5) (by rw[outCells_snoc,List.length_append];exact hown4) (fun g hg=>by
    cases hg
    rcases hloc with hloc|hloc
    ·exact .inl hloc
    ·exact .inr ⟨by rw[hloc];simp,by rw[World.size_setCell];exact hlt3⟩) hkw
   have h9:=H1.out.drew.next hfin.1 hfin.2;clear hfin hkw hown4 hks b5 b3 hown3 hgrow hkg r10 f10;go_wp2_with fail
   go_ret
   refine⟨w1.heap.size,rfl,?_⟩;have e9:startS s f k={ s3 with out:=some (l++[⟨true,nx,f,k⟩]) }:=by rw[HGS.out,← hs3,← hs2]
   have eA:({ A with box:=bxput A.box s.boxes.length w1.heap.size }:Adr)=A3:=by rw[← hA3,b2]
   rw[e9,eA];exact h9
theorem asks_of3{s:St}{A:Adr}{F:Nat→Prop}{g c1 c2 c3:Nat}{P:P12.Bx→Bool}{v1 v2 v3:Value}{w1:World}(h:Sys w1 s A F)
  (hc1:w1.cell? ⟨c1,0,none⟩=some v1) (hc2:w1.cell? ⟨c2,0,none⟩=some v2) (hc3:w1.cell? ⟨c3,0,none⟩=some v3) (hl:c1 < w1.heap.size∧c2 < w1.heap.size∧c3 < w1.heap.size)
  (hcall:∀ (i:Nat) (x:P12.Bx) W,s.boxes[i]?=some x→P12.Bq W (A.box i) x→Sys W s A F→W.cell? ⟨c1,0,none⟩=some v1→W.cell? ⟨c2,0,none⟩=some v2→W.cell? ⟨c3,0,none⟩=some v3 →
   Calls Tryz.prog g #[.pointer (some ⟨A.box i,0,none⟩),.pointer (some ⟨c1,0,none⟩),.pointer (some ⟨c2,0,none⟩),.pointer (some ⟨c3,0,none⟩)] W fun e w'=>e=.returned (.bool (P x))∧∃ m,w'=W.drewN m):
  ∀ W,Below w1.heap.size w1 W→Asks s A g #[.pointer (some ⟨c1,0,none⟩),.pointer (some ⟨c2,0,none⟩),.pointer (some ⟨c3,0,none⟩)] (bp s P) W:=by
 intro W hW i hi hlv;obtain⟨x,hx⟩:∃ x,s.boxes[i]?=some x:=⟨_,List.getElem?_eq_getElem hi⟩;rw[bp_at hx];have hc:∀ c v,c < w1.heap.size→w1.cell? ⟨c,0,none⟩=some v→W.cell? ⟨c,0,none⟩=some v:=fun c v h1 h2=>by
  rw[World.cell?_of_block (show W.heap[c]?=w1.heap[c]? from hW.block c h1)];exact h2
 exact hcall i x W hx ((h.below hW).box hx).1 (h.below hW) (hc _ _ hl.1 hc1) (hc _ _ hl.2.1 hc2) (hc _ _ hl.2.2 hc3)
theorem eg162:∀ args w,(callFunc 162 args).run Tryz.prog w=.ok (.enter 162 args) w:=by intro args w;rfl
def svs(j:Nat):Nat:=if j=0 then 1 else if j=1 then 0 else 2
theorem spareS_none{s:St}{f:Nat}(h:∀ j,j < 3→spareL s f (svs j)=[]):spareS s f=none:=by
 have h0:=h 0 (by omega);have h1:=h 1 (by omega);have h2:=h 2 (by omega);unfold spareS;simp only[svs] at h0 h1 h2;rw[show spareL s f 1=[] from h0,show spareL s f 0=[] from h1,show spareL s f 2=[] from h2]
theorem spareS_some{s:St}{f j:Nat}(hj:j < 3)(h:∀ i,i < j→spareL s f (svs i)=[]){a:Int}{l:List Int}(hl:spareL s f (svs j)=a :: l):spareS s f=some (a.toNat - 1):=by
 have hj3:j=0∨j=1∨j=2:=by omega
 unfold spareS;rcases hj3 with rfl|rfl|rfl
 ·rw[show spareL s f 1=a :: l from hl]
 ·rw[show spareL s f 1=[] from h 0 (by omega),show spareL s f 0=a :: l from hl]
 ·rw[show spareL s f 1=[] from h 0 (by omega),show spareL s f 0=[] from h 1 (by omega),show spareL s f 2=a :: l from hl]
theorem spare_any(s:St)(N:Nat)(hI:Low s N)(hL:s.boxes.length≤999000000)(A:Adr)(F:Nat→Prop)(f:Nat)(w:World)(h:Sys w s A F):
  Calls Tryz.prog 129 #[.pointer (some ⟨A.core,0,none⟩),.int .i64 f] w fun e w'=>e=.returned (pv ((spareS s f).map A.box))∧Below w.heap.size w w':=by
 obtain⟨ws,hws⟩:∃ ws,((w.alloc (.cells #[.pointer (some ⟨A.core,0,none⟩)] 50)).alloc (.cells #[.int .i64 f] 3)).alloc (.cells #[.int .i64 1,.int .i64 0,.int .i64 2] 68)=ws:=⟨_,rfl⟩;have hsz:ws.heap.size=w.heap.size+3:=by subst hws;simp
 have hBs:Below w.heap.size w ws:=by subst hws;exact(((Below.refl _ w).alloc (Nat.le_refl _) _).alloc (by simp) _).alloc (by simp;omega) _
 have h0:ws.heap[w.heap.size]?=some (.cells #[.pointer (some ⟨A.core,0,none⟩)] 50 (0,0)):=by
  subst hws;exact(Below.heap_alloc _ _ _ (by simp;omega)).trans ((Below.heap_alloc _ _ _ (by simp)).trans (heap_alloc_new _ _))
 have h1:ws.heap[w.heap.size+1]?=some (.cells #[.int .i64 f] 3 (0,0)):=by
  subst hws;refine(Below.heap_alloc _ _ _ (by simp)).trans ?_;have:=heap_alloc_new (w.alloc (.cells #[.pointer (some ⟨A.core,0,none⟩)] 50)) (.cells #[.int .i64 f] 3);rw[World.size_alloc] at this;exact this
 have h2:ws.heap[w.heap.size+2]?=some (.cells #[.int .i64 1,.int .i64 0,.int .i64 2] 68 (0,0)):=by
  subst hws;have:=heap_alloc_new ((w.alloc (.cells #[.pointer (some ⟨A.core,0,none⟩)] 50)).alloc (.cells #[.int .i64 f] 3)) (.cells #[.int .i64 1,.int .i64 0,.int .i64 2] 68);rw[World.size_alloc,World.size_alloc] at this;exact this
 have hs:=h.below hBs;have HH:=Lib.hid (And.intro hsz (And.intro hBs (And.intro h0 (And.intro h1 (And.intro h2 hs)))));have HI:=Lib.hid hI;clear hsz hBs h0 h1 h2 hs h hI;go_enter Tryz.func129,Tryz.ntmps129
 have s0:ws.cell? ⟨w.heap.size,0,none⟩=some (.pointer (some ⟨A.core,0,none⟩)):=(cell_of HH.out.2.2.1).trans rfl;have s1:ws.cell? ⟨w.heap.size+1,0,none⟩=some (.int .i64 f):=(cell_of HH.out.2.2.2.1).trans rfl;go_wp2_with fail
 go_loopw [10] (fun x wr=>∃ j:Nat,x=.int .i64 j∧j≤3∧Below ws.heap.size ws wr∧∀ i,i < j→spareL s f (svs i)=[]) (fun x _=>3 - (intOf x).toNat)
 case atStart=>exact⟨0,rfl,by omega,Below.refl _ _,fun i hi=>by omega⟩
 case round=>
  obtain⟨j,rfl,hj,hB,hno⟩:=hrel;rename World=>W0
  obtain⟨hsz,hBs,h0,h1,h2,hs⟩:=HH.out;by_cases hlt:j < 3
  ·have j1:(j:Int) < 3:=by omega
   have hsvc:ws.cell? ⟨w.heap.size+2,j,none⟩=some (.int .i64 (svs j)):=by
    refine(cell_of h2).trans ?_;have hj3:j=0∨j=1∨j=2:=by omega
    rcases hj3 with rfl|rfl|rfl <;> rfl
   have hcw:W0.cell? ⟨w.heap.size+2,j,none⟩=some (.int .i64 (svs j)):=by
    rw[World.cell?_of_block (show W0.heap[w.heap.size+2]?=ws.heap[w.heap.size+2]? from hB.block _ (by omega))];exact hsvc
   obtain⟨sv,hsv⟩:∃ v,svs j=v:=⟨_,rfl⟩;rw[hsv] at hcw;obtain⟨wa,hwa⟩:∃ wa,W0.alloc (.cells #[.int .i64 sv] 68)=wa:=⟨_,rfl⟩;have hBa:Below W0.heap.size W0 wa:=by subst hwa;exact(Below.refl _ W0).alloc (Nat.le_refl _) _
   have hza:wa.heap.size=W0.heap.size+1:=by subst hwa;simp
   have hca:wa.heap[W0.heap.size]?=some (.cells #[.int .i64 sv] 68 (0,0)):=by subst hwa;exact heap_alloc_new _ _
   have hBwa:Below ws.heap.size ws wa:=hB.trans (hBa.mono hB.size);have hold:∀ b,b < ws.heap.size→∀ v,ws.cell? ⟨b,0,none⟩=some v→wa.cell? ⟨b,0,none⟩=some v:=fun b hb v hv=>by
    rw[World.cell?_of_block (show wa.heap[b]?=ws.heap[b]? from hBwa.block _ hb)];exact hv
   have a0:=hold w.heap.size (by omega) _ ((cell_of h0).trans rfl);have a1:=hold (w.heap.size+1) (by omega) _ ((cell_of h1).trans rfl);have a2:wa.cell? ⟨W0.heap.size,0,none⟩=some (.int .i64 sv):=(cell_of hca).trans rfl;have hsa:=hs.below hBwa;have hbs:=hB.size;have hw:=where_any s A _ (by omega) 162 #[.pointer (some ⟨w.heap.size+1,0,none⟩),.pointer (some ⟨W0.heap.size,0,none⟩),.pointer (some ⟨w.heap.size,0,none⟩)] (bp s fun x=>x.fn == (f:Int) && !x.pin && x.st == sv && upH s.hosts x.host.toNat) eg162 wa hsa
    (asks_of3 (P:=fun x=>x.fn == (f:Int) && !x.pin && x.st == sv && upH s.hosts x.host.toNat) hsa a1 a2 a0 ⟨by omega,by omega,by omega⟩ fun i x W hx hq hS e1 e2 e3=>by
     obtain⟨k,hk,hxk⟩:=(HI.out.box i x hx).host;obtain⟨ov,hc,-⟩:=hS.core;have:=spare162_any (A.box i) x (w.heap.size+1) W0.heap.size w.heap.size A.core A.hosts s.hosts f sv W hq e1 e2 e3 ((cell_of hc).trans rfl) hS.hostsAt.1 k hxk hk;rw[hxk,Int.toNat_natCast];exact this)
   have hlL:(ids s).filter (bp s fun x=>x.fn == (f:Int) && !x.pin && x.st == sv && upH s.hosts x.host.toNat)=spareL s f (svs j):=by rw[hsv];rfl
   rw[hlL] at hw;have hmem:∀ x,x ∈ spareL s f (svs j)→∃ i:Nat,i < s.boxes.length∧x=(i:Int)+1∧s.live ((i:Int)+1)=true:=fun x hx=>ids_is (List.mem_filter.1 hx).1;have hBw:Below w.heap.size w wa:=hBs.trans (hBwa.mono (by omega));have HX:=Lib.hid (And.intro hno (And.intro hmem (And.intro hBwa (And.intro hBw (And.intro hsa (And.intro a0 hza))))));clear hno hmem hBwa hBw hsa hold hlL hs h0 h1 h2 hBs hsz hB hbs hsvc hsv hca hza hBa;simp only[ptr] at hw;go_wp2_with fail
   refine hw.mono ?_;clear hw;rintro e wd ⟨v,rfl,hrd0,hBd⟩;obtain⟨a,cap,rfl,hrd⟩:=hrd0.any;have hd:=HX.out.2.2.2.2.1.below hBd;have hsw:w.heap.size < wa.heap.size:=World.block_lt_of_cell? _ _ a0;have d0:wd.cell? ⟨w.heap.size,0,none⟩=some (.pointer (some ⟨A.core,0,none⟩)):=by
    rw[World.cell?_of_block (show wd.heap[w.heap.size]?=wa.heap[w.heap.size]? from hBd.block _ hsw)];exact a0
   cases hl:spareL s f (svs j) with
   | nil=>
    rw[hl] at hrd;simp only[List.length_nil];have HB2:=Lib.hid (HX.out.2.2.1.trans (hBd.mono HX.out.2.2.1.size));have HL:=Lib.hid hl;clear hrd hrd0 hd d0 a0 a1 a2 hl hwa hcw hBd;go_wp2_with fail
    go_roundw
    case rel=>exact⟨j+1,by go_num,by omega,HB2.out,fun i hi=>by
     by_cases e:i=j
     ·subst e;exact HL.out
     ·exact HX.out.1 i (by omega)⟩
    case measure=>simp[intOf];omega
   | cons id rest=>
    rw[hl] at hrd;obtain⟨i,hi,hid,hlv⟩:=HX.out.2.1 id (by rw[hl];simp);obtain⟨g,rfl,hg1,hg2,hcell⟩:=hrd 0 (by simp);have hcell:wd.cell? ⟨g,0,none⟩=some (.int .i64 id):=hcell;have hlk:=fun n=>(hd.drewN n).look_box id (by rw[hid];exact WalkArith.wf_i64 (by omega)) (some (A.box i)) (by rw[hid];unfold mBox;rw[if_pos ⟨by omega,by omega,hlv⟩,show ((i:Int)+1).toNat - 1=i by omega];rfl);simp only[pv] at hlk;obtain⟨ov,hc,-⟩:=hd.core;have d7:wd.cell? ⟨A.core,7,none⟩=some (.map (some A.boxM)):=(cell_of hc).trans rfl;obtain⟨n,hn⟩:∃ n:Nat,(id :: rest).length=n:=⟨_,rfl⟩;have hn1:0 < n:=by rw[← hn];simp
    have hn2:(0:Int) < (n:Int):=by omega
    have hn0:¬ (n:Int)≤0:=by omega
    have hlen:(id :: rest).length≤1000000000:=by
     rw[← hl];unfold spareL;have:=List.length_filter_le (bp s fun x=>x.fn == (f:Int) && !x.pin && x.st == (svs j) && upH s.hosts x.host.toNat) (ids s);have:=ids_len s;omega
    have hr:spareS s f=some i:=by
     rw[spareS_some hlt HX.out.1 hl,hid,show ((i:Int)+1).toNat - 1=i by omega]
    rw[hn];have HR:=Lib.hid hr;have HB3:=Lib.hid (HX.out.2.2.2.1.trans (hBd.mono (by omega)));clear hrd hrd0 hd a0 a1 a2 hl hwa hcw hBd hc hr hid hlv hn hlen;go_wp2_with fail
    go_quiet (fail)
    go_wp2_with fail
    go_ret
    rw[HR.out];exact⟨rfl,below_drewN HB3.out _⟩
  ·obtain rfl:j=3:=by omega
   have hr:=spareS_none hno;go_wp2_with fail
   go_ret
   rw[hr];exact⟨rfl,hBs.trans (hB.mono (by omega))⟩
end Go.Proofs.YtigeldkbfbcpmaaGreat
namespace Go.Proofs.YtigeldkbfbcpmaaGreat
open Go.RowKit Go.Kpt HeapPure
theorem pinB_eq{s:St}{i:Nat}{x:P12.Bx}(hx:s.boxes[i]?=some x)(v:Bool):pinB s i v={ s with boxes:=s.boxes.set i { x with pin:=v } }:=by unfold pinB;rw[hx]
theorem busyG_pin(g:Nat)(x:P12.Bx)(v:Bool):busyG g { x with pin:=v }=busyG g x:=rfl
theorem Inv.pinB_{s:St}{N:Nat}{X:Nat→Prop}{i:Nat}{x:P12.Bx}(h:Inv s N X)(hX:∀ j,X j→j=i)(hx:s.boxes[i]?=some x)(hl:x.st≠3)(v:Bool):Inv (pinB s i v) N (only i):=by
 rw[pinB_eq hx];have hb:=h.box i x hx;exact(h.boxq (z:={ x with pin:=v }) hX hx s.quo rfl rfl rfl rfl hb.st hl hl hb.bound (fun g=>⟨rfl,rfl,rfl⟩) rfl (fun g hg=>⟨by have:=busyG_pin g x v;omega,(h.qb g hg).2⟩)).1
structure Quietly (s t:St) (i:Nat):Prop where
 len:t.boxes.length=s.boxes.length
 box:∀ j,j≠i→t.boxes[j]?=s.boxes[j]?
 fns:t.fns=s.fns
 now:t.now=s.now
 out:s.out.isSome=true→t.out.isSome=true
 next:t.next=s.next
 tok:t.tok=s.tok
 quo:t.quo=s.quo
theorem Quietly.refl(s:St)(i:Nat):Quietly s s i:=⟨rfl,fun _ _=>rfl,rfl,rfl,fun h=>h,rfl,rfl,rfl⟩
theorem Quietly.trans{s t u:St}{i:Nat}(h:Quietly s t i)(k:Quietly t u i):Quietly s u i:=
 ⟨k.len.trans h.len,fun j hj=>(k.box j hj).trans (h.box j hj),k.fns.trans h.fns,k.now.trans h.now,fun e=>k.out (h.out e),k.next.trans h.next,k.tok.trans h.tok,k.quo.trans h.quo⟩
theorem quiet_pinB(s:St)(i:Nat)(v:Bool):Quietly s (pinB s i v) i:=by
 unfold pinB;split
 ·exact⟨List.length_set,fun j hj=>List.getElem?_set_ne (fun e=>hj e.symm),rfl,rfl,fun h=>h,rfl,rfl,rfl⟩
 ·exact Quietly.refl s i
theorem quiet_takeB(s:St)(i:Nat):Quietly s (takeB s i) i:=by
 unfold takeB;split
 ·exact⟨rfl,fun _ _=>rfl,rfl,rfl,fun h=>h,rfl,rfl,rfl⟩
 ·exact Quietly.refl s i
theorem quiet_idle{s:St}{i:Nat}{x:P12.Bx}(hx:s.boxes[i]?=some x)(hr:P12.runs x=false)(e:Int):Quietly s (idleS s i e) i:=by
 unfold idleS;rw[hx];simp only;split
 ·unfold killS goneS
  rw[hx];simp only[hr];exact⟨List.length_set,fun j hj=>List.getElem?_set_ne (fun e=>hj e.symm),rfl,rfl,fun _=>rfl,rfl,rfl,rfl⟩
 ·split
  ·exact Quietly.refl s i
  ·exact⟨rfl,fun _ _=>rfl,rfl,rfl,fun h=>h,rfl,rfl,rfl⟩
theorem Inv.unpin_{s:St}{N:Nat}{f i:Nat}{x:P12.Bx}(h:Inv s N none_)(hL:s.boxes.length≤1000000000)(hx:s.boxes[i]?=some x)(hl:x.st≠3)(hp:x.pin=true):
  Inv (unpin f s ((i:Int)+1)) N none_∧Quietly s (unpin f s ((i:Int)+1)) i:=by
 have h1:=h.pinB_ (fun j e=>e.elim) hx hl false;have hz:(pinB s i false).boxes[i]?=some { x with pin:=false }:=by rw[pinB_eq hx];exact set_same' hx
 have e1:((i:Int)+1).toNat - 1=i:=by omega
 unfold unpin;rw[e1];have hib:idleB s i=P12.idle x:=by unfold idleB;rw[hx]
 rw[hib];split
 ·rename_i hi
  have hst:x.st=1:=by simpa[P12.idle] using hi
  obtain⟨g1,g2⟩:=h1.idle (by rw[(quiet_pinB s i false).len];exact hL) (fun j e=>e) hz ⟨hst,rfl⟩ (s.now+(winS s f).fin);exact⟨g1,(quiet_pinB s i false).trans (quiet_idle hz (by simp[P12.runs,hst]) _)⟩
 ·rename_i hi
  have hst:x.st≠1:=fun e=>hi (by simp[P12.idle,e]);refine⟨h1.settle (fun j e=>e) hz (fun e=>hst e.1) (fun m hm=>?_) (fun t ht=>?_),quiet_pinB s i false⟩
  ·have hb:=(h.bare (fun e=>e) hx (fun e=>by have:=e.2;rw[hp] at this;cases this)).1
   rw[pinB_eq hx] at hm;exact hb _ m hm
  ·have hb:=(h.bare (fun e=>e) hx (fun e=>by have:=e.2;rw[hp] at this;cases this)).2
   rw[pinB_eq hx] at ht;exact hb t ht
theorem Inv.pin1_{s:St}{N:Nat}{i:Nat}{x:P12.Bx}(h:Inv s N none_)(hx:s.boxes[i]?=some x)(hl:x.st≠3):Inv (pin1 s i) N none_∧Quietly s (pin1 s i) i:=by
 obtain⟨t1,t2,t3⟩:=h.take (fun j e=>e.elim) hx;have hx2:(takeB s i).boxes[i]?=some x:=by
  unfold takeB;rw[hx];exact hx
 have hz:(pinB (takeB s i) i true).boxes[i]?=some { x with pin:=true }:=by rw[pinB_eq hx2];exact set_same' hx2
 refine⟨(t1.pinB_ (fun j e=>e) hx2 hl true).settle (fun j e=>e) hz (fun e=>by cases e.2) (fun m hm=>?_) (fun t ht=>?_),(quiet_takeB s i).trans (quiet_pinB _ i true)⟩
 ·rw[pinB_eq hx2] at hm
  exact t2 m hm
 ·rw[pinB_eq hx2] at ht
  exact t3 t ht
theorem Inv.evicts{N k:Nat}(hk:k < 32)(mem:Int):∀ (n:Nat) (s:St),Inv s N none_→s.out.isSome=true→upH s.hosts k=true→mem≤freeAll s k→(s.hosts k).us < n →
  Inv (evictS mem k n s) N none_∧(evictS mem k n s).boxes.length=s.boxes.length∧(evictS mem k n s).fns=s.fns∧(evictS mem k n s).now=s.now∧(evictS mem k n s).tok=s.tok∧(evictS mem k n s).quo=s.quo∧(evictS mem k n s).out.isSome=true∧upH (evictS mem k n s).hosts k=true∧mem≤P13.free ((evictS mem k n s).hosts k) ∧
   (∀ (i:Nat) (x:P12.Bx),s.boxes[i]?=some x→¬ loose x→(evictS mem k n s).boxes[i]?=some x):=by
 intro n
 induction n with
 | zero=>intro s h _ _ _ hu;have:=(h.host k hk).1.us.1;omega
 | succ n ih=>
  intro s h ho hup hfa hus;unfold evictS;split
  ·rename_i hlt
   have hsum:0 < sumB (looseG k) s.boxes:=by have:=freeAll_eq h k;omega
   have hcl:=cac_some h k hsum;obtain⟨i,x,hx,hkk,hh,hlo⟩:=evict_is h k hcl;obtain⟨p1,p2,p3,p4,p5⟩:=h.evict k hk hcl i x hx hkk hh hlo;obtain⟨p6,p7⟩:=p5 hup;have hrn:P12.runs x=false:=by simp[P12.runs,hlo.1]
   have he:evict1 s k=killS { s with cac:=cset s.cac k (HeapPure.drop P09.lt ((s.cac k).getD ([],0)).1 (HeapPure.kk ((s.cac k).getD ([],0)).1 0),max ((s.cac k).getD ([],0)).2 ((HeapPure.vv ((s.cac k).getD ([],0)).1 0).n / (HeapPure.vv ((s.cac k).getD ([],0)).1 0).d)) } i:=by
    unfold evict1;rw[show (HeapPure.kk ((s.cac k).getD ([],0)).1 0)=(i:Int)+1 from hkk,show ((i:Int)+1).toNat - 1=i by omega]
   have f1:(evict1 s k).fns=s.fns∧(evict1 s k).now=s.now∧(evict1 s k).tok=s.tok∧(evict1 s k).quo=s.quo∧(evict1 s k).out.isSome=true∧∀ j,j≠i→(evict1 s k).boxes[j]?=s.boxes[j]?:=by
    rw[he];unfold killS goneS;simp only[hx,hrn];refine⟨?_,?_,?_,?_,?_,?_⟩ <;> first | rfl | trivial | exact fun j hj=>List.getElem?_set_ne (fun e=>hj e.symm)
   obtain⟨q1,q2,q3,q4,q5,q6⟩:=f1;obtain⟨r1,r2,r3,r4,r5,r6,r7,r8,r9,r10⟩:=ih (evict1 s k) p1 q5 p6 (by omega) (by omega);refine⟨r1,r2.trans p2,r3.trans q1,r4.trans q2,r5.trans q3,r6.trans q4,r7,r8,r9,fun j z hj hz=>r10 j z ?_ hz⟩;rw[q6 j (fun e=>by subst e;rw[hx] at hj;cases hj;exact hz hlo)];exact hj
  ·exact⟨h,rfl,rfl,rfl,rfl,rfl,ho,hup,by omega,fun i x hx _=>hx⟩
theorem Inv.room{s:St}{N:Nat}(h:Inv s N none_)(ho:s.out.isSome=true)(mem:Int):
  Inv (roomS s mem).1 N none_∧(roomS s mem).1.boxes.length=s.boxes.length∧(roomS s mem).1.fns=s.fns∧(roomS s mem).1.now=s.now∧(roomS s mem).1.tok=s.tok∧(roomS s mem).1.quo=s.quo∧(roomS s mem).1.out.isSome=true ∧
   (∀ k,(roomS s mem).2=some k→k < 32∧upH (roomS s mem).1.hosts k=true∧mem≤P13.free ((roomS s mem).1.hosts k)) ∧
   (∀ (i:Nat) (x:P12.Bx),s.boxes[i]?=some x→¬ loose x→(roomS s mem).1.boxes[i]?=some x)∧((roomS s mem).2=none→(roomS s mem).1=s):=by
 unfold roomS;cases hf:P13.fitK s.hosts mem 32 with
 | some b=>
  obtain⟨f1,f2,-⟩:=P13.fitK_some s.hosts mem 32 b hf;have f3:=P13.fitK_lt s.hosts mem 32 b hf;exact⟨h,rfl,rfl,rfl,rfl,rfl,ho,(fun k hk=>by cases hk;exact⟨f3,f1,f2⟩),fun i x hx _=>hx,fun e=>by cases e⟩
 | none=>
  simp only;have key:∀ n k,n+k=32→Inv (roomFrom mem n k s).1 N none_∧(roomFrom mem n k s).1.boxes.length=s.boxes.length∧(roomFrom mem n k s).1.fns=s.fns∧(roomFrom mem n k s).1.now=s.now∧(roomFrom mem n k s).1.tok=s.tok∧(roomFrom mem n k s).1.quo=s.quo∧(roomFrom mem n k s).1.out.isSome=true ∧
    (∀ j,(roomFrom mem n k s).2=some j→j < 32∧upH (roomFrom mem n k s).1.hosts j=true∧mem≤P13.free ((roomFrom mem n k s).1.hosts j)) ∧
    (∀ (i:Nat) (x:P12.Bx),s.boxes[i]?=some x→¬ loose x→(roomFrom mem n k s).1.boxes[i]?=some x)∧((roomFrom mem n k s).2=none→(roomFrom mem n k s).1=s):=by
   intro n
   induction n with
   | zero=>intro k _;exact⟨h,rfl,rfl,rfl,rfl,rfl,ho,(fun j e=>by cases e),fun i x hx _=>hx,fun _=>rfl⟩
   | succ n ih=>
    intro k hk;unfold roomFrom;split
    ·rename_i hc
     have hus:=(h.host k (by omega)).1.us;obtain⟨r1,r2,r3,r4,r5,r6,r7,r8,r9,r10⟩:=Inv.evicts (by omega:k < 32) mem 4097 s h ho hc.1 hc.2 (by omega);exact⟨r1,r2,r3,r4,r5,r6,r7,(fun j e=>by cases e;exact⟨by omega,r8,r9⟩),r10,fun e=>by cases e⟩
    ·exact ih (k+1) (by omega)
  exact key 32 0 rfl
theorem bp_some{s:St}{p:P12.Bx→Bool}{id:Int}(h:id ∈ (ids s).filter (bp s p)):∃ (i:Nat) (x:P12.Bx),id=(i:Int)+1∧s.boxes[i]?=some x∧s.live ((i:Int)+1)=true∧p x=true:=by
 rw[List.mem_filter] at h;obtain⟨i,hi,rfl,hl⟩:=ids_is h.1;have hx:s.boxes[i]?=some (s.boxes[i]'hi):=List.getElem?_eq_getElem hi;have h2:=h.2;rw[bp_at hx] at h2;exact⟨i,_,rfl,hx,hl,h2⟩
theorem spareS_is{s:St}{f i:Nat}(h:spareS s f=some i):∃ x:P12.Bx,s.boxes[i]?=some x∧s.live ((i:Int)+1)=true∧x.fn=(f:Int)∧x.pin=false:=by
 have key:∀ (sv:Nat) (id:Int) (l:List Int),spareL s f sv=id :: l→∃ x:P12.Bx,s.boxes[id.toNat - 1]?=some x∧s.live (((id.toNat - 1:Nat):Int)+1)=true∧x.fn=(f:Int)∧x.pin=false:=by
  intro sv id l hl;obtain⟨j,x,rfl,hx,hlv,hp⟩:=bp_some (s:=s) (id:=id) (by unfold spareL at hl;rw[hl];simp);rw[show ((j:Int)+1).toNat - 1=j by omega];simp at hp;exact⟨x,hx,hlv,hp.1.1.1,hp.1.1.2⟩
 unfold spareS at h;split at h
 ·rename_i id l hl
  cases h
  exact key 1 id l hl
 ·split at h
  ·rename_i id l hl
   cases h
   exact key 0 id l hl
  ·split at h
   ·rename_i id l hl
    cases h
    exact key 2 id l hl
   ·cases h
structure Mildly (s t:St):Prop where
 fns:t.fns=s.fns
 now:t.now=s.now
 tok:t.tok=s.tok
 quo:t.quo=s.quo
 out:t.out.isSome=true
theorem Mildly.trans{s t u:St}(h:Mildly s t)(k:Mildly t u):Mildly s u:=⟨k.fns.trans h.fns,k.now.trans h.now,k.tok.trans h.tok,k.quo.trans h.quo,k.out⟩
theorem Quietly.mild{s t:St}{i:Nat}(h:Quietly s t i)(ho:s.out.isSome=true):Mildly s t:=⟨h.fns,h.now,h.tok,h.quo,h.out ho⟩
theorem start_mild(s:St)(f k:Nat)(ho:s.out.isSome=true):Mildly s (startS s f k):=by
 unfold startS;split
 ·exact⟨rfl,rfl,rfl,rfl,ho⟩
 ·exact⟨rfl,rfl,rfl,rfl,rfl⟩
theorem start_box{s:St}{f k:Nat}{y:Fnc}(hy:s.fns f=some y):(startS s f k).boxes[s.boxes.length]?=some ⟨s.next,f,k,y.mem,0,false,false,s.now⟩:=by
 unfold startS;rw[hy];simp
theorem Inv.pinMore_{s:St}{N f:Nat}{y:Fnc}(h:Inv s N none_)(ho:s.out.isSome=true)(hy:s.fns f=some y):
  Inv (pinMore s f).1 N none_∧Mildly s (pinMore s f).1∧s.boxes.length≤(pinMore s f).1.boxes.length∧(pinMore s f).1.boxes.length≤s.boxes.length+1:=by
 unfold pinMore;cases hs:spareS s f with
 | some i=>
  obtain⟨x,hx,hlv,-⟩:=spareS_is hs;obtain⟨g1,g2⟩:=h.pin1_ hx ((h.box i x hx).live.1 hlv);exact⟨g1,g2.mild ho,by rw[g2.len];omega,by rw[g2.len];omega⟩
 | none=>
  simp only;obtain⟨r1,r2,r3,r4,r5,r6,r7,r8,-,-⟩:=h.room ho (memF s f);have hm:memF s f=(y.mem:Int):=by unfold memF;rw[hy]
  have hmr:Mildly s (roomS s (memF s f)).1:=⟨r3,r4,r5,r6,r7⟩;split
  ·rename_i s1 heq
   rw[heq] at r1 r2 hmr;simp only at r2;exact⟨r1,hmr,by show s.boxes.length≤s1.boxes.length;omega,by show s1.boxes.length≤s.boxes.length+1;omega⟩
  ·rename_i s1 k heq
   rw[heq] at r1 r2 r3 r7 r8 hmr;simp only at r1 r2 r3 r7 r8 hmr;obtain⟨k1,k2,k3⟩:=r8 k rfl;have hy1:s1.fns f=some y:=by rw[r3];exact hy
   obtain⟨g1,g2,-⟩:=r1.start hy1 k1 k2 (by rw[← hm];exact k3);obtain⟨g3,g4⟩:=g1.pin1_ (start_box hy1) (fun e=>by cases e);exact⟨g3,hmr.trans ((start_mild s1 f k r7).trans (g4.mild (start_mild s1 f k r7).out)),by rw[g4.len];omega,by rw[g4.len];omega⟩
theorem Inv.pinUp_{N f:Nat}{y:Fnc}:∀ (n:Nat) (s:St),Inv s N none_→s.out.isSome=true→s.fns f=some y →
  Inv (pinUp f n s) N none_∧Mildly s (pinUp f n s)∧s.boxes.length≤(pinUp f n s).boxes.length∧(pinUp f n s).boxes.length≤s.boxes.length+n:=by
 intro n
 induction n with
 | zero=>intro s h ho hy;exact⟨h,⟨rfl,rfl,rfl,rfl,ho⟩,Nat.le_refl _,Nat.le_refl _⟩
 | succ n ih=>
  intro s h ho hy;obtain⟨g1,g2,g3,g4⟩:=h.pinMore_ (f:=f) ho hy;unfold pinUp;split
  ·obtain⟨r1,r2,r3,r4⟩:=ih (pinMore s f).1 g1 g2.out (by rw[g2.fns];exact hy)
   exact⟨r1,g2.trans r2,by omega,by omega⟩
  ·exact⟨g1,g2,by omega,by omega⟩
def unpinned(s:St)(f k:Nat):St:=(((pinnedL s f).drop ((pinnedL s f).length - k)).reverse).foldl (unpin f) s
theorem pinned_is{s:St}{f:Nat}{id:Int}(h:id ∈ pinnedL s f):∃ (i:Nat) (x:P12.Bx),id=(i:Int)+1∧s.boxes[i]?=some x∧s.live ((i:Int)+1)=true∧x.fn=(f:Int)∧x.pin=true:=by
 obtain⟨i,x,h1,h2,h3,h4⟩:=bp_some h;simp at h4;exact⟨i,x,h1,h2,h3,h4.1,h4.2⟩
theorem pinned_nodup(s:St)(f:Nat):(pinnedL s f).Pairwise (· < ·):=(ids_sorted s).filter _
theorem unpinned_zero(s:St)(f:Nat):unpinned s f 0=s:=by
 unfold unpinned;rw[Nat.sub_zero,List.drop_length];rfl
theorem unpinned_succ(s:St)(f k:Nat)(hk:k < (pinnedL s f).length):unpinned s f (k+1)=unpin f (unpinned s f k) ((pinnedL s f).getD ((pinnedL s f).length - 1 - k) 0):=by
 unfold unpinned;generalize pinnedL s f=l at hk ⊢;have e:l.drop (l.length - (k+1))=l.getD (l.length - 1 - k) 0 :: l.drop (l.length - k):=by
  have h1:l.length - (k+1) < l.length:=by omega
  rw[List.drop_eq_getElem_cons h1,List.getD_eq_getElem?_getD,show l.length - 1 - k=l.length - (k+1) by omega,List.getElem?_eq_getElem h1,show l.length - (k+1)+1=l.length - k by omega];rfl
 rw[e,List.reverse_cons,List.foldl_append];rfl
structure Unp (s t:St) (N f k:Nat):Prop where
 inv:Inv t N none_
 len:t.boxes.length=s.boxes.length
 mild:Mildly s t
 box:∀ (j i:Nat),j+k < (pinnedL s f).length→(pinnedL s f).getD j 0=(i:Int)+1→t.boxes[i]?=s.boxes[i]?
theorem getD_mem'{l:List Int}{j:Nat}(h:j < l.length):l.getD j 0 ∈ l:=by
 rw[List.getD_eq_getElem?_getD,List.getElem?_eq_getElem h];exact List.getElem_mem h
theorem getD_lt{l:List Int}(hp:l.Pairwise (· < ·)){i j:Nat}(hij:i < j)(hj:j < l.length):l.getD i 0 < l.getD j 0:=by
 have:=List.pairwise_iff_getElem.1 hp i j (by omega) hj hij;rw[List.getD_eq_getElem?_getD,List.getD_eq_getElem?_getD,List.getElem?_eq_getElem hj,List.getElem?_eq_getElem (by omega)];exact this
theorem Unp.start{s:St}{N:Nat}(h:Inv s N none_)(ho:s.out.isSome=true)(f:Nat):Unp s s N f 0:=⟨h,rfl,⟨rfl,rfl,rfl,rfl,ho⟩,fun _ _ _ _=>rfl⟩
theorem Unp.at_{s t:St}{N f k:Nat}(h:Unp s t N f k)(hI:Inv s N none_)(hk:k < (pinnedL s f).length):∃ (i:Nat) (x:P12.Bx),(pinnedL s f).getD ((pinnedL s f).length - 1 - k) 0=(i:Int)+1∧t.boxes[i]?=some x∧x.fn=(f:Int)∧x.pin=true∧x.st≠3:=by
 obtain⟨i,x,h1,h2,h3,h4,h5⟩:=pinned_is (getD_mem' (l:=pinnedL s f) (j:=(pinnedL s f).length - 1 - k) (by omega));exact⟨i,x,h1,by rw[h.box _ i (by omega) h1];exact h2,h4,h5,(hI.box i x h2).live.1 h3⟩
theorem Unp.next{s t:St}{N f k:Nat}(h:Unp s t N f k)(hI:Inv s N none_)(hL:s.boxes.length≤1000000000)(hk:k < (pinnedL s f).length):Unp s (unpin f t ((pinnedL s f).getD ((pinnedL s f).length - 1 - k) 0)) N f (k+1):=by
 obtain⟨i,x,h1,h2,h3,h4,h5⟩:=h.at_ hI hk;rw[h1];obtain⟨g1,g2⟩:=h.inv.unpin_ (f:=f) (by rw[h.len];exact hL) h2 h5 h4;refine⟨g1,g2.len.trans h.len,h.mild.trans (g2.mild h.mild.out),fun j i' hj e=>?_⟩;have hne:i'≠i:=fun e2=>by
  subst e2;have:=getD_lt (pinned_nodup s f) (i:=j) (j:=(pinnedL s f).length - 1 - k) (by omega) (by omega);omega
 rw[g2.box i' hne];exact h.box j i' (by omega) e
theorem Unp.all{s:St}{N:Nat}(h:Inv s N none_)(ho:s.out.isSome=true)(hL:s.boxes.length≤1000000000)(f:Nat):∀ k,k≤(pinnedL s f).length→Unp s (unpinned s f k) N f k:=by
 intro k
 induction k with
 | zero=>intro _;rw[unpinned_zero];exact Unp.start h ho f
 | succ k ih=>
  intro hk;rw[unpinned_succ s f k (by omega)];exact(ih (by omega)).next h hL (by omega)
theorem keepS_eq{s:St}{f:Nat}{y:Fnc}(hy:s.fns f=some y):keepS f s=pinUp f (y.keep - (pinnedL (unpinned s f ((pinnedL s f).length - y.keep)) f).length) (unpinned s f ((pinnedL s f).length - y.keep)):=by
 unfold keepS;rw[hy];simp only;have e:((pinnedL s f).drop y.keep).reverse.foldl (unpin f) s=unpinned s f ((pinnedL s f).length - y.keep):=by
  unfold unpinned;by_cases hk:y.keep≤(pinnedL s f).length
  ·rw[show (pinnedL s f).length - ((pinnedL s f).length - y.keep)=y.keep by omega]
  ·rw[List.drop_of_length_le (by omega),List.drop_of_length_le (by omega)]
 rw[e]
theorem Inv.keep_{s:St}{N f:Nat}{y:Fnc}(h:Inv s N none_)(ho:s.out.isSome=true)(hL:s.boxes.length≤1000000000)(hy:s.fns f=some y):
  Inv (keepS f s) N none_∧Mildly s (keepS f s)∧s.boxes.length≤(keepS f s).boxes.length∧(keepS f s).boxes.length≤s.boxes.length+1000:=by
 rw[keepS_eq hy];have hu:=Unp.all h ho hL f ((pinnedL s f).length - y.keep) (by omega);obtain⟨g1,g2,g3,g4⟩:=Inv.pinUp_ (f:=f) (y.keep - (pinnedL (unpinned s f ((pinnedL s f).length - y.keep)) f).length) _ hu.inv hu.mild.out (by rw[hu.mild.fns];exact hy);have hl:=hu.len;have hk:=(h.fn f y hy).keep;exact⟨g1,hu.mild.trans g2,by omega,by omega⟩
end Go.Proofs.YtigeldkbfbcpmaaGreat
