/- A part of the proof: what the functions of the program come to, and what holds at all times. -/
import Derived.BigRegion
import Derived.BigQuiet
import Derived.StillTailTactics
import Derived.Test.YtigeldkbfbcpmaaGreatM32
import Derived.Test.YtigeldkbfbcpmaaGreatM28
import Derived.Test.YtigeldkbfbcpmaaGreatM30
set_option linter.unusedVariables false
set_option linter.unusedSectionVars false
set_option linter.unusedSimpArgs false
set_option maxRecDepth 100000
set_option maxHeartbeats 8000000
namespace Go.Proofs.YtigeldkbfbcpmaaGreat
open Go.RowKit Go.Kpt Go.Shelf Go.Maps
theorem function_noacc(s:St)(N:Nat)(hI:Inv s N none_)(e:P16.Evt)(hr:∀ j,0≤e j)(hb:¬ funBad e)(ht:s.tok (e 5).toNat=none)(A:Adr)(w0:World)(F0:Nat→Prop)(w:World)(h:Rs w0 F0 w s A):
  Calls Tryz.prog 47 #[.pointer (some ⟨A.core,0,none⟩),.agg (P16.evc e)] w fun r w'=>r=.returned (.int .i64 (functionS s e).2)∧Ry w0 F0 w' (functionS s e).1 A.core:=by
 have hT:functionS s e=(s,2):=by rw[functionS_eq,if_neg hb,if_pos ht]
 rw[hT];have hr1:=hr 1;have hr5:=hr 5;have hr6:=hr 6;have hr7:=hr 7;have hr8:=hr 8;have hr9:=hr 9;obtain⟨wa,hwa⟩:∃ wa,w.alloc (.cells (P16.evc e) 28)=wa:=⟨_,rfl⟩;have hBa:Below w.heap.size w wa:=by subst hwa;exact(Below.refl _ w).alloc (Nat.le_refl _) _
 have hza:wa.heap.size=w.heap.size+1:=by subst hwa;simp
 have hE:P16.Ev wa w.heap.size e:=by subst hwa;exact P16.Ev.new _ _
 have hRa:=h.fresh hBa;obtain⟨Fx,hFx⟩:∃ Fx:Nat→Prop,(fun x=>Grow F0 w0 w x∧x < w.heap.size)=Fx:=⟨_,rfl⟩;rw[hFx] at hRa;have hFlt:Hid (∀ x,Fx x→x < w.heap.size∧Grow F0 w0 w x):=fun x hx=>by rw[← hFx] at hx;exact⟨hx.2,hx.1⟩
 have HEV:Hid (∀ (W:World) (s':St) (A':Adr),Rs wa Fx W s' A'→P16.Ev W w.heap.size e):=fun W s' A' h'=>(h'.2.block _ (by omega) (fun x=>by have:=(hFlt.out _ x).1;omega)).trans hE;have HNEST:Hid (∀ (W:World) (s':St) (A':Adr),Rs wa Fx W s' A'→Rs w0 F0 W s' A'):=fun W s' A' h'=>Rs.nest h.2 hBa h' (fun x hx=>(hFlt.out x hx).2);have HT:Hid (∀ (W:World) (s':St),Rs wa Fx W s' A→(W.cell? ⟨A.core,2,none⟩=some (.pointer (some ⟨A.quo,0,none⟩))∧W.cell? ⟨A.core,3,none⟩=some (.map (some A.tokM))∧W.cell? ⟨A.core,4,none⟩=some (.map (some A.fnM)))∧W.cell? ⟨w.heap.size,1,none⟩=some (.int .i64 (e 1))∧W.cell? ⟨w.heap.size,5,none⟩=some (.int .i64 (e 5))∧W.cell? ⟨w.heap.size,6,none⟩=some (.int .i64 (e 6))∧W.cell? ⟨w.heap.size,7,none⟩=some (.int .i64 (e 7))∧W.cell? ⟨w.heap.size,8,none⟩=some (.int .i64 (e 8))∧W.cell? ⟨w.heap.size,9,none⟩=some (.int .i64 (e 9))):=fun W s' h'=>by
  obtain⟨-,k1,-,-,-,k5,k6,k7,k8,k9⟩:=(HEV.out W s' A h').ten;exact⟨⟨h'.cc.2.2.1,h'.cc.2.2.2.1,h'.cc.2.2.2.2.1⟩,k1,k5,k6,k7,k8,k9⟩
 have HLF:Hid (∀ (W:World) (s':St),s'.fns=s.fns→Rs wa Fx W s' A→(Instr.lookup 81 (.map (some A.fnM)) (.int .i64 (e 1)) false).run Tryz.prog W=.ok (pv ((s.fns (e 1).toNat).map (fun _=>A.fn (e 1).toNat))) W):=fun W s' e' h'=>by
  have:=h'.1.look_fn (e 1) (WalkArith.wf_i64 (by unfold funBad at hb;omega)) _ (mFn_of (by unfold funBad at hb;omega) _ rfl);rw[e'] at this;exact this
 have HLT:Hid (∀ (W:World) (s':St),s'.tok=s.tok→Rs wa Fx W s' A→(Instr.lookup 80 (.map (some A.tokM)) (.int .i64 (e 5)) false).run Tryz.prog W=.ok (pv ((s.tok (e 5).toNat).map (fun _=>A.tok (e 5).toNat))) W):=fun W s' e' h'=>by
  have:=h'.1.look_tok (e 5) (WalkArith.wf_i64 (by unfold funBad at hb;omega)) _ (mTok_of (by unfold funBad at hb;omega) _ rfl);rw[e'] at this;exact this
 rw[ht] at HLT;simp only[Option.map_none,pv] at HLT;have HRA:=Lib.hid hRa;obtain⟨xv,hxv⟩:∃ v,pv ((s.fns (e 1).toNat).map (fun _=>A.fn (e 1).toNat))=v:=⟨_,rfl⟩;rw[hxv] at HLF;obtain⟨e1,he1⟩:∃ x,e 1=x:=⟨_,rfl⟩;obtain⟨e5,he5⟩:∃ x,e 5=x:=⟨_,rfl⟩;obtain⟨e6,he6⟩:∃ x,e 6=x:=⟨_,rfl⟩;obtain⟨e7,he7⟩:∃ x,e 7=x:=⟨_,rfl⟩;obtain⟨e8,he8⟩:∃ x,e 8=x:=⟨_,rfl⟩;obtain⟨e9,he9⟩:∃ x,e 9=x:=⟨_,rfl⟩;unfold funBad at hb;rw[he1,he5,he6,he7,he8,he9] at hb;rw[he1,he5,he6,he7,he8,he9] at HT;have j1:¬ 64≤e1:=by omega
 have j5:¬ 16≤e5:=by omega
 have j8:¬ 1000 < e8:=by omega
 have j9:¬ 1000 < e9:=by omega
 have j6:¬ e6 < 1:=by omega
 have j6':¬ 4096 < e6:=by omega
 have j7:¬ e7 < 1:=by omega
 have j7':¬ 1000 < e7:=by omega
 rw[he1] at HLF;rw[he5] at HLT;clear h hBa hE hRa hFx hr hr1 hr5 hr6 hr7 hr8 hr9 hza hT hxv ht;simp only[P16.evc,he1,he5,he6,he7,he8,he9] at hwa ⊢;clear he1 he5 he6 he7 he8 he9 hb;go_enter Tryz.func47,Tryz.ntmps47
 go_wp2_with fail
 obtain⟨⟨-,-,b4⟩,c1,-⟩:=HT.out wa.drew s HRA.out.drew;have hlk:=HLF.out wa.drew s rfl HRA.out.drew;refine wp_region_still_tail 7 (by kernel_rfl) (by kernel_rfl) ?_;simp only[List.take_succ_cons,List.take_zero,List.drop_succ_cons,List.drop_zero]
 repeat still_step
 refine wpStill_nil ?_;change wpList _ _ _ _ _ wa.drew;obtain⟨wb,hwb⟩:∃ x,wa.drew=x:=⟨_,rfl⟩;have HRB:Hid (Rs wa Fx wb s A):=by rw[← hwb];exact HRA.out.drew
 rw[hwb];clear hwb;clear b4 hlk c1;obtain⟨-,c1,c5,c6,c7,c8,c9⟩:=HT.out wb s HRB.out;go_wp2_with fail
 clear j1 j5 j8 j9 j6 j6' j7 j7' c1 c5 c6 c7 c8 c9;obtain⟨⟨-,b3,-⟩,-,c5,-⟩:=HT.out wb.drew s HRB.out.drew;have hlt:=HLT.out wb.drew s rfl HRB.out.drew;refine wp_region_still_tail 8 (by kernel_rfl) (by kernel_rfl) ?_;simp only[List.take_succ_cons,List.take_zero,List.drop_succ_cons,List.drop_zero]
 repeat still_step
 refine wpStill_nil ?_;change wpList _ _ _ _ _ wb.drew;obtain⟨wc,hwc⟩:∃ x,wb.drew=x:=⟨_,rfl⟩;have HRC:Hid (Rs wa Fx wc s A):=by rw[← hwc];exact HRB.out.drew
 rw[hwc];clear hwc;clear b3 c5 hlt;go_wp2_with fail
 go_ret
 exact⟨rfl,(HNEST.out _ _ _ HRC.out).ry⟩
theorem function_clash(s:St)(N:Nat)(hI:Inv s N none_)(e:P16.Evt)(hr:∀ j,0≤e j)(hb:¬ funBad e)(t:Bkt)(ht:s.tok (e 5).toNat=some t)(y:Fnc)(hy:s.fns (e 1).toNat=some y)(hc:clash s e=true)(A:Adr)(w0:World)(F0:Nat→Prop)(w:World)(h:Rs w0 F0 w s A):
  Calls Tryz.prog 47 #[.pointer (some ⟨A.core,0,none⟩),.agg (P16.evc e)] w fun r w'=>r=.returned (.int .i64 (functionS s e).2)∧Ry w0 F0 w' (functionS s e).1 A.core:=by
 have hT:functionS s e=(s,3):=by rw[functionS_eq,if_neg hb,if_neg (by rw[ht];exact Option.some_ne_none t),if_pos hc]
 rw[hT];have hr1:=hr 1;have hr5:=hr 5;have hr6:=hr 6;have hr7:=hr 7;have hr8:=hr 8;have hr9:=hr 9;obtain⟨wa,hwa⟩:∃ wa,w.alloc (.cells (P16.evc e) 28)=wa:=⟨_,rfl⟩;have hBa:Below w.heap.size w wa:=by subst hwa;exact(Below.refl _ w).alloc (Nat.le_refl _) _
 have hza:wa.heap.size=w.heap.size+1:=by subst hwa;simp
 have hE:P16.Ev wa w.heap.size e:=by subst hwa;exact P16.Ev.new _ _
 have hRa:=h.fresh hBa;obtain⟨Fx,hFx⟩:∃ Fx:Nat→Prop,(fun x=>Grow F0 w0 w x∧x < w.heap.size)=Fx:=⟨_,rfl⟩;rw[hFx] at hRa;have hFlt:Hid (∀ x,Fx x→x < w.heap.size∧Grow F0 w0 w x):=fun x hx=>by rw[← hFx] at hx;exact⟨hx.2,hx.1⟩
 have HEV:Hid (∀ (W:World) (s':St) (A':Adr),Rs wa Fx W s' A'→P16.Ev W w.heap.size e):=fun W s' A' h'=>(h'.2.block _ (by omega) (fun x=>by have:=(hFlt.out _ x).1;omega)).trans hE;have HNEST:Hid (∀ (W:World) (s':St) (A':Adr),Rs wa Fx W s' A'→Rs w0 F0 W s' A'):=fun W s' A' h'=>Rs.nest h.2 hBa h' (fun x hx=>(hFlt.out x hx).2);have HT:Hid (∀ (W:World) (s':St),Rs wa Fx W s' A→(W.cell? ⟨A.core,2,none⟩=some (.pointer (some ⟨A.quo,0,none⟩))∧W.cell? ⟨A.core,3,none⟩=some (.map (some A.tokM))∧W.cell? ⟨A.core,4,none⟩=some (.map (some A.fnM)))∧W.cell? ⟨w.heap.size,1,none⟩=some (.int .i64 (e 1))∧W.cell? ⟨w.heap.size,5,none⟩=some (.int .i64 (e 5))∧W.cell? ⟨w.heap.size,6,none⟩=some (.int .i64 (e 6))∧W.cell? ⟨w.heap.size,7,none⟩=some (.int .i64 (e 7))∧W.cell? ⟨w.heap.size,8,none⟩=some (.int .i64 (e 8))∧W.cell? ⟨w.heap.size,9,none⟩=some (.int .i64 (e 9))):=fun W s' h'=>by
  obtain⟨-,k1,-,-,-,k5,k6,k7,k8,k9⟩:=(HEV.out W s' A h').ten;exact⟨⟨h'.cc.2.2.1,h'.cc.2.2.2.1,h'.cc.2.2.2.2.1⟩,k1,k5,k6,k7,k8,k9⟩
 have HLF:Hid (∀ (W:World) (s':St),s'.fns=s.fns→Rs wa Fx W s' A→(Instr.lookup 81 (.map (some A.fnM)) (.int .i64 (e 1)) false).run Tryz.prog W=.ok (pv ((s.fns (e 1).toNat).map (fun _=>A.fn (e 1).toNat))) W):=fun W s' e' h'=>by
  have:=h'.1.look_fn (e 1) (WalkArith.wf_i64 (by unfold funBad at hb;omega)) _ (mFn_of (by unfold funBad at hb;omega) _ rfl);rw[e'] at this;exact this
 have HLT:Hid (∀ (W:World) (s':St),s'.tok=s.tok→Rs wa Fx W s' A→(Instr.lookup 80 (.map (some A.tokM)) (.int .i64 (e 5)) false).run Tryz.prog W=.ok (pv ((s.tok (e 5).toNat).map (fun _=>A.tok (e 5).toNat))) W):=fun W s' e' h'=>by
  have:=h'.1.look_tok (e 5) (WalkArith.wf_i64 (by unfold funBad at hb;omega)) _ (mTok_of (by unfold funBad at hb;omega) _ rfl);rw[e'] at this;exact this
 have HFC:Hid (∀ (W:World),Rs wa Fx W s A→W.cell? ⟨A.fn (e 1).toNat,0,none⟩=some (.int .i64 y.account)∧W.cell? ⟨A.fn (e 1).toNat,1,none⟩=some (.int .i64 y.mem)):=fun W h'=>⟨(cell_of (h'.1.fn hy).1).trans rfl,(cell_of (h'.1.fn hy).1).trans rfl⟩;rw[ht] at HLT;rw[hy] at HLF;simp only[Option.map_some,pv] at HLT HLF;have hcl:¬ ((y.account:Int)=e 5∧(y.mem:Int)=e 6):=fun hh=>by
  unfold clash at hc;rw[hy] at hc;simp[hh.1,hh.2] at hc
 have HRA:=Lib.hid hRa;obtain⟨tp,htp⟩:∃ v,A.tok (e 5).toNat=v:=⟨_,rfl⟩;obtain⟨fp,hfp⟩:∃ v,A.fn (e 1).toNat=v:=⟨_,rfl⟩;obtain⟨ya,hya⟩:∃ v:Int,(y.account:Int)=v:=⟨_,rfl⟩;obtain⟨ym,hym⟩:∃ v:Int,(y.mem:Int)=v:=⟨_,rfl⟩;rw[htp] at HLT;rw[hfp] at HLF HFC;rw[hya,hym] at HFC hcl;obtain⟨e1,he1⟩:∃ x,e 1=x:=⟨_,rfl⟩;obtain⟨e5,he5⟩:∃ x,e 5=x:=⟨_,rfl⟩;obtain⟨e6,he6⟩:∃ x,e 6=x:=⟨_,rfl⟩;obtain⟨e7,he7⟩:∃ x,e 7=x:=⟨_,rfl⟩;obtain⟨e8,he8⟩:∃ x,e 8=x:=⟨_,rfl⟩;obtain⟨e9,he9⟩:∃ x,e 9=x:=⟨_,rfl⟩;unfold funBad at hb;rw[he1,he5,he6,he7,he8,he9] at hb;rw[he1,he5,he6,he7,he8,he9] at HT;have j1:¬ 64≤e1:=by omega
 have j5:¬ 16≤e5:=by omega
 have j8:¬ 1000 < e8:=by omega
 have j9:¬ 1000 < e9:=by omega
 have j6:¬ e6 < 1:=by omega
 have j6':¬ 4096 < e6:=by omega
 have j7:¬ e7 < 1:=by omega
 have j7':¬ 1000 < e7:=by omega
 rw[he1] at HLF;rw[he5] at HLT;rw[he5,he6] at hcl;clear h hBa hE hRa hFx hr hr1 hr5 hr6 hr7 hr8 hr9 hza hT ht hy hc htp hfp hya hym;simp only[P16.evc,he1,he5,he6,he7,he8,he9] at hwa ⊢;clear he1 he5 he6 he7 he8 he9 hb;go_enter Tryz.func47,Tryz.ntmps47
 go_wp2_with fail
 obtain⟨⟨-,-,b4⟩,c1,-⟩:=HT.out wa.drew s HRA.out.drew;have hlk:=HLF.out wa.drew s rfl HRA.out.drew;refine wp_region_still_tail 7 (by kernel_rfl) (by kernel_rfl) ?_;simp only[List.take_succ_cons,List.take_zero,List.drop_succ_cons,List.drop_zero]
 repeat still_step
 refine wpStill_nil ?_;change wpList _ _ _ _ _ wa.drew;obtain⟨wb,hwb⟩:∃ x,wa.drew=x:=⟨_,rfl⟩;have HRB:Hid (Rs wa Fx wb s A):=by rw[← hwb];exact HRA.out.drew
 rw[hwb];clear hwb;clear b4 hlk c1;obtain⟨-,c1,c5,c6,c7,c8,c9⟩:=HT.out wb s HRB.out;go_wp2_with fail
 clear j1 j5 j8 j9 j6 j6' j7 j7' c1 c5 c6 c7 c8 c9;obtain⟨⟨-,b3,-⟩,-,c5,-⟩:=HT.out wb.drew s HRB.out.drew;have hlt:=HLT.out wb.drew s rfl HRB.out.drew;refine wp_region_still_tail 8 (by kernel_rfl) (by kernel_rfl) ?_;simp only[List.take_succ_cons,List.take_zero,List.drop_succ_cons,List.drop_zero]
 repeat still_step
 refine wpStill_nil ?_;change wpList _ _ _ _ _ wb.drew;obtain⟨wc,hwc⟩:∃ x,wb.drew=x:=⟨_,rfl⟩;have HRC:Hid (Rs wa Fx wc s A):=by rw[← hwc];exact HRB.out.drew
 rw[hwc];clear hwc;clear b3 c5 hlt;go_wp2_with fail
 obtain⟨-,-,c5,c6,-⟩:=HT.out wc.drew s HRC.out.drew;obtain⟨g0,g1⟩:=HFC.out wc.drew HRC.out.drew;by_cases ha:ya=e5
 ·have hm:¬ ym=e6:=fun e=>hcl ⟨ha,e⟩
  clear hcl;subst ha;refine wp_region_still_tail 20 (by kernel_rfl) (by kernel_rfl) ?_;simp only[List.take_succ_cons,List.take_zero,List.drop_succ_cons,List.drop_zero]
  repeat still_step
  refine wpStill_nil ?_;change wpList _ _ _ _ _ wc.drew;clear g0 g1 c5 c6;go_wp2_with fail
  go_ret
  exact⟨rfl,(HNEST.out _ _ _ HRC.out.drew).ry⟩
 ·clear hcl
  refine wp_region_still_tail 20 (by kernel_rfl) (by kernel_rfl) ?_;simp only[List.take_succ_cons,List.take_zero,List.drop_succ_cons,List.drop_zero]
  repeat still_step
  refine wpStill_nil ?_;change wpList _ _ _ _ _ wc.drew;clear g0 g1 c5 c6;go_wp2_with fail
  go_ret
  exact⟨rfl,(HNEST.out _ _ _ HRC.out.drew).ry⟩
end Go.Proofs.YtigeldkbfbcpmaaGreat
namespace Go.Proofs.YtigeldkbfbcpmaaGreat
open Go.RowKit Go.Kpt Go.Shelf
theorem booted_yes(s:St)(N:Nat)(hI:Inv s N none_)(hN:N < 4095)(hL:s.boxes.length≤997000000)(hout:s.out.isSome=true)(A:Adr)(w0:World)(F0:Nat→Prop)(i:Nat)(x:P12.Bx)(hx:s.boxes[i]?=some x)(hn:(Lit.int .i64 ((i:Int)+1)).wf=true)(hl:isLive s ((i:Int)+1)=true)(hm:(mBox s A ((i:Int)+1)).getD none=some (A.box i))(hb:(P12.booted x s.now).2=true)(w:World)(h:Rs w0 F0 w s A):
  Calls Tryz.prog 53 #[.pointer (some ⟨A.core,0,none⟩),.int .i64 ((i:Int)+1)] w fun e w'=>e=.returned (.int .i64 (bootedS s ((i:Int)+1)).2)∧Rx w0 F0 w' (bootedS s ((i:Int)+1)).1 A s.boxes.length:=by
 have c7:=h.cc.2.2.2.2.2.2.2.1;have c0:=h.cc.1;have hlk:=h.1.look_box ((i:Int)+1) hn (some (A.box i)) hm;simp only[pv] at hlk;have hbo:=booted_rs h i x hx (hI.box i x hx).st s.now;rw[hb] at hbo;obtain⟨f0,f1,f2,f3,f4,f5,f6,f7,f8,f9⟩:=booted_facts hb;obtain⟨gI,gx,gl⟩:=hI.bootH_ hx hb;obtain⟨z,hz⟩:∃ z,(P12.booted x s.now).1=z:=⟨_,rfl⟩;rw[hz] at f1 f2 f3 f4 f5 f6 f7 f8 f9 gx hbo;obtain⟨f,hf,hxf,y,hy,-⟩:=(hI.box i x hx).fn;have hfo:=hI.fn f y hy;obtain⟨T,hT⟩:∃ T,bootedS s ((i:Int)+1)=T:=⟨_,rfl⟩;have hTe:=bootedS_yes hx hl hb;rw[hz,hT] at hTe;rw[hT];have hT2:T.2=0:=by rw[hTe]
 rw[hT2];have hbe:bootH s i x={ s with boxes:=s.boxes.set i z,unt:=gdel s.unt ((i:Int)+1) }:=by unfold bootH;rw[hz]
 obtain⟨t,ht⟩:∃ t,bootH s i x=t:=⟨_,rfl⟩;rw[ht] at gI gx gl hTe hbe;have tfn:t.fns f=some y:=by rw[hbe];exact hy
 have tnow:t.now=s.now:=by rw[hbe]
 have tout:t.out.isSome=true:=by rw[hbe];exact hout
 have hws:winS s x.fn.toNat=win y.his y.ring:=by unfold winS;rw[hxf,show (f:Int).toNat=f by omega,hy]
 rw[hws] at hTe;have HI:=Lib.hid hI;have HGI:=Lib.hid gI;have HT:=Lib.hid hTe;have HBE:=Lib.hid hbe;have hzf:z.fn=(f:Int):=f2.trans hxf;have hidl:∀ (W':World) (en:Int),Rs w0 F0 W' t A→Calls Tryz.prog 97 #[.pointer (some ⟨A.core,0,none⟩),.pointer (some ⟨A.box i,0,none⟩),.int .i64 en] W' fun e w'=>e=.returned (.tuple #[])∧∃ cac:Nat→Nat,Rs w0 F0 w' (idleS t i en) { A with cac:=cac }:=fun W' en h'=>
  idle_any t N (only i) gI (by omega) (outl t) (out_some tout) (out_len gI (by omega)) A w0 F0 i z gx f6 en W' h'
 have HID:=Lib.hid hidl;have hwn:∀ W',Rs w0 F0 W' t A→Calls Tryz.prog 30 #[.pointer (some ⟨A.core,0,none⟩),.int .i64 f] W' fun e w'=>e=.returned (win y.his y.ring).val∧Below W'.heap.size W' w':=fun W' h'=>window_any t A _ f hf y tfn N hfo.his (by omega) W' h'.1;have hwb:=win_bd y.his y.ring N hfo.his;obtain⟨wv,hwv⟩:∃ v,win y.his y.ring=v:=⟨_,rfl⟩;rw[hwv] at hwn hwb HT;obtain⟨wk,wp,wf⟩:=wv;simp only[Win.val] at hwn hwb HT;have hnow:=hI.now;obtain⟨now,hnw⟩:∃ n,s.now=n:=⟨_,rfl⟩;rw[hnw] at tnow HT hnow c0 hbo;have HWN:=Lib.hid hwn;have hq1:IntKind.i64.wrap (now+(wf:Int))=now+(wf:Int):=IntWalk.i64_in _ ⟨by omega,by omega⟩;have hq2:wrap64 (now+(wf:Int))=now+(wf:Int):=IntWalk.wrap64_in _ ⟨by omega,by omega⟩;have hfield:∀ w,(Instr.field 59 (.agg #[.int .i64 wk,.int .i64 wp,.int .i64 wf]) 2).run Tryz.prog w=.ok (.int .i64 wf) w:=fun w=>by kernel_rfl
 have HTF:=Lib.hid (And.intro gx (And.intro tfn (And.intro tnow (And.intro hzf (And.intro f5 f7)))));have HZ4:=Lib.hid f5;have HSU:=Lib.hid (show t={ s with boxes:=s.boxes.set i z,unt:=gdel s.unt ((i:Int)+1) } from hbe);clear h hI gI hTe hbe hidl hwn gx tfn tnow tout hzf f0 f1 f2 f3 f4 f5 f6 f7 f8 f9 hfo hy hx hwb hnow hws hT ht hz hwv gl hT2 hb;go_enter Tryz.func53,Tryz.ntmps53
 go_wp2_with fail
 refine hbo.mono ?_;clear hbo;rintro e w1 ⟨rfl,h1⟩;have c8:=h1.cc.2.2.2.2.2.2.2.2.1;obtain⟨cu,hum,hunt⟩:=h1.1.untTurn;have hur:=um_run hum ((i:Int)+1) hn;dsimp only at hur hum;obtain⟨ut,hut⟩:∃ u,s.unt=u:=⟨_,rfl⟩;obtain⟨u0,hu0⟩:∃ u0,(ut ((i:Int)+1)).getD 0=u0:=⟨_,rfl⟩;obtain⟨ub,hub⟩:∃ ub,(ut ((i:Int)+1)).isSome=ub:=⟨_,rfl⟩;rw[hut,hu0,hub] at hur;have H1:=Lib.hid (And.intro h1 (And.intro hunt hum));have HUT:=Lib.hid (And.intro hut (And.intro hu0 hub));rw[hut] at H1;clear h1 hunt hum c7 c0 hlk hut hu0 hub;have HST:=Lib.hid (show z.st < 4 from HZ4.out);have HC:Hid (∀ W,Rs w0 F0 W t A→W.cell? ⟨A.core,0,none⟩=some (.int .i64 now)∧W.cell? ⟨A.box i,1,none⟩=some (.int .i64 f)):=fun W h=>by
  obtain⟨-,d1,-⟩:=(h.bq HTF.out.1).cells;rw[HTF.out.2.2.2.1] at d1;have d0:=h.cc.1;rw[HTF.out.2.2.1] at d0;exact⟨d0,d1⟩
 have HQ:=Lib.hid (And.intro hfield (And.intro hq1 hq2));clear hfield hq1 hq2;have hu3:Hid ((ut ((i:Int)+1)).isSome=ub∧(ut ((i:Int)+1)).getD 0=u0∧s.unt=ut):=⟨HUT.out.2.2,HUT.out.2.1,HUT.out.1⟩;cases ub
 ·go_wp2_with (at_delete;go_loud (refine wpList_gm_del (Y:=intK) (E:=i64E) _ rfl _ _ rfl Tryz.underlying85 A.untM cu ut rfl H1.out.2.2 ((i:Int)+1) rfl hn ?_;intro w2 hum2 hk2))
  have h2:Rs w0 F0 w2 t A:=by
   rw[HSU.out];have:=H1.out.2.1 w2 _ (gdel ut ((i:Int)+1)) hum2 hk2;rw[← HUT.out.1,← hnw] at this;exact H1.out.1.next this.1 this.2
  clear hum2 hk2;have hue:Hid ((s.unt ((i:Int)+1)).getD (now+(wf:Int))=now+(wf:Int)):=by
   show _=_;have h1:=hu3.out.1;rw[hu3.out.2.2];cases hx:ut ((i:Int)+1) with
   | none=>rfl
   | some v=>rw[hx] at h1;cases h1
  obtain⟨hfield,hq1,hq2⟩:=HQ.out;obtain⟨d0,d1⟩:=HC.out w2.drew h2.drew;have hwn:=HWN.out w2.drew h2.drew;have H2:=Lib.hid h2.drew;clear h2;go_region_held3 (fun W=>W.cell? ⟨A.core,0,none⟩=some (.int .i64 now)∧W.cell? ⟨A.box i,1,none⟩=some (.int .i64 f)) (first | exact⟨d0,d1⟩ | exact⟨d0',d1'⟩)
   (first | (go_at_call 30;with_reducible refine hwn.mono ?_;rintro e w3 ⟨rfl,hB3⟩;have h3:=H2.out.below hB3;obtain⟨d0',d1'⟩:=HC.out w3 h3))
  clear hwn hB3 d0 d1 d0' d1' hfield hq1 hq2;have hid:=isIdle_rs h3 i z HTF.out.1 HST.out;obtain⟨-,-,-,-,-,-,d6,-⟩:=(h3.bq HTF.out.1).cells;rw[HTF.out.2.2.2.2.2] at d6;have hile:=HID.out w3 (now+(wf:Int)) h3;have hrs:=Lib.hid h3;obtain⟨bi,hbi⟩:∃ b,P12.idle z=b:=⟨_,rfl⟩;obtain⟨pn,hpn⟩:∃ b,x.pin=b:=⟨_,rfl⟩;rw[hbi] at hid;rw[hpn] at d6;have HBI:=Lib.hid (And.intro hbi hpn);have hTT:Hid (T.1=if bi=true∧pn=false then idleS t i (now+(wf:Int)) else t):=by
   show T.1=_;rw[HT.out,← hbi,← hpn,hue.out]
  clear hbi hpn;clear h3;have hTY0:Hid (bi=true→pn=false→T.1=idleS t i (now+(wf:Int))):=fun a b=>by rw[hTT.out,if_pos ⟨a,b⟩]
  cases bi
  ·go_wp2_with fail
   refine hid.mono ?_;rintro e w4 ⟨rfl,rfl⟩;go_wp2_with fail
   go_ret
   exact⟨rfl,by rw[hTT.out,if_neg (fun e=>by cases e.1)];exact hrs.out.rx _⟩
  ·cases pn
   ·have hTY:Hid (T.1=idleS t i (now+(wf:Int))):=hTY0.out rfl rfl
    clear hTY0;go_wp2_with fail
    refine hid.mono ?_;rintro e w4 ⟨rfl,rfl⟩;go_wp2_with fail
    refine hile.mono ?_;rintro e w5 ⟨rfl,cac,h5⟩;go_wp2_with fail
    go_ret
    exact⟨rfl,by rw[hTY.out];exact⟨cac,A.box,fun _ _=>rfl,h5⟩⟩
   ·go_wp2_with fail
    refine hid.mono ?_;rintro e w4 ⟨rfl,rfl⟩;go_wp2_with fail
    go_ret
    exact⟨rfl,by rw[hTT.out,if_neg (fun e=>by cases e.2)];exact hrs.out.rx _⟩
 ·go_wp2_with (at_delete;go_loud (refine wpList_gm_del (Y:=intK) (E:=i64E) _ rfl _ _ rfl Tryz.underlying85 A.untM cu ut rfl H1.out.2.2 ((i:Int)+1) rfl hn ?_;intro w2 hum2 hk2))
  have h2:Rs w0 F0 w2 t A:=by
   rw[HSU.out];have:=H1.out.2.1 w2 _ (gdel ut ((i:Int)+1)) hum2 hk2;rw[← HUT.out.1,← hnw] at this;exact H1.out.1.next this.1 this.2
  clear hum2 hk2;have hue:Hid ((s.unt ((i:Int)+1)).getD (now+(wf:Int))=u0):=by
   show _=_;have h1:=hu3.out.1;have h2:=hu3.out.2.1;rw[hu3.out.2.2];cases hx:ut ((i:Int)+1) with
   | none=>rw[hx] at h1;cases h1
   | some v=>rw[hx] at h2;exact h2
  have hid:=isIdle_rs h2 i z HTF.out.1 HST.out;obtain⟨-,-,-,-,-,-,d6,-⟩:=(h2.bq HTF.out.1).cells;rw[HTF.out.2.2.2.2.2] at d6;have hile:=HID.out w2 (u0) h2;have hrs:=Lib.hid h2;obtain⟨bi,hbi⟩:∃ b,P12.idle z=b:=⟨_,rfl⟩;obtain⟨pn,hpn⟩:∃ b,x.pin=b:=⟨_,rfl⟩;rw[hbi] at hid;rw[hpn] at d6;have HBI:=Lib.hid (And.intro hbi hpn);have hTT:Hid (T.1=if bi=true∧pn=false then idleS t i (u0) else t):=by
   show T.1=_;rw[HT.out,← hbi,← hpn,hue.out]
  clear hbi hpn;clear h2;have hTY0:Hid (bi=true→pn=false→T.1=idleS t i (u0)):=fun a b=>by rw[hTT.out,if_pos ⟨a,b⟩]
  cases bi
  ·go_wp2_with fail
   refine hid.mono ?_;rintro e w4 ⟨rfl,rfl⟩;go_wp2_with fail
   go_ret
   exact⟨rfl,by rw[hTT.out,if_neg (fun e=>by cases e.1)];exact hrs.out.rx _⟩
  ·cases pn
   ·have hTY:Hid (T.1=idleS t i (u0)):=hTY0.out rfl rfl
    clear hTY0;go_wp2_with fail
    refine hid.mono ?_;rintro e w4 ⟨rfl,rfl⟩;go_wp2_with fail
    refine hile.mono ?_;rintro e w5 ⟨rfl,cac,h5⟩;go_wp2_with fail
    go_ret
    exact⟨rfl,by rw[hTY.out];exact⟨cac,A.box,fun _ _=>rfl,h5⟩⟩
   ·go_wp2_with fail
    refine hid.mono ?_;rintro e w4 ⟨rfl,rfl⟩;go_wp2_with fail
    go_ret
    exact⟨rfl,by rw[hTT.out,if_neg (fun e=>by cases e.2)];exact hrs.out.rx _⟩
theorem fnStore_rs{w0 w:World}{F0:Nat→Prop}{s:St}{A:Adr}(h:Rs w0 F0 w s A){f:Nat}{x:Fnc}(hx:s.fns f=some x)(j:Nat)(v:Value)(y:Fnc)(e1:y.his=x.his)(e2:y.ring=x.ring)(he:(fcells x (A.his f) (A.rng f)).setIfInBounds j v=fcells y (A.his f) (A.rng f)):
  Rs w0 F0 (w.setCell ⟨A.fn f,j,none⟩ v) { s with fns:=fset s.fns f y } A:=by
 obtain⟨h1,h2⟩:=h.1.fnTurn f x hx;have h3:=set_same (i:=j) v h1;rw[he] at h3;obtain⟨r1,r2⟩:=h2 _ y e1 e2 h3 (Kept.set1 _ _ _ _);exact h.next r1 r2
theorem Inv.doneT_{s:St}{N i:Nat}{x:P12.Bx}(h:Inv s N none_)(hx:s.boxes[i]?=some x)(hb:(P12.done x s.now).2=true):Inv (doneT s i x) N (only i):=by
 have hbo:=h.box i x hx;obtain⟨g1,g2,g3⟩:=h.doneH_ hx hb;obtain⟨f,hf,hxf,y,hy,hmem⟩:=hbo.fn;have hff:x.fn.toNat=f:=by omega
 have hyh:(doneH s i x).fns f=some { y with last:=s.now }:=by
  unfold doneH;simp only;rw[hff,lastF_at hy];exact fset_same _ _ _
 have hfo:=g1.fn f _ hyh;have k:=g1.fnset (y:={ y with last:=s.now,fin:=s.now+(winS s f).fin }) (M:=N) hyh rfl ⟨hfo.lt,hfo.acc,hfo.tok,hfo.mem,hfo.cost,hfo.keep,hfo.often,hfo.last,hfo.qacc,hfo.his⟩ (fun g' u hg hu=>(g1.fn g' u hu).his);have k':=k.timset_ (f:=f) (by show (fset _ _ _ f).isSome=true;rw[fset_same];rfl) ⟨s.now+(winS s f).pre,1,f⟩;have e:doneT s i x={ doneH s i x with fns:=fset (doneH s i x).fns f { y with last:=s.now,fin:=s.now+(winS s f).fin },tim:=HeapPure.setAt P14.lt (doneH s i x).tim (1,(f:Int)) ⟨s.now+(winS s f).pre,1,f⟩ }:=by
  unfold doneT;rw[hff,hyh,hxf]
 rw[e];exact k'
theorem done_yes(s:St)(N:Nat)(hI:Inv s N none_)(hN:N < 4095)(hL:s.boxes.length≤997000000)(hout:s.out.isSome=true)(A:Adr)(w0:World)(F0:Nat→Prop)(i:Nat)(x:P12.Bx)(hx:s.boxes[i]?=some x)(hn:(Lit.int .i64 ((i:Int)+1)).wf=true)(hl:isLive s ((i:Int)+1)=true)(hm:(mBox s A ((i:Int)+1)).getD none=some (A.box i))(hb:(P12.done x s.now).2=true)(w:World)(h:Rs w0 F0 w s A):
  Calls Tryz.prog 55 #[.pointer (some ⟨A.core,0,none⟩),.int .i64 ((i:Int)+1)] w fun e w'=>e=.returned (.int .i64 (doneS s ((i:Int)+1)).2)∧Rx w0 F0 w' (doneS s ((i:Int)+1)).1 A s.boxes.length:=by
 have c7:=h.cc.2.2.2.2.2.2.2.1;have c0:=h.cc.1;have hlk:=h.1.look_box ((i:Int)+1) hn (some (A.box i)) hm;simp only[pv] at hlk;have hbo:=hI.box i x hx;have hdo:=done_rs h i x hx hbo.st s.now;rw[hb] at hdo;obtain⟨f0,f1,f2,f3,f4,f5,f6,f7,f8,f9⟩:=done_facts hbo.bound hb;obtain⟨gI,gx,gl⟩:=hI.doneH_ hx hb;obtain⟨f,hf,hxf,y,hy,hmem⟩:=hbo.fn;obtain⟨hk,hkl,hxk⟩:=hbo.host;have hff:x.fn.toNat=f:=by omega
 have hkk:x.host.toNat=hk:=by omega
 obtain⟨z,hz⟩:∃ z,(P12.done x s.now).1=z:=⟨_,rfl⟩;rw[hz] at f1 f2 f3 f4 f5 f6 f7 f8 gx hdo;have hfo:=hI.fn f y hy;obtain⟨T,hT⟩:∃ T,doneS s ((i:Int)+1)=T:=⟨_,rfl⟩;have hTe:=doneS_yes hx hl hb;rw[hT,hff,hkk] at hTe;rw[hT];have hT2:T.2=0:=by rw[hTe]
 rw[hT2];obtain⟨t,ht⟩:∃ t,doneH s i x=t:=⟨_,rfl⟩;have hte:{ s with boxes:=s.boxes.set i z,quo:=endQ s.quo f,fns:=fset s.fns f { y with last:=s.now } }=t:=by
  rw[← ht];unfold doneH;rw[hff,lastF_at hy,hz]
 have tfn:t.fns f=some { y with last:=s.now }:=by rw[← hte];exact fset_same _ _ _
 have tnow:t.now=s.now:=by rw[← hte]
 have tout:t.out.isSome=true:=by rw[← hte];exact hout
 have thos:t.hosts=s.hosts:=by rw[← hte]
 have hws:winS s f=win y.his y.ring:=by unfold winS;rw[hy]
 have hDT:doneT s i x={ t with fns:=fset t.fns f { y with last:=s.now,fin:=s.now+(win y.his y.ring).fin },tim:=HeapPure.setAt P14.lt t.tim (1,(f:Int)) ⟨s.now+(win y.his y.ring).pre,1,f⟩ }:=by
  unfold doneT;rw[hff,ht,tfn,hws,hxf]
 rw[ht] at gI gx gl hTe;rw[hws] at hTe;have HI:=Lib.hid hI;have HGI:=Lib.hid gI;have HT:=Lib.hid hTe;have HDT:=Lib.hid hDT;have HDI:Hid (Inv (doneT s i x) N (only i)):=hI.doneT_ hx hb;have HTE:=Lib.hid hte;have hzf:z.fn=(f:Int):=f2.trans hxf;have hzk:z.host=(hk:Int):=f3.trans hxk;have hwb:=win_bd y.his y.ring N hfo.his;have HWN:Hid (∀ W,Rs w0 F0 W t A→Calls Tryz.prog 30 #[.pointer (some ⟨A.core,0,none⟩),.int .i64 f] W fun e w'=>e=.returned (win y.his y.ring).val∧Below W.heap.size W w'):=fun W h'=>window_any t A _ f hf { y with last:=s.now } tfn N hfo.his (by omega) W h'.1;obtain⟨wv,hwv⟩:∃ v,win y.his y.ring=v:=⟨_,rfl⟩;rw[hwv] at HWN hwb HT HDT;obtain⟨wk,wp,wf⟩:=wv;simp only[Win.val] at HWN hwb HT HDT;have hend:=fun W (h':Rs w0 F0 W { s with boxes:=s.boxes.set i z } A)=>end_rs h' f hf (hI.quo.1 f hf);have HEND:=Lib.hid hend;have HP:=Lib.hid (And.intro gx (And.intro tfn (And.intro tnow (And.intro tout (And.intro thos (And.intro hzf (And.intro hzk (And.intro f5 (And.intro f6 (And.intro hfo hI.now))))))))));have HY:=Lib.hid hy;have HZ:=Lib.hid hz;have HBZ:Hid ((s.boxes.set i z)[i]?=some z):=set_same' hx;clear h hI gI hTe hend gx tfn tnow tout thos hzf hzk f0 f1 f2 f3 f4 f5 f6 f7 f8 f9 hfo hy hx hws hT hT2 hb hDT hte hbo hz ht hmem hff hkk hxf hxk hm;obtain⟨now,hnw⟩:∃ n,s.now=n:=⟨_,rfl⟩;rw[hnw] at c0 hdo;go_enter Tryz.func55,Tryz.ntmps55
 go_wp2_with fail
 refine hdo.mono ?_;clear hdo;rintro e w1 ⟨rfl,h1⟩;have b2:=h1.drew.cc.2.2.1;obtain⟨-,b1,-⟩:=(h1.drew.bq (i:=i) (x:=z) HBZ.out).cells;rw[HP.out.2.2.2.2.2.1] at b1;have hen:=HEND.out w1.drew (by rw[← hnw] at h1;exact h1.drew);have HQ1:=Lib.hid h1;clear h1 c7 c0 hlk;go_wp2_with fail
 refine wp_region_still_tail 8 (by kernel_rfl) (by kernel_rfl) ?_;simp only[List.take_succ_cons,List.take_zero,List.drop_succ_cons,List.drop_zero]
 repeat still_step
 refine wpStill_nil ?_;change wpList _ _ _ _ _ w1.drew;clear b2 b1;go_wp2_with fail
 refine hen.mono ?_;clear hen;rintro e w2 ⟨⟨be,rfl⟩,h2⟩;have c4:=h2.cc.2.2.2.2.1;obtain⟨-,b1,-⟩:=(h2.bq (i:=i) (x:=z) HBZ.out).cells;rw[HP.out.2.2.2.2.2.1] at b1;have hlkf:=fun n=>(h2.drewN n).1.look_fn (f:Int) (WalkArith.wf_i64 (by omega)) (some (A.fn f)) (by unfold mFn;rw[if_pos (by omega),show (f:Int).toNat=f by omega];show (Option.map _ (s.fns f)).getD none=_;rw[HY.out];rfl);simp only[pv] at hlkf;have H2:=Lib.hid h2;clear h2;go_wp2_with fail
 go_quiet (fail)
 have h3:=H2.out.drewN nq;obtain⟨w3,hw3⟩:∃ w3,w2.drewN nq=w3:=⟨_,rfl⟩;rw[hw3] at h3 ⊢;have d0:=h3.cc.1;rw[show ({ s with boxes:=s.boxes.set i z,quo:=endQ s.quo f }:St).now=now from hnw] at d0;have hfc:=(h3.1.fn (f:=f) (x:=y) HY.out).1;have d5:w3.cell? ⟨A.fn f,5,none⟩=some (.int .i64 y.last):=(cell_of hfc).trans rfl;have fr5:=frozen_of (j:=5) hfc;have h4:Rs w0 F0 (w3.setCell ⟨A.fn f,5,none⟩ (.int .i64 now)) t A:=by
  rw[← HTE.out,← hnw];exact fnStore_rs h3 (f:=f) (x:=y) HY.out 5 (.int .i64 s.now) { y with last:=s.now } rfl rfl rfl
 have hwn:=HWN.out _ h4;obtain⟨-,b14,-⟩:=(h4.bq HP.out.1).cells;rw[HP.out.2.2.2.2.2.1] at b14;have H4:=Lib.hid h4;clear hw3 hlkf c4 b1 h3 hfc h4;have HW4:=Lib.hid (And.intro hl (And.intro hn (And.intro hwb gl)));clear hl hn hwb gl;go_wp2_with fail
 refine hwn.mono ?_;clear hwn;rintro e w5 ⟨rfl,hB5⟩;clear d0 d5 fr5 b14;generalize w3.setCell ⟨A.fn f,5,none⟩ (.int .i64 now)=w4 at *;obtain⟨w6,hw6⟩:∃ w6,w5.alloc (.cells #[.int .i64 wk,.int .i64 wp,.int .i64 wf] 59)=w6:=⟨_,rfl⟩;go_wp2_with fail
 have hB6:Below w5.heap.size w5 w6:=by rw[← hw6];exact(Below.refl _ w5).alloc (Nat.le_refl _) _
 have hz6:w6.heap.size=w5.heap.size+1:=by rw[← hw6];simp
 have hc6:w6.heap[w5.heap.size]?=some (.cells #[.int .i64 wk,.int .i64 wp,.int .i64 wf] 59 (0,0)):=by rw[← hw6];exact heap_alloc_new _ _
 have hB46:Below w4.heap.size w4 w6:=hB5.trans (hB6.mono hB5.size);have hR6:=H4.out.fresh hB46;obtain⟨Fx,hFx⟩:∃ Fx:Nat→Prop,(fun x=>Grow F0 w0 w4 x∧x < w4.heap.size)=Fx:=⟨_,rfl⟩;rw[hFx] at hR6;have hFlt:Hid (∀ x,Fx x→x < w4.heap.size∧Grow F0 w0 w4 x):=fun x hx=>by rw[← hFx] at hx;exact⟨hx.2,hx.1⟩
 obtain⟨wb,hwbb⟩:∃ b,w5.heap.size=b:=⟨_,rfl⟩;have hw45:w4.heap.size≤wb:=by rw[← hwbb];exact hB5.size
 rw[hwbb] at hz6 hc6 ⊢;have HC:Hid (∀ (W:World) (t':St) (A':Adr),A'.core=A.core→A'.box=A.box→A'.hosts=A.hosts→A'.tim=A.tim→t'.now=now→t'.boxes[i]?=some z→Rs w6 Fx W t' A'→W.cell? ⟨wb,1,none⟩=some (.int .i64 wp)∧W.cell? ⟨wb,2,none⟩=some (.int .i64 wf)∧W.cell? ⟨A.core,0,none⟩=some (.int .i64 now)∧W.cell? ⟨A.core,5,none⟩=some (.pointer (some ⟨A.hosts,0,none⟩))∧W.cell? ⟨A.core,9,none⟩=some (.pointer (some ⟨A.tim,0,none⟩)) ∧
   W.cell? ⟨A.box i,1,none⟩=some (.int .i64 f)∧W.cell? ⟨A.box i,2,none⟩=some (.int .i64 hk)∧W.cell? ⟨A.box i,6,none⟩=some (.bool x.pin)):=fun W t' A' e1 e2 e3 e5 e4 hzb h=>by
  have hb:W.heap[wb]?=some (.cells #[.int .i64 wk,.int .i64 wp,.int .i64 wf] 59 (0,0)):=(h.2.block _ (by omega) (fun e=>by have:=(hFlt.out _ e).1;omega)).trans hc6;obtain⟨-,q1,q2,-,-,-,q6,-⟩:=(h.bq hzb).cells;have q0:=h.cc.1;have q5:=h.cc.2.2.2.2.2.1;have q9:=h.cc.2.2.2.2.2.2.2.2.2.1;rw[e4,e1] at q0;rw[e1,e3] at q5;rw[e1,e5] at q9;rw[e2] at q1 q2 q6;rw[HP.out.2.2.2.2.2.1] at q1;rw[HP.out.2.2.2.2.2.2.1] at q2;rw[HP.out.2.2.2.2.2.2.2.2.1] at q6;exact⟨(cell_of hb).trans rfl,(cell_of hb).trans rfl,q0,q5,q9,q1,q2,q6⟩
 obtain⟨x1,x2,x0,x5,x9,q1,q2,q6⟩:=HC.out w6 t A rfl rfl rfl rfl (HP.out.2.2.1.trans hnw) HP.out.1 hR6;have hup:∀ n,Calls Tryz.prog 100 #[.pointer (some ⟨A.hosts,0,none⟩),.int .i64 hk] (w6.drewN n) fun e w'=>e=.returned (.bool (upH s.hosts hk))∧w6.drewN n=w':=fun n=>by
  rw[← HP.out.2.2.2.2.1];exact P13.up_any A.hosts t.hosts hk hkl (w6.drewN n) (hR6.drewN n).1.hostsAt.1
 obtain⟨ub,hub⟩:∃ b,upH s.hosts hk=b:=⟨_,rfl⟩;rw[hub] at hup;have HUB:=Lib.hid hub;have H6:=Lib.hid (And.intro hR6 (And.intro hB46 hFx));clear hub hB6 hz6 hc6 hB46 hR6 hFx hw6 hB5 hw45 hwbb;clear x1 x2 x0 x9 q1 q6;go_quiet ((go_at_call 100;exact Calls.quiet_of_same ((hup _).mono fun e w' ⟨h1,h2⟩=>⟨h1,h2.symm⟩)))
 have h7:=H6.out.1.drewN nq;obtain⟨w7,hw7⟩:∃ w7,w6.drewN nq=w7:=⟨_,rfl⟩;rw[hw7] at h7 ⊢;clear hw7 hup x5 q2;have H7:=Lib.hid h7;have HNEST:Hid (∀ (W:World) (t':St) (A':Adr),Rs w6 Fx W t' A'→Rs w0 F0 W t' A'):=fun W t' A' h=>Rs.nest H4.out.2 H6.out.2.1 h (fun x hx=>(hFlt.out x hx).2);have HKL:Hid (∀ W (t':St),Inv t' N (only i)→t'.boxes=t.boxes→t'.out.isSome=true→Rs w6 Fx W t' A→Calls Tryz.prog 70 #[.pointer (some ⟨A.core,0,none⟩),.pointer (some ⟨A.box i,0,none⟩)] W fun e w'=>e=.returned (.tuple #[])∧∃ cac:Nat→Nat,Rs w6 Fx w' (killS t' i) { A with cac:=cac }):=fun W t' hi hbx ho h=>
  kill_any t' N hi.low (outl t') (out_some ho) (out_len hi (by rw[hbx];have:=HW4.out.2.2.2;omega)) A w6 Fx i (by have:=get_lt HP.out.1;have:=HW4.out.2.2.2;omega) z (by rw[hbx];exact HP.out.1) (by rw[HP.out.2.2.2.2.2.2.2.1];decide) W h
 cases ub
 ·have hki:=HKL.out w7 t HGI.out rfl HP.out.2.2.2.1 h7
  have hTT:Hid (T.1=killS t i):=by show _=_;rw[HT.out,if_pos HUB.out]
  clear h7;go_wp2_with fail
  refine hki.mono ?_;rintro e w8 ⟨rfl,cac,h8⟩;go_wp2_with fail
  go_ret
  refine⟨rfl,?_⟩;rw[hTT.out];exact⟨cac,A.box,fun _ _=>rfl,HNEST.out _ _ _ h8⟩
 obtain⟨x1,x2,x0,x5,x9,q1,q2,q6⟩:=HC.out w7 t A rfl rfl rfl rfl (HP.out.2.2.1.trans hnw) HP.out.1 h7;obtain⟨pn,hpn⟩:∃ b,x.pin=b:=⟨_,rfl⟩;rw[hpn] at q6;cases pn
 ·by_cases hwp:0 < wp
  ·have hwp2:(0:Int) < (wp:Int):=by omega
   have hTT:Hid (T.1=killS (doneT s i x) i):=by show _=_;rw[HT.out,if_neg (by rw[HUB.out];exact Bool.noConfusion),if_neg (by rw[hpn];exact Bool.noConfusion),if_pos hwp]
   have hq1:IntKind.i64.wrap (now+(wf:Int))=now+(wf:Int):=IntWalk.i64_in _ ⟨by have:=HP.out.2.2.2.2.2.2.2.2.2.2;omega,by have:=HP.out.2.2.2.2.2.2.2.2.2.2;have:=HW4.out.2.2.1;omega⟩;have hq2:wrap64 (now+(wf:Int))=now+(wf:Int):=IntWalk.wrap64_in _ ⟨by have:=HP.out.2.2.2.2.2.2.2.2.2.2;omega,by have:=HP.out.2.2.2.2.2.2.2.2.2.2;have:=HW4.out.2.2.1;omega⟩;have hq3:IntKind.i64.wrap (now+(wp:Int))=now+(wp:Int):=IntWalk.i64_in _ ⟨by have:=HP.out.2.2.2.2.2.2.2.2.2.2;omega,by have:=HP.out.2.2.2.2.2.2.2.2.2.2;have:=HW4.out.2.2.1;omega⟩;have hq4:wrap64 (now+(wp:Int))=now+(wp:Int):=IntWalk.wrap64_in _ ⟨by have:=HP.out.2.2.2.2.2.2.2.2.2.2;omega,by have:=HP.out.2.2.2.2.2.2.2.2.2.2;have:=HW4.out.2.2.1;omega⟩;have HQ:=Lib.hid (And.intro hq3 hq4);clear hq3 hq4 x2 x0 x5 x9 q1 q2;obtain⟨-,y2,y0,-⟩:=HC.out w7.drew t A rfl rfl rfl rfl (HP.out.2.2.1.trans hnw) HP.out.1 h7.drew;have hfc:=(h7.drew.1.fn HP.out.2.1).1;have d6:w7.drew.cell? ⟨A.fn f,6,none⟩=some (.int .i64 y.fin):=(cell_of hfc).trans rfl;have fr6:=frozen_of (j:=6) hfc;obtain⟨t1,ht1⟩:∃ t1:St,{ t with fns:=fset t.fns f { y with last:=s.now,fin:=now+(wf:Int) } }=t1:=⟨_,rfl⟩;have h8:Rs w6 Fx (w7.setCell ⟨A.fn f,6,none⟩ (.int .i64 (now+(wf:Int)))).drew t1 A:=by
    rw[← ht1];exact fnStore_rs h7.drew HP.out.2.1 6 _ { y with last:=s.now,fin:=now+(wf:Int) } rfl rfl rfl
   have H8:=Lib.hid h8;have e1:t1.now=now:=by rw[← ht1];exact HP.out.2.2.1.trans hnw
   have e2:t1.boxes=t.boxes:=by rw[← ht1]
   have e3:t1.tim=t.tim:=by rw[← ht1]
   have e4:({ t1 with tim:=HeapPure.setAt P14.lt t1.tim (1,(f:Int)) ⟨now+(wp:Int),1,f⟩ }:St)=doneT s i x:=by rw[HDT.out,← ht1,hnw]
   have HE:=Lib.hid (And.intro e1 (And.intro e2 (And.intro e3 e4)));clear h7 hfc h8 ht1 e1 e2 e3 e4;go_wp2_with fail
   refine wp_region_still_tail 10 (by kernel_rfl) (by kernel_rfl) ?_;simp only[List.take_succ_cons,List.take_zero,List.drop_succ_cons,List.drop_zero]
   repeat still_step
   refine wpStill_nil ?_;change wpList _ _ _ _ _ w7.drew;go_wp2_with fail
   clear y2 y0 d6 fr6 hq1 hq2 x1 q6;generalize (w7.setCell ⟨A.fn f,6,none⟩ (.int .i64 (now+(wf:Int)))).drew=w8 at *;obtain⟨hq3,hq4⟩:=HQ.out;obtain⟨y1,-,y0,-,y9,p1,-,-⟩:=HC.out w8.drew t1 A rfl rfl rfl rfl HE.out.1 (by rw[HE.out.2.1];exact HP.out.1) H8.out.drew;have htl:=tim_len HGI.out;have hts:=tset_rs H8.out.drew (1,(f:Int)) ⟨(by decide:(Lit.int .i64 1).wf=true),WalkArith.wf_i64 (by omega)⟩ (now+(wp:Int)) (by rw[HE.out.2.2.1];have:=HW4.out.2.2.2;omega);dsimp only at hts;rw[HE.out.2.2.2] at hts;clear htl;refine wp_region_still_tail 16 (by kernel_rfl) (by kernel_rfl) ?_;simp only[List.take_succ_cons,List.take_zero,List.drop_succ_cons,List.drop_zero]
   repeat still_step
   refine wpStill_nil ?_;change wpList _ _ _ _ _ w8.drew;clear y1 y0 y9 p1 hq3 hq4;go_wp2_with fail
   refine hts.mono ?_;clear hts;rintro e w9 ⟨rfl,h9⟩;have hki:=HKL.out w9 (doneT s i x) HDI.out (by rw[HDT.out]) (by rw[HDT.out];exact HP.out.2.2.2.1) h9;clear h9;go_wp2_with fail
   refine hki.mono ?_;rintro e w10 ⟨rfl,cac,h10⟩;go_wp2_with fail
   go_ret
   refine⟨rfl,?_⟩;rw[hTT.out];exact⟨cac,A.box,fun _ _=>rfl,HNEST.out _ _ _ h10⟩
  ·have hwp2:¬ (0:Int) < (wp:Int):=by omega
   have hTT:Hid (T.1=idleS t i (now+(wf:Int))):=by show _=_;rw[HT.out,if_neg (by rw[HUB.out];exact Bool.noConfusion),if_neg (by rw[hpn];exact Bool.noConfusion),if_neg hwp,hnw]
   have hq1:IntKind.i64.wrap (now+(wf:Int))=now+(wf:Int):=IntWalk.i64_in _ ⟨by have:=HP.out.2.2.2.2.2.2.2.2.2.2;omega,by have:=HP.out.2.2.2.2.2.2.2.2.2.2;have:=HW4.out.2.2.1;omega⟩;have hq2:wrap64 (now+(wf:Int))=now+(wf:Int):=IntWalk.wrap64_in _ ⟨by have:=HP.out.2.2.2.2.2.2.2.2.2.2;omega,by have:=HP.out.2.2.2.2.2.2.2.2.2.2;have:=HW4.out.2.2.1;omega⟩;clear x2 x0 x5 x9 q1 q2;obtain⟨-,y2,y0,-⟩:=HC.out w7.drew t A rfl rfl rfl rfl (HP.out.2.2.1.trans hnw) HP.out.1 h7.drew;have hid:=idle_any t N (only i) HGI.out (by have:=HW4.out.2.2.2;omega) (outl t) (out_some HP.out.2.2.2.1) (out_len HGI.out (by have:=HW4.out.2.2.2;omega)) A w6 Fx i z HP.out.1 (by rw[HP.out.2.2.2.2.2.2.2.1];decide) (now+(wf:Int)) w7.drew h7.drew;clear h7;go_wp2_with fail
   refine wp_region_still_tail 9 (by kernel_rfl) (by kernel_rfl) ?_;simp only[List.take_succ_cons,List.take_zero,List.drop_succ_cons,List.drop_zero]
   repeat still_step
   refine wpStill_nil ?_;change wpList _ _ _ _ _ w7.drew;clear y2 y0 hq1 hq2 x1 q6;go_wp2_with fail
   refine hid.mono ?_;rintro e w8 ⟨rfl,cac,h8⟩;go_wp2_with fail
   go_ret
   refine⟨rfl,?_⟩;rw[hTT.out];exact⟨cac,A.box,fun _ _=>rfl,HNEST.out _ _ _ h8⟩
 ·have hTT:Hid (T.1=t):=by show _=_;rw[HT.out,if_neg (by rw[HUB.out];exact Bool.noConfusion),if_pos hpn]
  clear h7 hpn x1 x2 x0 x5 x9 q1 q2;go_wp2_with fail
  go_ret
  refine⟨rfl,?_⟩;rw[hTT.out];exact(HNEST.out _ _ _ H7.out).rx _
end Go.Proofs.YtigeldkbfbcpmaaGreat
namespace Go.Proofs.YtigeldkbfbcpmaaGreat
open Go.RowKit Go.Kpt Go.Shelf Go.Maps
theorem setF_rs{w0 w:World}{F0:Nat→Prop}{s:St}{A:Adr}(h:Rs w0 F0 w s A)(hg:P11.Good s.quo)(f a n:Int)(hf:0≤f∧f < 64)(ha:0≤a∧a < 16)(hn:0≤n∧n≤1000)(hth:(s.quo.ac a.toNat).th=true)(hfa:(s.quo.fs f.toNat).th=false∨(s.quo.fs f.toNat).acc=a.toNat):
  (¬ (P11.rs s.quo.fs a.toNat 64 - (s.quo.fs f.toNat).res+n > (s.quo.ac a.toNat).lim)→Calls Tryz.prog 75 #[.pointer (some ⟨A.quo,0,none⟩),.int .i64 f,.int .i64 a,.int .i64 n] w fun e w'=>e=.returned (.int .i64 0)∧Rs w0 F0 w' { s with quo:=s.quo.setF f.toNat ⟨true,a.toNat,n,(s.quo.fs f.toNat).bu⟩ } A) ∧
  (P11.rs s.quo.fs a.toNat 64 - (s.quo.fs f.toNat).res+n > (s.quo.ac a.toNat).lim→Calls Tryz.prog 75 #[.pointer (some ⟨A.quo,0,none⟩),.int .i64 f,.int .i64 a,.int .i64 n] w fun e w'=>e=.returned (.int .i64 4)∧Rs w0 F0 w' s A):=by
 obtain⟨hq,hnx⟩:=h.1.quoTurn;obtain⟨k,rfl⟩:∃ k:Nat,f=(k:Int):=⟨f.toNat,by omega⟩;obtain⟨m,rfl⟩:∃ m:Nat,a=(m:Int):=⟨a.toNat,by omega⟩;simp only[Int.toNat_natCast] at hth hfa ⊢;refine⟨fun h1=>?_,fun h1=>?_⟩
 ·refine(P11.setF_t A.quo s.quo hg k m (by omega) (by omega) n hn.1 hn.2 hth hfa (by omega) w hq).mono ?_
  rintro e w' ⟨rfl,h3,h4⟩;obtain⟨r1,r2⟩:=hnx w' _ h3 h4;exact⟨rfl,h.next r1 r2⟩
 ·refine(P11.setF_f A.quo s.quo hg k m (by omega) (by omega) n hn.1 hn.2 hth hfa h1 w hq).mono ?_
  rintro e w' ⟨rfl,hB⟩;exact⟨rfl,h.below hB⟩
theorem costs_rs{w0 w:World}{F0:Nat→Prop}{s:St}{A:Adr}(h:Rs w0 F0 w s A){f:Nat}{x:Fnc}(hx:s.fns f=some x){c k:Int}(hc:0≤c)(hk:0≤k):
  (w.cell? ⟨A.fn f,2,none⟩=some (.int .i64 x.cost)∧w.frozen? ⟨A.fn f,2,none⟩=false) ∧
  Rs w0 F0 (w.setCell ⟨A.fn f,2,none⟩ (.int .i64 c)) { s with fns:=fset s.fns f { x with cost:=c.toNat } } A ∧
  ((w.setCell ⟨A.fn f,2,none⟩ (.int .i64 c)).cell? ⟨A.fn f,3,none⟩=some (.int .i64 x.keep)∧(w.setCell ⟨A.fn f,2,none⟩ (.int .i64 c)).frozen? ⟨A.fn f,3,none⟩=false) ∧
  Rs w0 F0 ((w.setCell ⟨A.fn f,2,none⟩ (.int .i64 c)).setCell ⟨A.fn f,3,none⟩ (.int .i64 k)) { s with fns:=fset s.fns f { x with cost:=c.toNat,keep:=k.toNat } } A:=by
 have e1:((c.toNat:Nat):Int)=c:=by omega
 have e2:((k.toNat:Nat):Int)=k:=by omega
 have h1:=(h.1.fn hx).1;have r1:Rs w0 F0 (w.setCell ⟨A.fn f,2,none⟩ (.int .i64 c)) { s with fns:=fset s.fns f { x with cost:=c.toNat } } A:=fnStore_rs h hx 2 _ { x with cost:=c.toNat } rfl rfl (by unfold fcells;simp only[e1];rfl);have h2:=(r1.1.fn (f:=f) (x:={ x with cost:=c.toNat }) (fset_same _ _ _)).1;have r2:=fnStore_rs r1 (f:=f) (x:={ x with cost:=c.toNat }) (fset_same _ _ _) 3 (.int .i64 k) { x with cost:=c.toNat,keep:=k.toNat } rfl rfl (by unfold fcells;simp only[e2];rfl);simp only[fset_fset] at r2;exact⟨⟨(cell_of h1).trans rfl,frozen_of h1⟩,r1,⟨(cell_of h2).trans rfl,frozen_of h2⟩,r2⟩
end Go.Proofs.YtigeldkbfbcpmaaGreat
