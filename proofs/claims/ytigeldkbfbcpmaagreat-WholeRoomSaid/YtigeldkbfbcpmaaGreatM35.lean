/- A part of the proof: what the functions of the program come to, and what holds at all times. -/
import Derived.Deep.RegionHeld3
import Derived.Test.YtigeldkbfbcpmaaGreatM33
import Derived.Test.YtigeldkbfbcpmaaGreatM25
set_option linter.unusedVariables false
set_option linter.unusedSectionVars false
set_option linter.unusedSimpArgs false
set_option maxRecDepth 100000
set_option maxHeartbeats 8000000
namespace Go.Proofs.YtigeldkbfbcpmaaGreat
open Go.RowKit Go.Kpt Go.Shelf Go.Maps
theorem function_old_ok(s:St)(N:Nat)(hI:Inv s N none_)(e:P16.Evt)(hr:∀ j,0≤e j)(hb:¬ funBad e)(t:Bkt)(ht:s.tok (e 5).toNat=some t)(y:Fnc)(hy:s.fns (e 1).toNat=some y)(hc:clash s e=false)(hq:¬ (e 8 > 0∧e 9 > e 8))(hsm:¬ funSum s e)(hN:N < 4095)(hL:s.boxes.length≤997000000)(hout:s.out.isSome=true)(A:Adr)(w0:World)(F0:Nat→Prop)(w:World)(h:Rs w0 F0 w s A):
  Calls Tryz.prog 47 #[.pointer (some ⟨A.core,0,none⟩),.agg (P16.evc e)] w fun r w'=>r=.returned (.int .i64 (functionS s e).2)∧Ry w0 F0 w' (functionS s e).1 A.core:=by
 have hT:functionS s e=(keepS (e 1).toNat (funT s e),0):=by rw[functionS_eq,if_neg hb,if_neg (by rw[ht];exact Option.some_ne_none t),if_neg (by rw[hc];exact Bool.noConfusion),if_neg hq,if_neg hsm]
 rw[hT];have hr1:=hr 1;have hr5:=hr 5;have hr6:=hr 6;have hr7:=hr 7;have hr8:=hr 8;have hr9:=hr 9;obtain⟨wa,hwa⟩:∃ wa,w.alloc (.cells (P16.evc e) 28)=wa:=⟨_,rfl⟩;have hBa:Below w.heap.size w wa:=by subst hwa;exact(Below.refl _ w).alloc (Nat.le_refl _) _
 have hza:wa.heap.size=w.heap.size+1:=by subst hwa;simp
 have hE:P16.Ev wa w.heap.size e:=by subst hwa;exact P16.Ev.new _ _
 have hRa:=h.fresh hBa;obtain⟨Fx,hFx⟩:∃ Fx:Nat→Prop,(fun x=>Grow F0 w0 w x∧x < w.heap.size)=Fx:=⟨_,rfl⟩;rw[hFx] at hRa;have hFlt:Hid (∀ x,Fx x→x < w.heap.size∧Grow F0 w0 w x):=fun x hx=>by rw[← hFx] at hx;exact⟨hx.2,hx.1⟩
 have HEV:Hid (∀ (W:World) (s':St) (A':Adr),Rs wa Fx W s' A'→P16.Ev W w.heap.size e):=fun W s' A' h'=>(h'.2.block _ (by omega) (fun x=>by have:=(hFlt.out _ x).1;omega)).trans hE;have HNEST:Hid (∀ (W:World) (s':St) (A':Adr),Rs wa Fx W s' A'→Rs w0 F0 W s' A'):=fun W s' A' h'=>Rs.nest h.2 hBa h' (fun x hx=>(hFlt.out x hx).2);have HT:Hid (∀ (W:World) (s':St),Rs wa Fx W s' A→(W.cell? ⟨A.core,2,none⟩=some (.pointer (some ⟨A.quo,0,none⟩))∧W.cell? ⟨A.core,3,none⟩=some (.map (some A.tokM))∧W.cell? ⟨A.core,4,none⟩=some (.map (some A.fnM)))∧W.cell? ⟨w.heap.size,1,none⟩=some (.int .i64 (e 1))∧W.cell? ⟨w.heap.size,5,none⟩=some (.int .i64 (e 5))∧W.cell? ⟨w.heap.size,6,none⟩=some (.int .i64 (e 6))∧W.cell? ⟨w.heap.size,7,none⟩=some (.int .i64 (e 7))∧W.cell? ⟨w.heap.size,8,none⟩=some (.int .i64 (e 8))∧W.cell? ⟨w.heap.size,9,none⟩=some (.int .i64 (e 9))):=fun W s' h'=>by
  obtain⟨-,k1,-,-,-,k5,k6,k7,k8,k9⟩:=(HEV.out W s' A h').ten;exact⟨⟨h'.cc.2.2.1,h'.cc.2.2.2.1,h'.cc.2.2.2.2.1⟩,k1,k5,k6,k7,k8,k9⟩
 have HLF:Hid (∀ (W:World) (s':St),s'.fns=s.fns→Rs wa Fx W s' A→(Instr.lookup 81 (.map (some A.fnM)) (.int .i64 (e 1)) false).run Tryz.prog W=.ok (pv ((s.fns (e 1).toNat).map (fun _=>A.fn (e 1).toNat))) W):=fun W s' e' h'=>by
  have:=h'.1.look_fn (e 1) (WalkArith.wf_i64 (by unfold funBad at hb;omega)) _ (mFn_of (by unfold funBad at hb;omega) _ rfl);rw[e'] at this;exact this
 have HLT:Hid (∀ (W:World) (s':St),s'.tok=s.tok→Rs wa Fx W s' A→(Instr.lookup 80 (.map (some A.tokM)) (.int .i64 (e 5)) false).run Tryz.prog W=.ok (pv ((s.tok (e 5).toNat).map (fun _=>A.tok (e 5).toNat))) W):=fun W s' e' h'=>by
  have:=h'.1.look_tok (e 5) (WalkArith.wf_i64 (by unfold funBad at hb;omega)) _ (mTok_of (by unfold funBad at hb;omega) _ rfl);rw[e'] at this;exact this
 have HFC:Hid (∀ (W:World),Rs wa Fx W s A→W.cell? ⟨A.fn (e 1).toNat,0,none⟩=some (.int .i64 y.account)∧W.cell? ⟨A.fn (e 1).toNat,1,none⟩=some (.int .i64 y.mem)):=fun W h'=>⟨(cell_of (h'.1.fn hy).1).trans rfl,(cell_of (h'.1.fn hy).1).trans rfl⟩;have hcl:(y.account:Int)=e 5∧(y.mem:Int)=e 6:=by
  unfold clash at hc;rw[hy] at hc;simp at hc;omega
 rw[hcl.1,hcl.2] at HFC;have hfa:(s.quo.fs (e 1).toNat).th=false∨(s.quo.fs (e 1).toNat).acc=(e 5).toNat:=by
  right
  rw[(hI.fn _ y hy).qacc];omega
 have hsf:=fun (W:World) (h':Rs wa Fx W s A)=>setF_rs h' hI.quo (e 1) (e 5) (e 8) (by unfold funBad at hb;omega) (by unfold funBad at hb;omega) (by unfold funBad at hb;omega) (by rw[hI.qa _ (by unfold funBad at hb;omega),ht];rfl) hfa;have HSF:=Lib.hid (fun W h'=>(hsf W h').1 hsm);have hFI:=hI.funT_ hr hb (by rw[ht];exact Option.some_ne_none t) hc;have hfy:(funT s e).fns (e 1).toNat=some (newFn s e):=fset_same _ _ _;have HKP:Hid (∀ (W:World) (A':Adr),A'.core=A.core→Rs wa Fx W (funT s e) A'→Calls Tryz.prog 78 #[.pointer (some ⟨A.core,0,none⟩),.int .i64 (e 1)] W fun r w'=>r=.returned (.tuple #[])∧Ry wa Fx w' (keepS (e 1).toNat (funT s e)) A.core):=fun W A' e' h'=>by
  have:=keep_any (funT s e) N hFI hN (by show s.boxes.length≤_;omega) hout A' wa Fx (e 1).toNat (newFn s e) hfy W h';rw[show (((e 1).toNat:Nat):Int)=e 1 by omega,e'] at this;refine this.mono ?_;rintro r w' ⟨rfl,h9⟩;have:=h9.ry;rw[e'] at this;exact⟨rfl,this⟩
 have HNY:Hid (∀ (W:World) (t':St),Ry wa Fx W t' A.core→Ry w0 F0 W t' A.core):=fun W t' h'=>by
  obtain⟨A',e',h'⟩:=h';exact⟨A',e',HNEST.out _ _ _ h'⟩
 have HST:Hid (∀ W,Rs wa Fx W { s with quo:=s.quo.setF (e 1).toNat ⟨true,(e 5).toNat,e 8,(s.quo.fs (e 1).toNat).bu⟩ } A→w.heap.size≠A.fn (e 1).toNat∧(W.cell? ⟨A.fn (e 1).toNat,2,none⟩=some (.int .i64 y.cost)∧W.frozen? ⟨A.fn (e 1).toNat,2,none⟩=false) ∧
   Rs wa Fx (W.setCell ⟨A.fn (e 1).toNat,2,none⟩ (.int .i64 (e 7))) { s with quo:=s.quo.setF (e 1).toNat ⟨true,(e 5).toNat,e 8,(s.quo.fs (e 1).toNat).bu⟩,fns:=fset s.fns (e 1).toNat { y with cost:=(e 7).toNat } } A∧((W.setCell ⟨A.fn (e 1).toNat,2,none⟩ (.int .i64 (e 7))).cell? ⟨A.fn (e 1).toNat,3,none⟩=some (.int .i64 y.keep)∧(W.setCell ⟨A.fn (e 1).toNat,2,none⟩ (.int .i64 (e 7))).frozen? ⟨A.fn (e 1).toNat,3,none⟩=false) ∧
   Rs wa Fx ((W.setCell ⟨A.fn (e 1).toNat,2,none⟩ (.int .i64 (e 7))).setCell ⟨A.fn (e 1).toNat,3,none⟩ (.int .i64 (e 9))) (funT s e) A):=fun W h'=>by
  have q1:=costs_rs h' (f:=(e 1).toNat) (x:=y) hy hr7 hr9;have hF:=(h'.1.fn (f:=(e 1).toNat) (x:=y) hy).2.2.2.1;refine⟨fun x=>?_,q1.1,q1.2.1,q1.2.2.1,?_⟩
  ·rcases hF with h1 | h1
   ·have:=(hFlt.out _ h1).1;omega
   ·have:=h1.1;omega
  ·have e9:funT s e={ s with quo:=s.quo.setF (e 1).toNat ⟨true,(e 5).toNat,e 8,(s.quo.fs (e 1).toNat).bu⟩,fns:=fset s.fns (e 1).toNat { y with cost:=(e 7).toNat,keep:=(e 9).toNat } }:=by
    unfold funT newFn;rw[hy]
   rw[e9];exact q1.2.2.2
 have HEV9:Hid (∀ (W:World) (s':St) (A':Adr),Rs wa Fx W s' A'→True∧W.cell? ⟨w.heap.size,1,none⟩=some (.int .i64 (e 1))∧True∧True∧W.cell? ⟨w.heap.size,7,none⟩=some (.int .i64 (e 7))∧True∧W.cell? ⟨w.heap.size,9,none⟩=some (.int .i64 (e 9))):=fun W s' A' h'=>by
  obtain⟨-,k1,-,-,-,k5,k6,k7,k8,k9⟩:=(HEV.out W s' A' h').ten;exact⟨trivial,k1,trivial,trivial,k7,trivial,k9⟩
 rw[ht] at HLT;rw[hy] at HLF;simp only[Option.map_some,Option.map_some,pv] at HLT HLF;have HRA:=Lib.hid hRa;have j1:¬ 64≤e 1:=by unfold funBad at hb;omega
 have j5:¬ 16≤e 5:=by unfold funBad at hb;omega
 have j8:¬ 1000 < e 8:=by unfold funBad at hb;omega
 have j9:¬ 1000 < e 9:=by unfold funBad at hb;omega
 have j6:¬ e 6 < 1:=by unfold funBad at hb;omega
 have j6':¬ 4096 < e 6:=by unfold funBad at hb;omega
 have j7:¬ e 7 < 1:=by unfold funBad at hb;omega
 have j7':¬ 1000 < e 7:=by unfold funBad at hb;omega
 clear h hBa hE hRa hFx hr hr1 hr5 hr6 hr7 hr8 hr9 hza hT ht hy hc hcl hfa hsf hsm hFI hfy;simp only[P16.evc] at hwa ⊢;clear hb;go_enter Tryz.func47,Tryz.ntmps47
 go_wp2_with fail
 obtain⟨⟨-,-,b4⟩,c1,-⟩:=HT.out wa.drew s HRA.out.drew;have hlk:=HLF.out wa.drew s rfl HRA.out.drew;refine wp_region_still_tail 7 (by kernel_rfl) (by kernel_rfl) ?_;simp only[List.take_succ_cons,List.take_zero,List.drop_succ_cons,List.drop_zero]
 repeat still_step
 refine wpStill_nil ?_;change wpList _ _ _ _ _ wa.drew;obtain⟨wb,hwb⟩:∃ x,wa.drew=x:=⟨_,rfl⟩;have HRB:Hid (Rs wa Fx wb s A):=by rw[← hwb];exact HRA.out.drew
 rw[hwb];clear hwb;clear b4 hlk c1;obtain⟨-,c1,c5,c6,c7,c8,c9⟩:=HT.out wb s HRB.out;go_wp2_with fail
 clear j1 j5 j8 j9 j6 j6' j7 j7' c1 c5 c6 c7 c8 c9;obtain⟨⟨-,b3,-⟩,-,c5,-⟩:=HT.out wb.drew s HRB.out.drew;have hlt:=HLT.out wb.drew s rfl HRB.out.drew;refine wp_region_still_tail 8 (by kernel_rfl) (by kernel_rfl) ?_;simp only[List.take_succ_cons,List.take_zero,List.drop_succ_cons,List.drop_zero]
 repeat still_step
 refine wpStill_nil ?_;change wpList _ _ _ _ _ wb.drew;obtain⟨wc,hwc⟩:∃ x,wb.drew=x:=⟨_,rfl⟩;have HRC:Hid (Rs wa Fx wc s A):=by rw[← hwc];exact HRB.out.drew
 rw[hwc];clear hwc;clear b3 c5 hlt;go_wp2_with fail
 obtain⟨-,-,c5,c6,-⟩:=HT.out wc.drew s HRC.out.drew;obtain⟨g0,g1⟩:=HFC.out wc.drew HRC.out.drew;refine wp_region_still_tail 20 (by kernel_rfl) (by kernel_rfl) ?_;simp only[List.take_succ_cons,List.take_zero,List.drop_succ_cons,List.drop_zero]
 repeat still_step
 refine wpStill_nil ?_;change wpList _ _ _ _ _ wc.drew;obtain⟨wd,hwd⟩:∃ x,wc.drew=x:=⟨_,rfl⟩;have HRD:Hid (Rs wa Fx wd s A):=by rw[← hwd];exact HRC.out.drew
 rw[hwd];clear hwd;clear c5 c6 g0 g1;obtain⟨-,-,-,-,-,c8,c9⟩:=HT.out wd s HRD.out;by_cases q1:0 < e 8
 ·have q2:¬ e 8 < e 9:=fun x=>hq ⟨q1,x⟩
  clear hq;go_wp2_with fail
  clear c8 c9;obtain⟨⟨b2,-,-⟩,c1,c5,-,-,c8,-⟩:=HT.out wd.drew s HRD.out.drew;have hsf:=HSF.out wd.drew HRD.out.drew;refine wp_region_still_tail 10 (by kernel_rfl) (by kernel_rfl) ?_;simp only[List.take_succ_cons,List.take_zero,List.drop_succ_cons,List.drop_zero]
  repeat still_step
  refine wpStill_nil ?_;change wpList _ _ _ _ _ wd.drew;clear b2 c1 c5 c8;go_wp2_with fail
  refine hsf.mono ?_;clear hsf;rintro r we ⟨rfl,hRe⟩;have HRE:=Lib.hid hRe;clear hRe;obtain⟨hne,⟨k2,f2⟩,hR2,⟨k3,f3⟩,hR3⟩:=HST.out we HRE.out;have k2:we.drew.cell? ⟨A.fn (e 1).toNat,2,none⟩=some (.int .i64 y.cost):=k2;have f2:we.drew.frozen? ⟨A.fn (e 1).toNat,2,none⟩=false:=f2;have k3:(we.setCell ⟨A.fn (e 1).toNat,2,none⟩ (.int .i64 (e 7))).drew.cell? ⟨A.fn (e 1).toNat,3,none⟩=some (.int .i64 y.keep):=k3;have f3:(we.setCell ⟨A.fn (e 1).toNat,2,none⟩ (.int .i64 (e 7))).drew.frozen? ⟨A.fn (e 1).toNat,3,none⟩=false:=f3;replace hR2:=hR2.drew;replace hR3:=hR3.drew;obtain⟨-,-,-,-,c7,-,c9⟩:=HEV9.out we.drew _ _ HRE.out.drew;go_wp2_with fail
  refine wp_region_held_drew (S:=fun W=>W.cell? ⟨w.heap.size,7,none⟩=some (.int .i64 (e 7))∧W.cell? ⟨w.heap.size,9,none⟩=some (.int .i64 (e 9))) (by kernel_rfl) ⟨c7,c9⟩ (fun hHeld=>?_);refine tkH 0 (v:=?v0a) rfl ?hy0a ?rest0a
  case hy0a=>intro w hSw;(try dsimp only at hSw);go_simp;try with_reducible rfl
  simp only[Act.put,List.setIfInBounds_toArray,List.set_cons_zero,List.set_cons_succ];refine tkH 1 (v:=?v1a) rfl ?hy1a ?rest1a
  case hy1a=>intro w hSw;(try dsimp only at hSw);go_simp;try with_reducible rfl
  simp only[Act.put,List.setIfInBounds_toArray,List.set_cons_zero,List.set_cons_succ];refine tkH 2 (v:=?v2a) rfl ?hy2a ?rest2a
  case hy2a=>intro w hSw;(try dsimp only at hSw);go_simp;try with_reducible rfl
  simp only[Act.put,List.setIfInBounds_toArray,List.set_cons_zero,List.set_cons_succ];refine tkH 3 (v:=?v3a) rfl ?hy3a ?rest3a
  case hy3a=>intro w hSw;(try dsimp only at hSw);go_simp;try with_reducible rfl
  simp only[Act.put,List.setIfInBounds_toArray,List.set_cons_zero,List.set_cons_succ];refine tkH 4 (v:=?v4a) rfl ?hy4a ?rest4a
  case hy4a=>intro w hSw;(try dsimp only at hSw);go_simp;try with_reducible rfl
  simp only[Act.put,List.setIfInBounds_toArray,List.set_cons_zero,List.set_cons_succ];refine tkH 5 (v:=?v5a) rfl ?hy5a ?rest5a
  case hy5a=>intro w hSw;(try dsimp only at hSw);go_simp;try with_reducible rfl
  simp only[Act.put,List.setIfInBounds_toArray,List.set_cons_zero,List.set_cons_succ];refine tkH 6 (v:=?v6a) rfl ?hy6a ?rest6a
  case hy6a=>intro w hSw;(try dsimp only at hSw);go_simp;try with_reducible rfl
  simp only[Act.put,List.setIfInBounds_toArray,List.set_cons_zero,List.set_cons_succ];refine tkH 7 (v:=?v7a) rfl ?hy7a ?rest7a
  case hy7a=>intro w hSw;(try dsimp only at hSw);go_simp;try with_reducible rfl
  simp only[Act.put,List.setIfInBounds_toArray,List.set_cons_zero,List.set_cons_succ];obtain⟨-,-,-,-,d7,-,d9⟩:=HEV9.out _ _ _ hR2;refine wpAnyH_ready (rs:=[8]) (by kernel_rfl) (by simp) ?_;refine AllReadyH.cons (o:=_) rfl (fun K hK=>?_) AllReadyH.nil;go_simp
  refine hK.out _ _ ⟨d7,d9⟩ (fun hHeld=>?_);clear hK K;refine tkH 9 (v:=?v9a) rfl ?hy9a ?rest9a
  case hy9a=>intro w hSw;(try dsimp only at hSw);go_simp;try with_reducible rfl
  simp only[Act.put,List.setIfInBounds_toArray,List.set_cons_zero,List.set_cons_succ];refine tkH 10 (v:=?v10a) rfl ?hy10a ?rest10a
  case hy10a=>intro w hSw;(try dsimp only at hSw);go_simp;try with_reducible rfl
  simp only[Act.put,List.setIfInBounds_toArray,List.set_cons_zero,List.set_cons_succ];obtain⟨-,-,-,-,g7,-,g9⟩:=HEV9.out _ _ _ hR3;refine wpAnyH_ready (rs:=[11]) (by kernel_rfl) (by simp) ?_;refine AllReadyH.cons (o:=_) rfl (fun K hK=>?_) AllReadyH.nil;go_simp
  refine hK.out _ _ ⟨g7,g9⟩ (fun hHeld=>?_);clear hK K;refine wpAnyH_done (by kernel_rfl) ?_ _;have HR3:=Lib.hid hR3;clear hR2 hR3 k2 f2 k3 f3 c7 c9 d7 d9 g7 g9;generalize ((we.setCell ⟨A.fn (e 1).toNat,2,none⟩ (.int .i64 (e 7))).setCell ⟨A.fn (e 1).toNat,3,none⟩ (.int .i64 (e 9))).drew=wk at *;obtain⟨-,c1,-⟩:=HEV9.out wk _ _ HR3.out;have hkp:=HKP.out wk _ rfl HR3.out;go_wp2_with fail
  refine hkp.mono ?_;clear hkp;rintro r wl ⟨rfl,hR9⟩;have HR9:=Lib.hid hR9;clear hR9 c1;go_wp2_with fail
  go_ret
  exact⟨rfl,HNY.out _ _ HR9.out⟩
 ·clear hq
  go_wp2_with fail
  clear c8 c9;obtain⟨⟨b2,-,-⟩,c1,c5,-,-,c8,-⟩:=HT.out wd.drew s HRD.out.drew;have hsf:=HSF.out wd.drew HRD.out.drew;refine wp_region_still_tail 10 (by kernel_rfl) (by kernel_rfl) ?_;simp only[List.take_succ_cons,List.take_zero,List.drop_succ_cons,List.drop_zero]
  repeat still_step
  refine wpStill_nil ?_;change wpList _ _ _ _ _ wd.drew;clear b2 c1 c5 c8;go_wp2_with fail
  refine hsf.mono ?_;clear hsf;rintro r we ⟨rfl,hRe⟩;have HRE:=Lib.hid hRe;clear hRe;obtain⟨hne,⟨k2,f2⟩,hR2,⟨k3,f3⟩,hR3⟩:=HST.out we HRE.out;have k2:we.drew.cell? ⟨A.fn (e 1).toNat,2,none⟩=some (.int .i64 y.cost):=k2;have f2:we.drew.frozen? ⟨A.fn (e 1).toNat,2,none⟩=false:=f2;have k3:(we.setCell ⟨A.fn (e 1).toNat,2,none⟩ (.int .i64 (e 7))).drew.cell? ⟨A.fn (e 1).toNat,3,none⟩=some (.int .i64 y.keep):=k3;have f3:(we.setCell ⟨A.fn (e 1).toNat,2,none⟩ (.int .i64 (e 7))).drew.frozen? ⟨A.fn (e 1).toNat,3,none⟩=false:=f3;replace hR2:=hR2.drew;replace hR3:=hR3.drew;obtain⟨-,-,-,-,c7,-,c9⟩:=HEV9.out we.drew _ _ HRE.out.drew;go_wp2_with fail
  refine wp_region_held_drew (S:=fun W=>W.cell? ⟨w.heap.size,7,none⟩=some (.int .i64 (e 7))∧W.cell? ⟨w.heap.size,9,none⟩=some (.int .i64 (e 9))) (by kernel_rfl) ⟨c7,c9⟩ (fun hHeld=>?_);refine tkH 0 (v:=?v0b) rfl ?hy0b ?rest0b
  case hy0b=>intro w hSw;(try dsimp only at hSw);go_simp;try with_reducible rfl
  simp only[Act.put,List.setIfInBounds_toArray,List.set_cons_zero,List.set_cons_succ];refine tkH 1 (v:=?v1b) rfl ?hy1b ?rest1b
  case hy1b=>intro w hSw;(try dsimp only at hSw);go_simp;try with_reducible rfl
  simp only[Act.put,List.setIfInBounds_toArray,List.set_cons_zero,List.set_cons_succ];refine tkH 2 (v:=?v2b) rfl ?hy2b ?rest2b
  case hy2b=>intro w hSw;(try dsimp only at hSw);go_simp;try with_reducible rfl
  simp only[Act.put,List.setIfInBounds_toArray,List.set_cons_zero,List.set_cons_succ];refine tkH 3 (v:=?v3b) rfl ?hy3b ?rest3b
  case hy3b=>intro w hSw;(try dsimp only at hSw);go_simp;try with_reducible rfl
  simp only[Act.put,List.setIfInBounds_toArray,List.set_cons_zero,List.set_cons_succ];refine tkH 4 (v:=?v4b) rfl ?hy4b ?rest4b
  case hy4b=>intro w hSw;(try dsimp only at hSw);go_simp;try with_reducible rfl
  simp only[Act.put,List.setIfInBounds_toArray,List.set_cons_zero,List.set_cons_succ];refine tkH 5 (v:=?v5b) rfl ?hy5b ?rest5b
  case hy5b=>intro w hSw;(try dsimp only at hSw);go_simp;try with_reducible rfl
  simp only[Act.put,List.setIfInBounds_toArray,List.set_cons_zero,List.set_cons_succ];refine tkH 6 (v:=?v6b) rfl ?hy6b ?rest6b
  case hy6b=>intro w hSw;(try dsimp only at hSw);go_simp;try with_reducible rfl
  simp only[Act.put,List.setIfInBounds_toArray,List.set_cons_zero,List.set_cons_succ];refine tkH 7 (v:=?v7b) rfl ?hy7b ?rest7b
  case hy7b=>intro w hSw;(try dsimp only at hSw);go_simp;try with_reducible rfl
  simp only[Act.put,List.setIfInBounds_toArray,List.set_cons_zero,List.set_cons_succ];obtain⟨-,-,-,-,d7,-,d9⟩:=HEV9.out _ _ _ hR2;refine wpAnyH_ready (rs:=[8]) (by kernel_rfl) (by simp) ?_;refine AllReadyH.cons (o:=_) rfl (fun K hK=>?_) AllReadyH.nil;go_simp
  refine hK.out _ _ ⟨d7,d9⟩ (fun hHeld=>?_);clear hK K;refine tkH 9 (v:=?v9b) rfl ?hy9b ?rest9b
  case hy9b=>intro w hSw;(try dsimp only at hSw);go_simp;try with_reducible rfl
  simp only[Act.put,List.setIfInBounds_toArray,List.set_cons_zero,List.set_cons_succ];refine tkH 10 (v:=?v10b) rfl ?hy10b ?rest10b
  case hy10b=>intro w hSw;(try dsimp only at hSw);go_simp;try with_reducible rfl
  simp only[Act.put,List.setIfInBounds_toArray,List.set_cons_zero,List.set_cons_succ];obtain⟨-,-,-,-,g7,-,g9⟩:=HEV9.out _ _ _ hR3;refine wpAnyH_ready (rs:=[11]) (by kernel_rfl) (by simp) ?_;refine AllReadyH.cons (o:=_) rfl (fun K hK=>?_) AllReadyH.nil;go_simp
  refine hK.out _ _ ⟨g7,g9⟩ (fun hHeld=>?_);clear hK K;refine wpAnyH_done (by kernel_rfl) ?_ _;have HR3:=Lib.hid hR3;clear hR2 hR3 k2 f2 k3 f3 c7 c9 d7 d9 g7 g9;generalize ((we.setCell ⟨A.fn (e 1).toNat,2,none⟩ (.int .i64 (e 7))).setCell ⟨A.fn (e 1).toNat,3,none⟩ (.int .i64 (e 9))).drew=wk at *;obtain⟨-,c1,-⟩:=HEV9.out wk _ _ HR3.out;have hkp:=HKP.out wk _ rfl HR3.out;go_wp2_with fail
  refine hkp.mono ?_;clear hkp;rintro r wl ⟨rfl,hR9⟩;have HR9:=Lib.hid hR9;clear hR9 c1;go_wp2_with fail
  go_ret
  exact⟨rfl,HNY.out _ _ HR9.out⟩
end Go.Proofs.YtigeldkbfbcpmaaGreat
