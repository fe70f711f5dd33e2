/- The walk of WholeSplit: the body of the law's function, step by step, returns true. -/
import Derived.Deep.CutRange
import Derived.BigQuiet
import Derived.Test.YtigeldkbfbcpmaaGreatM45
set_option linter.unusedVariables false
set_option linter.unusedSectionVars false
set_option linter.unusedSimpArgs false
set_option maxRecDepth 100000
set_option maxHeartbeats 8000000
namespace Go.Proofs.YtigeldkbfbcpmaaGreat
open Go.RowKit Go.Kpt
theorem evs_getD(l:List P16.Evt):∀ (s:St) (i:Nat),i < l.length→(evs s l).2.getD i nstp=(l.getD i P16.noev,(doS (evs s (l.take i)).1 (l.getD i P16.noev)).2):=by
 induction l with
 | nil=>intro s i h;simp at h
 | cons e l ih=>
  intro s i h;cases i with
  | zero=>rfl
  | succ i=>
   have:=ih (doS s e).1 i (by simpa using h);simp only[evs,List.getD_cons_succ,List.take_succ_cons] at this ⊢;exact this
theorem SE.take{w:World}{p:Nat→Prop}{a:Option Addr}{l:List P16.Evt}(h:P16.SE w p a l)(k:Nat):P16.SE w p a (l.take k):=by
 intro i hi;have hi':i < l.length∧i < k:=by rw[List.length_take] at hi;omega
 obtain⟨b,off,ha,hb,hc⟩:=h i hi'.1;refine⟨b,off,ha,hb,fun j=>?_⟩;rw[hc j,List.getD_eq_getElem?_getD,List.getD_eq_getElem?_getD,List.getElem?_take,if_pos hi'.2]
theorem Ok.cmds{s:St}{n:Nat}(h:Ok s n)(hn:n < 4095)(e:P16.Evt):(doS s e).2.2.length≤1000000000:=by
 by_cases hr:P16.right e
 ·rw[doS_yes hr]
  have hr0:∀ j,0≤e j:=fun j=>by
   rcases hr.2.2 j with h|h|h
   ·subst h;exact hr.1.1
   ·exact(hr.2.1 j h).1
   ·omega
  have hI0:Inv { s with out:=some [] } n none_:=h.inv.aside (some []) s.unt s.ans (by have:=(dead_bd s).1;show ((0:Nat):Int)≤_;omega);have hl:=h.len;obtain⟨a1,a2,a3,a4,a5⟩:=hI0.act_ rfl (show s.boxes.length≤996000000 by omega) h.unt e hr0;have h1:=a1.out;have h2:=(dead_bd (actS { s with out:=some [] } e).1).2;have a4:(actS { s with out:=some [] } e).1.boxes.length≤s.boxes.length+65000:=a4;show (outl (actS { s with out:=some [] } e).1).length≤_;omega
 ·rw[doS_no hr]
  show 0≤_;omega
theorem Cmds.drewN{w:World}{P:Nat→Prop}{v:Value}{l:List Cmd}(h:Cmds w P v l)(n:Nat):Cmds (w.drewN n) P v l:=h.kept ((Kept.refl (fun _=>False) w).drewN n) (fun _ _ h=>h)
theorem wholeSplit_any(a:Option Addr)(ca:Nat)(la:List P16.Evt)(a1:Int)(hw1:(Lit.int .i64 a1).wf=true)(w:World)(ha:P16.SE w (fun x=>x < w.heap.size) a la):
  Calls Tryz.prog 5 #[.slice a la.length ca,.int .i64 a1] w fun e w'=>e=.returned (.bool true)∧Below w.heap.size w w':=by
 obtain⟨n,hn⟩:∃ n,la.length=n:=⟨_,rfl⟩;rw[hn];go_enter Tryz.func5,Tryz.ntmps5
 go_wp2_with fail
 refine(alive_any _).mono ?_;rintro e w1 ⟨rfl,hB1⟩;have ha1:=ha.kept (Kept.of_below (F:=fun _=>False) hB1) (fun _ _ h=>h);have hz1:=hB1.size;go_wp2_with fail
 refine(P16.few_any _ _ _ _).mono ?_;rintro e w2 ⟨rfl,rfl⟩;by_cases hla:n≤150
 ·rw[decide_eq_true hla]
  have hse1:=ha1.mono (q:=fun x=>x < w2.heap.size) (fun x hx=>by omega);have hst:=steps_any a ca la (by omega) w2 hse1;rw[hn] at hst;go_wp2_with fail
  refine hst.mono ?_;clear hst;rintro e w3 ⟨vo,rfl,hT,hB3⟩;have hse3:=hse1.kept (Kept.of_below (F:=fun _=>False) hB3) (fun _ _ h=>h);have hz3:=hB3.size;have hby:=P16.bytes_any a ca la (by omega) w3 (hse3.mono (fun x hx=>by omega));rw[hn] at hby
  go_wp2_with fail
  refine hby.mono ?_;clear hby
  rintro e w4 ⟨v1,v2,rfl,-,hv2,hB4⟩;have hz4:=hB4.size;have hT4:=hT.kept (Kept.of_below (F:=fun _=>False) hB4) (fun _ _ h=>h);have hB5:Below w.heap.size w w4:=hB1.trans ((hB3.mono hz1).trans (hB4.mono (by omega)));have hrl:=P16.rlm_len la;have hel:=evs_len s0 (P16.rlm la);generalize P16.rlm la=R at *;obtain⟨ao,co,rfl,hco,hrows⟩:=hT4.rows;rw[hel] at hco hrows ⊢;obtain⟨ar,cr,rfl,hcr,-,hser⟩:=hv2.se;obtain⟨m,hm⟩:∃ m,R.length=m:=⟨_,rfl⟩;rw[hm] at hrl hco hrows hcr ⊢;have HR:=Lib.hid hrows;have HS:=Lib.hid hser;clear hT hT4 hrows hser hv2 ha ha1 hse1 hse3 hel hB1 hB3 hB4;go_upto_region 8 with fail
  obtain⟨k,hk,hkm⟩:∃ k:Nat,wrap64 ((IntKind.u64.wrap a1).tmod ((m:Int)+1))=(k:Int)∧k≤m:=by
   have h1:(0:Int)≤IntKind.u64.wrap a1:=by show 0≤a1 % 18446744073709551616;omega
   have h2:=Int.tmod_nonneg ((m:Int)+1) h1;have h3:=Int.tmod_lt_of_pos (IntKind.u64.wrap a1) (show (0:Int) < (m:Int)+1 by omega);refine⟨((IntKind.u64.wrap a1).tmod ((m:Int)+1)).toNat,?_,by omega⟩;generalize (IntKind.u64.wrap a1).tmod ((m:Int)+1)=x at *;rw[show wrap64 x=x by unfold wrap64;omega];omega
  rw[hk];have htl:(R.take k).length=k:=by rw[List.length_take];omega
  have hev:=events_any ar cr (R.take k) (by omega) _ w4 (SE.take HS.out k) (fun x hx=>hx.2);have hel2:=evs_len s0 (R.take k);rw[htl] at hev hel2;have i1:(k:Int)≤(m:Int):=by omega
  have i2:(m:Int)≤(cr:Int):=by omega
  have i3:(k:Int)≤(cr:Int):=by omega
  clear hk;go_wp2_with fail
  refine hev.mono ?_;clear hev;rintro e w5 ⟨c,v,F,rfl,hC,hT5,hF,hB6⟩;obtain⟨a5,c5,rfl,-,-⟩:=hT5.rows;rw[hel2] at ⊢;have hz5:=hB6.size;obtain⟨md,hmd⟩:∃ md,m - k=md:=⟨_,rfl⟩;have hkk:∀ x,x < w4.heap.size→w5.heap[x]?=w4.heap[x]?:=fun x hx=>hB6.block x hx;have K5:Kept (fun x=>w4.heap.size≤x) w4 w5:=(Kept.of_below (F:=fun _=>False) hB6).mono (fun _ _ h=>h.elim);clear hT5;by_cases hck:cr=k
  ·have hmd0:md=0:=by omega
   go_wp2_with fail
   go_loopw [62] (fun k1 wr=>∃ (j:Nat) (F:Nat→Prop),k1=.int .i64 j∧j≤md∧Cr wr c (evs s0 (R.take (k+j))).1 F∧(∀ x,F x→w4.heap.size≤x)∧Kept (fun x=>w4.heap.size≤x) w4 wr) (fun k1 _=>md - (intOf k1).toNat)
   case atStart=>exact⟨0,F,rfl,by omega,hC,hF,K5⟩
   case round=>
    obtain⟨j,F,rfl,hj,hC,hF,hK⟩:=hrel;by_cases hjn:j < md
    ·omega
    ·obtain rfl:j=md:=by omega
     have hBr:Below w.heap.size w wr:=hB5.trans (hK.below (by omega) (fun x hx h=>by omega));go_wp2_with fail
     go_ret
     exact⟨rfl,hBr⟩
  ·go_wp2_with fail
   go_loopw [62] (fun k1 wr=>∃ (j:Nat) (F:Nat→Prop),k1=.int .i64 j∧j≤md∧Cr wr c (evs s0 (R.take (k+j))).1 F∧(∀ x,F x→w4.heap.size≤x)∧Kept (fun x=>w4.heap.size≤x) w4 wr) (fun k1 _=>md - (intOf k1).toNat)
   case atStart=>exact⟨0,F,rfl,by omega,hC,hF,K5⟩
   case round=>
    obtain⟨j,F,rfl,hj,hC,hF,hK⟩:=hrel;by_cases hjn:j < md
    ·obtain⟨bk,off,rfl,hbk,e0,e1,e2,e3,e4,e5,e6,e7,e8,e9⟩:=P16.SE.ten (HS.out.kept hK (fun x hx h=>by omega)) (k+j) (by omega)
     simp only[Nat.add_mul,← Nat.add_assoc] at e0 e1 e2 e3 e4 e5 e6 e7 e8 e9;obtain⟨bo,va,vc,rfl,-,hbo,hcm,hR⟩:=HR.out (k+j) (by omega);have hnx:=evs_next s0 R (k+j) (by omega);have hgd:=evs_getD R s0 (k+j) (by omega);have hOk:Ok (evs s0 (R.take (k+j))).1 (k+j):=by
      have:=ok0.evs (l:=R.take (k+j)) (by rw[List.length_take];omega);rw[List.length_take,Nat.min_eq_left (by omega),Nat.zero_add] at this;exact this
     rw[hgd] at hcm hR;generalize R.getD (k+j) P16.noev=f at *;have hE:P16.Ev (wr.alloc (.cells (P16.evc f) 28)) wr.heap.size f:=P16.Ev.new _ _;have kA:Kept (fun _=>False) wr (wr.alloc (.cells (P16.evc f) 28)):=(Kept.refl _ wr).alloc _;have hC2:=hC.kept kA (fun _ _ h=>h);have hK2:=hK.trans kA (fun _ _ h=>h.elim);have hqb:w4.heap.size≤wr.heap.size:=hK.size;obtain⟨q,hq⟩:∃ q,wr.heap.size=q:=⟨_,rfl⟩;obtain⟨wa,hwa⟩:∃ wa,wr.alloc (.cells (P16.evc f) 28)=wa:=⟨_,rfl⟩;rw[hwa] at hE hC2 hK2;have hdo:=do_any hOk (by omega) f hC2;obtain⟨D,hD⟩:∃ D,doS (evs s0 (R.take (k+j))).1 f=D:=⟨_,rfl⟩;rw[hD] at hdo hnx hcm hR;obtain⟨sD,⟨x0,x1,x2,x3⟩,lD⟩:=D;have HN:=Lib.hid hnx;have hcl:=hOk.cmds (by omega) f;rw[hD] at hcl;dsimp only at hcl;dsimp only at hcm hR;simp only[P16.evc] at hwa hdo;rw[hq] at hE hqb;clear hC hK hOk hnx hD kA hgd;go_upto_region 14 with fail
     clear hwa e0 e1 e2 e3 e4 e5 e6 e7 e8 e9;obtain⟨e0,e1,e2,e3,e4,e5,e6,e7,e8,e9⟩:=hE.ten;go_wp2_with fail
     refine hdo.mono ?_;clear hdo e0 e1 e2 e3 e4 e5 e6 e7 e8 e9;rintro r w6 ⟨ov,F',rfl,hC3,hK3,hF3,hc3⟩;dsimp only[ansV] at hC3 hc3 ⊢;obtain⟨-,a6,c6,rfl⟩:=hc3.one;have hza3:=hK3.size;have hza2:=hK2.size;have hF4:∀ x,F' x→w4.heap.size≤x:=fun x h=>by
      rcases hF3 x h with h|h
      ·exact hF x h
      ·omega
     have hK4:=hK2.trans hK3 (fun x _ h=>hF x h);have k7:Kept (fun _=>False) w6 (w6.alloc (.cells #[.int .i64 x0,.int .i64 x1,.int .i64 x2,.int .i64 x3] 38)):=(Kept.refl _ w6).alloc _;have hA7:(w6.alloc (.cells #[.int .i64 x0,.int .i64 x1,.int .i64 x2,.int .i64 x3] 38)).heap[w6.heap.size]?=some (.cells #[.int .i64 x0,.int .i64 x1,.int .i64 x2,.int .i64 x3] 38 (0,0)):=heap_alloc_new _ _;obtain⟨q7,hq7⟩:∃ q,w6.heap.size=q:=⟨_,rfl⟩;obtain⟨w7,hw7⟩:∃ w7,w6.alloc (.cells #[.int .i64 x0,.int .i64 x1,.int .i64 x2,.int .i64 x3] 38)=w7:=⟨_,rfl⟩;rw[hw7] at k7 hA7;rw[hq7] at hA7;have hC7:=hC3.kept k7 (fun _ _ h=>h);have hK7:=hK4.trans k7 (fun x _ h=>h.elim);have hc7:=hc3.kept k7 (fun _ _ h=>h);have hcm':Cmds w4 (fun x=>x < w4.heap.size) (.slice va lD.length vc) lD:=⟨hcm.1,fun g hg=>hcm.lt g hg⟩;have hcm7:=hcm'.kept hK7 (fun x hx h=>by omega);have hR7:=hR.kept hK7 (fun h=>by omega);clear hC2 hK2 hK3 hF3 hc3 hE hC3 hK4 k7 hcm hcm' hR;go_upto_region 15 with fail
     clear hw7;obtain⟨r0,r1,r2,r3,r4,r5,r6,r7,r8,r9,r10,r11,r12,r13,r14⟩:=hR7;dsimp only at r10 r11 r12 r13 r14;have y0:w7.cell? ⟨q7,0,none⟩=some (.int .i64 x0):=cell_of hA7;have y1:w7.cell? ⟨q7,1,none⟩=some (.int .i64 x1):=cell_of hA7;have y2:w7.cell? ⟨q7,2,none⟩=some (.int .i64 x2):=cell_of hA7;have y3:w7.cell? ⟨q7,3,none⟩=some (.int .i64 x3):=cell_of hA7;have hneq:=neq_an x0 x1 x2 x3 x0 x1 x2 x3;rw[show (!decide (x0=x0∧x1=x1∧x2=x2∧x3=x3))=false by simp] at hneq;simp only[ac4] at hneq;have hgd:=guard_an;have HSAME:=Lib.hid (fun n=>same_any (hc7.drewN n) (hcm7.drewN n) hcl);have HF:=Lib.hid (And.intro hC7 (And.intro hK7 hF4));have ek:(k+j)*15=k*15+j*15:=by omega
     have ek2:k*15+j*15=(k+j)*15:=by omega
     clear hc7 hcm7 hcl hA7 hC7 hK7 hF4 ek ek2;go_quiet ((go_at_call 15;exact Calls.quiet_of (HSAME.out _)))
     go_wp2_with fail
     go_roundw
     case rel=>
      refine⟨_,_,_,_,_,_,⟨j+1,rfl,by omega,F',?_,HF.out.2.2,?_⟩,rfl,rfl,rfl,rfl,rfl,by push_cast;rfl⟩
      ·rw[show k+(j+1)=k+j+1 from rfl,HN.out]
       exact HF.out.1.kept ((Kept.refl (fun _=>False) _).drewN _) (fun _ _ h=>h)
      ·exact HF.out.2.1.trans ((Kept.refl (fun _=>False) _).drewN _) (fun _ _ h=>h.elim)
     case measure=>simp[intOf];omega
    ·obtain rfl:j=md:=by omega
     have hBr:Below w.heap.size w wr:=hB5.trans (hK.below (by omega) (fun x hx h=>by omega));go_wp2_with fail
     go_ret
     exact⟨rfl,hBr⟩
 ·rw[decide_eq_false hla]
  go_wp2_with fail
  go_ret
  exact⟨rfl,hB1⟩
theorem wholeSplit_walk(a0:Option Addr)(cap0:Nat)(z0:List (Nat→Int))(a1:Int)(W:World)(w0:IsStructs 10 W a0 z0)(w1:(Lit.int .i64 a1).wf=true):
  Calls Tryz.prog 5 #[.slice a0 z0.length cap0,.int .i64 a1] W fun e W'=>e=.returned (.bool true)∧Below W.heap.size W W':=by
 have:=wholeSplit_any a0 cap0 (evsOf z0) a1 w1 W (isEvents w0);simpa[evsOf] using this
end Go.Proofs.YtigeldkbfbcpmaaGreat
