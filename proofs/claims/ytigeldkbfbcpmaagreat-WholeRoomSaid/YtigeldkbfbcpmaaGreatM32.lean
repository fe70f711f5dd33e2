/- A part of the proof: what the functions of the program come to, and what holds at all times. -/
import Derived.StillTailTactics
import Derived.BigQuiet
import Derived.Deep.RegionHeld3
import Derived.Test.YtigeldkbfbcpmaaGreatM30
import Derived.Test.YtigeldkbfbcpmaaGreatM27
import Derived.Test.YtigeldkbfbcpmaaGreatM08
import Derived.Test.YtigeldkbfbcpmaaGreatM19
import Derived.Test.YtigeldkbfbcpmaaGreatM31
import Derived.Test.YtigeldkbfbcpmaaGreatM25
set_option linter.unusedVariables false
set_option linter.unusedSectionVars false
set_option linter.unusedSimpArgs false
set_option maxRecDepth 100000
set_option maxHeartbeats 8000000
namespace Go.Proofs.YtigeldkbfbcpmaaGreat
open Go.RowKit Go.Kpt Go.Shelf Go.Maps
theorem ahead71_any(s:St)(N:Nat)(hI:Inv s N none_)(hL:s.boxes.length≤997000000)(hout:s.out.isSome=true)(hU:UntOk s)(A:Adr)(w0:World)(F0:Nat→Prop)(f:Nat)(y:Fnc)(hy:s.fns f=some y)(w:World)(h:Rs w0 F0 w s A):
  Calls Tryz.prog 71 #[.pointer (some ⟨A.core,0,none⟩),.int .i64 f] w fun e w'=>e=.returned (.tuple #[])∧Rx w0 F0 w' (aheadS s f) A s.boxes.length:=by
 by_cases hb:0 < (ofFn s f).length∨P13.fitK s.hosts y.mem 32=none
 ·refine(ahead_no s N hI hL A w0 F0 f y hy hb w h).mono ?_
  rintro e w' ⟨rfl,h'⟩;rw[aheadS_no hy hb];exact⟨rfl,h'.rx _⟩
 ·obtain⟨k,hk⟩:∃ k,P13.fitK s.hosts y.mem 32=some k:=Option.ne_none_iff_exists'.1 (fun e=>hb (.inr e))
  exact ahead_yes s N hI hL hout hU A w0 F0 f y hy (fun e=>hb (.inl e)) k hk w h
def timN(w:World)(tim:Nat):Nat:=
 match w.cell? ⟨tim,0,none⟩ with
 | some (.pointer (some a))=>(match w.cell? ⟨a.block,1,none⟩ with | some (.slice _ n _)=>n | _=>0)
 | _=>0
theorem Rs.timN{w0 w:World}{F0:Nat→Prop}{s:St}{A:Adr}(h:Rs w0 F0 w s A):Go.Proofs.YtigeldkbfbcpmaaGreat.timN w A.tim=s.tim.length:=by
 obtain⟨own,hS,-⟩:=h.1;obtain⟨-,hb,v,mb,hT,-⟩:=hS.at_ .tim;have c0:w.cell? ⟨A.tim,0,none⟩=some (.pointer (some ⟨hb,0,none⟩)):=(cell_of hT.blk).trans rfl;have c1:w.cell? ⟨hb,1,none⟩=some v:=(cell_of hT.hp.blk).trans rfl;unfold Go.Proofs.YtigeldkbfbcpmaaGreat.timN;rw[c0];simp only;rw[c1];have hv:∃ a c,v=.slice a s.tim.length c:=by
  have ho:=hT.hp.own;have h1:=ho.1;rcases ho.2 with ⟨h2,h3⟩|⟨g,cap,cur,h0,-,hr⟩
  ·exact⟨none,0,by rw[h2,h3]⟩
  ·exact⟨_,_,h0⟩
 obtain⟨a,c,rfl⟩:=hv;rfl
theorem Sys.tokAt{w:World}{s:St}{A:Adr}{F:Nat→Prop}(h:Sys w s A F):(∃ c,Pm w A.tokM c (mTok s A))∧F A.tokM∧∀ a t,s.tok a=some t→F (A.tok a)∧A.tok a≠A.tokM:=by
 obtain⟨own,hS,hF⟩:=h;obtain⟨h1,c,h2⟩:=hS.at_ .tokM;refine⟨⟨c,h2⟩,hF _ _ h1,fun a t ht=>?_⟩;obtain⟨h3,-⟩:=hS.at_ (.tok a) t ht;exact⟨hF _ _ h3,fun e=>by have:=hS.sep (.tok a) .tokM _ h3 (by rw[e];exact h1);cases this⟩
def tokLeft(s:St)(left:Int→Bool):Nat→Option Bkt:=fun a=>if left (a:Int)=true then s.tok a else (s.tok a).map bktTick
theorem tokLeft_turn{s:St}{left:Int→Bool}{a:Nat}{u:Bkt}(ha:s.tok a=some u):tset (tokLeft s left) a (bktTick u)=tokLeft s (fun z=>left z && !decide (z=(a:Int))):=by
 funext j
 unfold tset tokLeft;by_cases e:j=a
 ·subst e
  rw[if_pos rfl,ha];simp
 ·rw[if_neg e]
  have:decide ((j:Int)=(a:Int))=false:=by simp;omega
  simp[this]
theorem mTok_some{s:St}{A:Adr}{k:Int}{x:Option Nat}(h:mTok s A k=some x):∃ (a:Nat) (t:Bkt),k=(a:Int)∧a < 16∧s.tok a=some t∧x=some (A.tok a):=by
 unfold mTok at h;split at h
 ·rename_i hk
  cases ht:s.tok k.toNat with
  | none=>rw[ht] at h;cases h
  | some t=>
   rw[ht] at h;simp only[Option.map_some,Option.some.injEq] at h;exact⟨k.toNat,t,by omega,by omega,ht,h.symm⟩
 ·cases h
theorem mTok_has{s:St}{A:Adr}{a:Nat}{t:Bkt}(ha:a < 16)(h:s.tok a=some t):(mTok s A (a:Int)).isSome=true:=by
 unfold mTok;rw[if_pos (by omega),Int.toNat_natCast,h];rfl
theorem wpList_tok_next{ops:Array Oper}{rest:List Oper}{o:Oper}{a:Act}{Q:Exit→Act→World→Prop}(w:World)(hg:o.guard=none)(it:Operand)(hop:o.op=Op.next it false)
  (mb r c:Nat) (s:St) (A:Adr) (left:Int→Bool) (cnt:Nat) (hit:a.eval it=.pointer (some ⟨r,0,none⟩)) (h:Gr intK ptrE w mb r c (mTok s A) left cnt)
  (hDone:cnt=0→(∀ k,(Lit.int .i64 k).wf=true→left k=false)→wpList Tryz.prog ops Q rest (a.put o.dst (.tuple #[.bool false])) w)
  (hMore:∀ (k:Nat) (t:Bkt) (w':World) (cnt':Nat),k < 16→left (k:Int)=true→s.tok k=some t→Gr intK ptrE w' mb r c (mTok s A) (fun z=>left z && !decide (z=(k:Int))) cnt'→cnt' < cnt →
   Kept (fun b=>b=r) w w'→w'.heap.size=w.heap.size→(Instr.entry (.pointer (some ⟨r,0,none⟩))).run Tryz.prog w'=.ok (.tuple #[.int .i64 (k:Int),.pointer (some ⟨A.tok k,0,none⟩)]) w'→wpList Tryz.prog ops Q rest (a.put o.dst (.tuple #[.bool true,.int .i64 (k:Int),.pointer (some ⟨A.tok k,0,none⟩)])) w'):
  wpList Tryz.prog ops Q (o :: rest) a w:=
 wpList_gm_next (Y:=intK) (E:=ptrE) w hg it hop mb r c (mTok s A) left cnt hit h hDone fun k x w' cnt' h1 h2 h3 h4 h5 h6 h7 h8=>by
  obtain⟨j,t,rfl,hj,ht,rfl⟩:=mTok_some h3;exact hMore j t w' cnt' hj h2 ht h4 h5 h6 h7 h8
def Ry(w0:World)(F0:Nat→Prop)(w:World)(s:St)(core:Nat):Prop:=∃ A:Adr,A.core=core∧Rs w0 F0 w s A
theorem Rx.ry{w0 w:World}{F0:Nat→Prop}{s:St}{A:Adr}{n:Nat}(h:Rx w0 F0 w s A n):Ry w0 F0 w s A.core:=by
 obtain⟨c,b,-,h⟩:=h;exact⟨{ A with cac:=c,box:=b },rfl,h⟩
theorem Rs.ry{w0 w:World}{F0:Nat→Prop}{s:St}{A:Adr}(h:Rs w0 F0 w s A):Ry w0 F0 w s A.core:=⟨A,rfl,h⟩
theorem mTok_of{s:St}{A:Adr}{k:Int}(h:0≤k∧k < 16)(o:Option Bkt)(ho:s.tok k.toNat=o):(mTok s A k).getD none=o.map (fun _=>A.tok k.toNat):=by
 unfold mTok;rw[if_pos h,ho];cases o <;> rfl
theorem Sys.look_tok{w:World}{s:St}{A:Adr}{F:Nat→Prop}(h:Sys w s A F)(k:Int)(hk:(Lit.int .i64 k).wf=true)(v:Option Nat)(hv:(mTok s A k).getD none=v):
  (Instr.lookup 80 (.map (some A.tokM)) (.int .i64 k) false).run Tryz.prog w=.ok (pv v) w:=by
 obtain⟨⟨c,hm⟩,-⟩:=h.tokAt;have:=hm.look (t:=80) (et:=166) Tryz.underlying80 none (by kernel_rfl) k hk;rw[hv] at this;exact this
theorem setA_rs{w0 w:World}{F0:Nat→Prop}{s:St}{A:Adr}(h:Rs w0 F0 w s A)(hg:P11.Good s.quo)(a n:Int)(ha:0≤a)(hn:0≤n)(c:Nat)
  (hc:c=if a≥16∨n > 1000 then 1 else if n < P11.rs s.quo.fs a.toNat 64 then 4 else 0):
  Calls Tryz.prog 72 #[.pointer (some ⟨A.quo,0,none⟩),.int .i64 a,.int .i64 n] w fun e w'=>e=.returned (.int .i64 (c:Int))∧Rs w0 F0 w' (if c=0 then { s with quo:=s.quo.setA a.toNat ⟨true,n⟩ } else s) A:=by
 obtain⟨hq,hnx⟩:=h.1.quoTurn;by_cases h1:a≥16∨n > 1000
 ·rw[if_pos h1] at hc
  subst hc;refine(P11.setA_arg A.quo a n ⟨ha,hn⟩ (by omega) w).mono ?_;rintro e w' ⟨rfl,rfl⟩;exact⟨rfl,h⟩
 rw[if_neg h1] at hc;obtain⟨k,rfl⟩:∃ k:Nat,a=(k:Int):=⟨a.toNat,by omega⟩;rw[Int.toNat_natCast] at hc ⊢;by_cases h2:n < P11.rs s.quo.fs k 64
 ·rw[if_pos h2] at hc
  subst hc;refine(P11.setA_f A.quo s.quo hg k (by omega) n hn (by omega) h2 w hq).mono ?_;rintro e w' ⟨rfl,hB⟩;exact⟨rfl,h.below hB⟩
 ·rw[if_neg h2] at hc
  subst hc;refine(P11.setA_t A.quo s.quo hg k (by omega) n hn (by omega) (by omega) w hq).mono ?_;rintro e w' ⟨rfl,h3,h4⟩;obtain⟨r1,r2⟩:=hnx w' _ h3 h4;exact⟨rfl,h.next r1 r2⟩
theorem tokSet_rs{w0 w:World}{F0:Nat→Prop}{s:St}{A:Adr}(h:Rs w0 F0 w s A)(a:Nat)(t:Bkt)(ht:s.tok a=some t)(m n:Int):
  Calls Tryz.prog 73 #[.pointer (some ⟨A.tok a,0,none⟩),.int .i64 m,.int .i64 n] w fun e w'=>e=.returned (.tuple #[])∧Rs w0 F0 w' { s with tok:=tset s.tok a ⟨P10.bnd m,P10.bnd n,if t.t≤P10.bnd m then t.t else P10.bnd m⟩ } A:=by
 obtain⟨hb,hnx⟩:=h.1.tokTurn a t ht;refine(P10.set_any (A.tok a) t.s t.r t.t m n w hb).mono ?_;rintro e w' ⟨rfl,h1,h2⟩;obtain⟨r1,r2⟩:=hnx w' ⟨P10.bnd m,P10.bnd n,if t.t≤P10.bnd m then t.t else P10.bnd m⟩ h1 h2;exact⟨rfl,h.next r1 r2⟩
theorem account_big(s:St)(e:P16.Evt)(h3:e 3 > 1000∨e 4 > 1000)(A:Adr)(w0:World)(F0:Nat→Prop)(w:World)(h:Rs w0 F0 w s A):
  Calls Tryz.prog 46 #[.pointer (some ⟨A.core,0,none⟩),.agg (P16.evc e)] w fun r w'=>r=.returned (.int .i64 (accountS s e).2)∧Ry w0 F0 w' (accountS s e).1 A.core:=by
 rw[accountS_arg (by omega)];obtain⟨wa,hwa⟩:∃ wa,w.alloc (.cells (P16.evc e) 28)=wa:=⟨_,rfl⟩;have hBa:Below w.heap.size w wa:=by subst hwa;exact(Below.refl _ w).alloc (Nat.le_refl _) _
 have hE:P16.Ev wa w.heap.size e:=by subst hwa;exact P16.Ev.new _ _
 obtain⟨-,c1,c2,c3,c4,-⟩:=hE.ten;have H:=Lib.hid (h.below hBa);clear h hBa hE;simp only[P16.evc] at hwa ⊢;go_enter Tryz.func46,Tryz.ntmps46
 by_cases h4:1000 < e 3
 ·go_wp2_with fail
  go_ret
  exact⟨rfl,H.out.ry⟩
 ·have h5:1000 < e 4:=by omega
  go_wp2_with fail
  go_ret
  exact⟨rfl,H.out.ry⟩
theorem account_err(s:St)(N:Nat)(hI:Inv s N none_)(e:P16.Evt)(hr:∀ j,0≤e j)(h3:¬ (e 3 > 1000∨e 4 > 1000))(c:Nat)(hc:c=if e 1≥16∨e 2 > 1000 then 1 else if e 2 < P11.rs s.quo.fs (e 1).toNat 64 then 4 else 0)(hc0:c≠0)(A:Adr)(w0:World)(F0:Nat→Prop)(w:World)(h:Rs w0 F0 w s A):
  Calls Tryz.prog 46 #[.pointer (some ⟨A.core,0,none⟩),.agg (P16.evc e)] w fun r w'=>r=.returned (.int .i64 (accountS s e).2)∧Ry w0 F0 w' (accountS s e).1 A.core:=by
 have hac:accountS s e=(s,c):=by
  by_cases h5:e 1≥16∨e 2 > 1000
  ·rw[accountS_arg (by omega),hc,if_pos h5]
  ·rw[if_neg h5] at hc
   by_cases h6:e 2 < P11.rs s.quo.fs (e 1).toNat 64
   ·rw[accountS_quo (by omega) h6,hc,if_pos h6]
   ·rw[if_neg h6] at hc;exact absurd hc hc0
 rw[hac];have hr1:=hr 1;have hr2:=hr 2;have hr3:=hr 3;have hr4:=hr 4;obtain⟨wa,hwa⟩:∃ wa,w.alloc (.cells (P16.evc e) 28)=wa:=⟨_,rfl⟩;have hBa:Below w.heap.size w wa:=by subst hwa;exact(Below.refl _ w).alloc (Nat.le_refl _) _
 have hza:wa.heap.size=w.heap.size+1:=by subst hwa;simp
 have hE:P16.Ev wa w.heap.size e:=by subst hwa;exact P16.Ev.new _ _
 have hRa:=h.fresh hBa;obtain⟨Fx,hFx⟩:∃ Fx:Nat→Prop,(fun x=>Grow F0 w0 w x∧x < w.heap.size)=Fx:=⟨_,rfl⟩;rw[hFx] at hRa;have hFlt:Hid (∀ x,Fx x→x < w.heap.size∧Grow F0 w0 w x):=fun x hx=>by rw[← hFx] at hx;exact⟨hx.2,hx.1⟩
 have HEV:Hid (∀ (W:World) (s':St) (A':Adr),Rs wa Fx W s' A'→P16.Ev W w.heap.size e):=fun W s' A' h'=>(h'.2.block _ (by omega) (fun x=>by have:=(hFlt.out _ x).1;omega)).trans hE;have HNEST:Hid (∀ (W:World) (s':St) (A':Adr),Rs wa Fx W s' A'→Rs w0 F0 W s' A'):=fun W s' A' h'=>Rs.nest h.2 hBa h' (fun x hx=>(hFlt.out x hx).2);obtain⟨-,c1,c2,c3,c4,-⟩:=hE.ten;obtain⟨-,d1,d2,-,-,-⟩:=(HEV.out wa.drew s A hRa.drew).ten;have b2:=hRa.drew.cc.2.2.1;obtain⟨e0,he0⟩:∃ x,e 0=x:=⟨_,rfl⟩;obtain⟨e1,he1⟩:∃ x,e 1=x:=⟨_,rfl⟩;obtain⟨e2,he2⟩:∃ x,e 2=x:=⟨_,rfl⟩;obtain⟨e3,he3⟩:∃ x,e 3=x:=⟨_,rfl⟩;obtain⟨e4,he4⟩:∃ x,e 4=x:=⟨_,rfl⟩;have hsA:=setA_rs hRa.drew hI.quo (e 1) (e 2) hr1 hr2 c hc;rw[if_neg hc0] at hsA;have hcz:¬ (c:Int)=0:=by omega
 have j3:¬ 1000 < e3:=by omega
 have j4:¬ 1000 < e4:=by omega
 rw[he1] at c1 d1 hsA;rw[he2] at c2 d2 hsA;rw[he3] at c3;rw[he4] at c4;clear h hBa hE hRa hFx hc hac h3 hr hr1 hr2 hr3 hr4 hc0 hza;simp only[P16.evc,he0,he1,he2,he3,he4] at hwa ⊢;clear he0 he1 he2 he3 he4;go_enter Tryz.func46,Tryz.ntmps46
 go_wp2_with fail
 refine wp_region_still_tail 8 (by kernel_rfl) (by kernel_rfl) ?_;simp only[List.take_succ_cons,List.take_zero,List.drop_succ_cons,List.drop_zero]
 repeat still_step
 refine wpStill_nil ?_;change wpList _ _ _ _ _ wa.drew;go_wp2_with fail
 refine hsA.mono ?_;clear hsA;rintro r w2 ⟨rfl,h2⟩;clear b2 c1 c2 c3 c4 d1 d2;go_wp2_with fail
 go_ret
 exact⟨rfl,(HNEST.out _ _ _ h2).ry⟩
theorem account_there(s:St)(N:Nat)(hI:Inv s N none_)(e:P16.Evt)(hr:∀ j,0≤e j)(h3:¬ (e 3 > 1000∨e 4 > 1000))(h5:¬ (e 1≥16∨e 2 > 1000))(h6:¬ e 2 < P11.rs s.quo.fs (e 1).toNat 64)(t:Bkt)(ht:s.tok (e 1).toNat=some t)(A:Adr)(w0:World)(F0:Nat→Prop)(w:World)(h:Rs w0 F0 w s A):
  Calls Tryz.prog 46 #[.pointer (some ⟨A.core,0,none⟩),.agg (P16.evc e)] w fun r w'=>r=.returned (.int .i64 (accountS s e).2)∧Ry w0 F0 w' (accountS s e).1 A.core:=by
 rw[accountS_yes (by omega) h6];have hr1:=hr 1;have hr2:=hr 2;have hr3:=hr 3;have hr4:=hr 4;obtain⟨wa,hwa⟩:∃ wa,w.alloc (.cells (P16.evc e) 28)=wa:=⟨_,rfl⟩;have hBa:Below w.heap.size w wa:=by subst hwa;exact(Below.refl _ w).alloc (Nat.le_refl _) _
 have hza:wa.heap.size=w.heap.size+1:=by subst hwa;simp
 have hE:P16.Ev wa w.heap.size e:=by subst hwa;exact P16.Ev.new _ _
 have hRa:=h.fresh hBa;obtain⟨Fx,hFx⟩:∃ Fx:Nat→Prop,(fun x=>Grow F0 w0 w x∧x < w.heap.size)=Fx:=⟨_,rfl⟩;rw[hFx] at hRa;have hFlt:Hid (∀ x,Fx x→x < w.heap.size∧Grow F0 w0 w x):=fun x hx=>by rw[← hFx] at hx;exact⟨hx.2,hx.1⟩
 have HEV:Hid (∀ (W:World) (s':St) (A':Adr),Rs wa Fx W s' A'→P16.Ev W w.heap.size e):=fun W s' A' h'=>(h'.2.block _ (by omega) (fun x=>by have:=(hFlt.out _ x).1;omega)).trans hE;have HNEST:Hid (∀ (W:World) (s':St) (A':Adr),Rs wa Fx W s' A'→Rs w0 F0 W s' A'):=fun W s' A' h'=>Rs.nest h.2 hBa h' (fun x hx=>(hFlt.out x hx).2);obtain⟨-,c1,c2,c3,c4,-⟩:=hE.ten;obtain⟨-,d1,d2,-,-,-⟩:=(HEV.out wa.drew s A hRa.drew).ten;have b2:=hRa.drew.cc.2.2.1;obtain⟨e0,he0⟩:∃ x,e 0=x:=⟨_,rfl⟩;obtain⟨e1,he1⟩:∃ x,e 1=x:=⟨_,rfl⟩;obtain⟨e2,he2⟩:∃ x,e 2=x:=⟨_,rfl⟩;obtain⟨e3,he3⟩:∃ x,e 3=x:=⟨_,rfl⟩;obtain⟨e4,he4⟩:∃ x,e 4=x:=⟨_,rfl⟩;have hsA:=setA_rs hRa.drew hI.quo (e 1) (e 2) hr1 hr2 0 (by rw[if_neg h5,if_neg h6]);rw[if_pos rfl] at hsA;obtain⟨s1,hs1⟩:∃ s1:St,{ s with quo:=s.quo.setA (e 1).toNat ⟨true,e 2⟩ }=s1:=⟨_,rfl⟩;have hacc:accT s e={ s1 with tok:=tset s1.tok (e 1).toNat ⟨P10.bnd (e 3),P10.bnd (e 4),if t.t≤P10.bnd (e 3) then t.t else P10.bnd (e 3)⟩ }:=by
  rw[← hs1];unfold accT newTok;rw[ht]
 rw[hacc];have ht1:s1.tok (e 1).toNat=some t:=by rw[← hs1];exact ht
 rw[hs1] at hsA;have HTS:Hid (∀ W,Rs wa Fx W s1 A→Calls Tryz.prog 73 #[.pointer (some ⟨A.tok (e 1).toNat,0,none⟩),.int .i64 (e 3),.int .i64 (e 4)] W fun r w'=>r=.returned (.tuple #[])∧Rs wa Fx w' { s1 with tok:=tset s1.tok (e 1).toNat ⟨P10.bnd (e 3),P10.bnd (e 4),if t.t≤P10.bnd (e 3) then t.t else P10.bnd (e 3)⟩ } A):=fun W h'=>tokSet_rs h' _ t ht1 (e 3) (e 4);have HLK:Hid (∀ W,Rs wa Fx W s1 A→(Instr.lookup 80 (.map (some A.tokM)) (.int .i64 (e 1)) false).run Tryz.prog W=.ok (.pointer (some ⟨A.tok (e 1).toNat,0,none⟩)) W):=fun W h'=>by
  have:=h'.1.look_tok (e 1) (WalkArith.wf_i64 (by omega)) _ (mTok_of (by omega) _ ht1);simpa only [Option.map_some,pv] using this
 have HT3:Hid (∀ W,Rs wa Fx W s1 A→W.cell? ⟨A.core,3,none⟩=some (.map (some A.tokM))∧W.cell? ⟨w.heap.size,1,none⟩=some (.int .i64 (e 1))∧W.cell? ⟨w.heap.size,3,none⟩=some (.int .i64 (e 3))∧W.cell? ⟨w.heap.size,4,none⟩=some (.int .i64 (e 4))):=fun W h'=>by
  obtain⟨-,k1,k2,k3,k4,-⟩:=(HEV.out W s1 A h').ten;exact⟨h'.cc.2.2.2.1,k1,k3,k4⟩
 obtain⟨ta,hta⟩:∃ x,A.tok (e 1).toNat=x:=⟨_,rfl⟩;rw[hta] at HTS HLK;obtain⟨S2,hS2⟩:∃ S2:St,{ s1 with tok:=tset s1.tok (e 1).toNat ⟨P10.bnd (e 3),P10.bnd (e 4),if t.t≤P10.bnd (e 3) then t.t else P10.bnd (e 3)⟩ }=S2:=⟨_,rfl⟩;rw[hS2] at HTS ⊢;have j3:¬ 1000 < e3:=by omega
 have j4:¬ 1000 < e4:=by omega
 rw[he1] at c1 d1 hsA HLK HT3;rw[he2] at c2 d2 hsA;rw[he3] at c3 HTS HT3;rw[he4] at c4 HTS HT3;clear h hBa hE hRa hFx hacc h3 h5 h6 hr hr1 hr2 hr3 hr4 hza hs1 ht ht1 hta hS2;simp only[P16.evc,he0,he1,he2,he3,he4] at hwa ⊢;clear he0 he1 he2 he3 he4;go_enter Tryz.func46,Tryz.ntmps46
 go_wp2_with fail
 refine wp_region_still_tail 8 (by kernel_rfl) (by kernel_rfl) ?_;simp only[List.take_succ_cons,List.take_zero,List.drop_succ_cons,List.drop_zero]
 repeat still_step
 refine wpStill_nil ?_;change wpList _ _ _ _ _ wa.drew;go_wp2_with fail
 refine hsA.mono ?_;clear hsA;rintro r w2 ⟨rfl,h2⟩;clear b2 c1 c2 c3 c4 d1 d2;obtain⟨k3,k1,-,-⟩:=HT3.out _ h2.drew;have hlk:=HLK.out _ h2.drew;obtain⟨-,-,m3,m4⟩:=HT3.out _ h2.drew;have hts:=HTS.out _ h2.drew;clear h2;go_wp2_with fail
 refine wp_region_still_tail 7 (by kernel_rfl) (by kernel_rfl) ?_;simp only[List.take_succ_cons,List.take_zero,List.drop_succ_cons,List.drop_zero]
 repeat still_step
 refine wpStill_nil ?_;change wpList _ _ _ _ _ w2.drew;go_wp2_with fail
 clear hlk k3 k1 m3 m4;refine hts.mono ?_;clear hts;rintro r w3 ⟨rfl,h3⟩;go_wp2_with fail
 go_ret
 exact⟨rfl,(HNEST.out _ _ _ h3).ry⟩
theorem account_new(s:St)(N:Nat)(hI:Inv s N none_)(e:P16.Evt)(hr:∀ j,0≤e j)(h3:¬ (e 3 > 1000∨e 4 > 1000))(h5:¬ (e 1≥16∨e 2 > 1000))(h6:¬ e 2 < P11.rs s.quo.fs (e 1).toNat 64)(ht:s.tok (e 1).toNat=none)(A:Adr)(w0:World)(F0:Nat→Prop)(w:World)(h:Rs w0 F0 w s A):
  Calls Tryz.prog 46 #[.pointer (some ⟨A.core,0,none⟩),.agg (P16.evc e)] w fun r w'=>r=.returned (.int .i64 (accountS s e).2)∧Ry w0 F0 w' (accountS s e).1 A.core:=by
 rw[accountS_yes (by omega) h6];have hr1:=hr 1;have hr2:=hr 2;have hr3:=hr 3;have hr4:=hr 4;obtain⟨wa,hwa⟩:∃ wa,w.alloc (.cells (P16.evc e) 28)=wa:=⟨_,rfl⟩;have hBa:Below w.heap.size w wa:=by subst hwa;exact(Below.refl _ w).alloc (Nat.le_refl _) _
 have hza:wa.heap.size=w.heap.size+1:=by subst hwa;simp
 have hE:P16.Ev wa w.heap.size e:=by subst hwa;exact P16.Ev.new _ _
 have hRa:=h.fresh hBa;obtain⟨Fx,hFx⟩:∃ Fx:Nat→Prop,(fun x=>Grow F0 w0 w x∧x < w.heap.size)=Fx:=⟨_,rfl⟩;rw[hFx] at hRa;have hFlt:Hid (∀ x,Fx x→x < w.heap.size∧Grow F0 w0 w x):=fun x hx=>by rw[← hFx] at hx;exact⟨hx.2,hx.1⟩
 have HEV:Hid (∀ (W:World) (s':St) (A':Adr),Rs wa Fx W s' A'→P16.Ev W w.heap.size e):=fun W s' A' h'=>(h'.2.block _ (by omega) (fun x=>by have:=(hFlt.out _ x).1;omega)).trans hE;have HNEST:Hid (∀ (W:World) (s':St) (A':Adr),Rs wa Fx W s' A'→Rs w0 F0 W s' A'):=fun W s' A' h'=>Rs.nest h.2 hBa h' (fun x hx=>(hFlt.out x hx).2);obtain⟨-,c1,c2,c3,c4,-⟩:=hE.ten;obtain⟨-,d1,d2,-,-,-⟩:=(HEV.out wa.drew s A hRa.drew).ten;have b2:=hRa.drew.cc.2.2.1;obtain⟨e0,he0⟩:∃ x,e 0=x:=⟨_,rfl⟩;obtain⟨e1,he1⟩:∃ x,e 1=x:=⟨_,rfl⟩;obtain⟨e2,he2⟩:∃ x,e 2=x:=⟨_,rfl⟩;obtain⟨e3,he3⟩:∃ x,e 3=x:=⟨_,rfl⟩;obtain⟨e4,he4⟩:∃ x,e 4=x:=⟨_,rfl⟩;have hsA:=setA_rs hRa.drew hI.quo (e 1) (e 2) hr1 hr2 0 (by rw[if_neg h5,if_neg h6]);rw[if_pos rfl] at hsA;obtain⟨s1,hs1⟩:∃ s1:St,{ s with quo:=s.quo.setA (e 1).toNat ⟨true,e 2⟩ }=s1:=⟨_,rfl⟩;have hacc:accT s e={ s1 with tok:=tset s1.tok (e 1).toNat ⟨P10.bnd (e 3),P10.bnd (e 4),P10.bnd (e 3)⟩ }:=by
  rw[← hs1];unfold accT newTok;rw[ht]
 rw[hacc];have ht1:s1.tok (e 1).toNat=none:=by rw[← hs1];exact ht
 rw[hs1] at hsA;have HLK:Hid (∀ W,Rs wa Fx W s1 A→(Instr.lookup 80 (.map (some A.tokM)) (.int .i64 (e 1)) false).run Tryz.prog W=.ok (.pointer none) W):=fun W h'=>by
  have:=h'.1.look_tok (e 1) (WalkArith.wf_i64 (by omega)) _ (mTok_of (by omega) _ ht1);simpa only [Option.map_none,pv] using this
 have HT3:Hid (∀ W,Rs wa Fx W s1 A→W.cell? ⟨A.core,3,none⟩=some (.map (some A.tokM))∧W.cell? ⟨w.heap.size,1,none⟩=some (.int .i64 (e 1))∧W.cell? ⟨w.heap.size,3,none⟩=some (.int .i64 (e 3))∧W.cell? ⟨w.heap.size,4,none⟩=some (.int .i64 (e 4))):=fun W h'=>by
  obtain⟨-,k1,k2,k3,k4,-⟩:=(HEV.out W s1 A h').ten;exact⟨h'.cc.2.2.2.1,k1,k3,k4⟩
 have HPU:Hid (∀ W W3,Rs wa Fx W s1 A→Below W.heap.size W W3→W3.heap.size=W.heap.size+1→P10.Bk W3 W.heap.size (P10.bnd (e 3)) (P10.bnd (e 4)) (P10.bnd (e 3)) →
   ∃ W4,(Instr.mapUpdate 80 (.map (some A.tokM)) (.int .i64 (e 1)) (.pointer (some ⟨W.heap.size,0,none⟩))).run Tryz.prog W3=.ok () W4 ∧
    Rs wa Fx W4 { s1 with tok:=tset s1.tok (e 1).toNat ⟨P10.bnd (e 3),P10.bnd (e 4),P10.bnd (e 3)⟩ } { A with tok:=aput A.tok (e 1).toNat W.heap.size }∧Kept (fun x=>x=A.tokM) W3 W4):=fun W W3 h' hB hz hbk=>by
  have hS3:=h'.1.lt.below hB;obtain⟨c,hp,hcm,hnx⟩:=hS3.newTok (e 1).toNat (by omega) ht1 W.heap.size ⟨P10.bnd (e 3),P10.bnd (e 4),P10.bnd (e 3)⟩ hbk (fun x=>by have:=x.2;omega);obtain⟨W4,r1,r2,r3⟩:=pm_put hp hcm Tryz.underlying80 (e 1) (WalkArith.wf_i64 (by omega)) W.heap.size;rw[show e 1=(((e 1).toNat:Nat):Int) by omega] at r2;rw[mTok_new s1 A (e 1).toNat (by omega) ⟨P10.bnd (e 3),P10.bnd (e 4),P10.bnd (e 3)⟩ W.heap.size] at r2;obtain⟨n1,n2⟩:=hnx W4 _ r2 r3;have hz4:W3.heap.size≤W4.heap.size:=r3.size;have hzw:wa.heap.size≤W.heap.size:=h'.2.size;refine⟨W4,r1,Rs.of n1 (fun x hx=>?_) ((h'.below hB).2.trans n2 (fun x hx hh=>?_)),r3⟩
  ·rcases hx with (hx | hx) | hx
   ·rcases hx.1 with h1 | h1
    ·exact .inl h1
    ·exact .inr ⟨h1.1,by omega⟩
   ·exact .inr ⟨by have:=hx.1;omega,hx.2⟩
   ·exact .inr ⟨by omega,by omega⟩
  ·rcases hh.1 with h1 | h1
   ·exact h1
   ·omega
 have HCN:Hid (∀ W,Rs wa Fx W s1 A→A.tokM≠A.core∧A.tokM≠w.heap.size):=fun W h'=>by
  obtain⟨-,hF,-⟩:=h'.1.tokAt;refine⟨fun x=>?_,fun x=>?_⟩
  ·obtain⟨own,hS,-⟩:=h'.1
   obtain⟨a1,-⟩:=hS.at_ .tokM;obtain⟨a2,-⟩:=hS.at_ .core;have:=hS.sep .tokM .core _ a1 (by rw[x];exact a2);cases this
  ·rcases hF with h1 | h1
   ·have:=(hFlt.out _ h1).1;omega
   ·have:=h1.1;omega
 obtain⟨S2,hS2⟩:∃ S2:St,{ s1 with tok:=tset s1.tok (e 1).toNat ⟨P10.bnd (e 3),P10.bnd (e 4),P10.bnd (e 3)⟩ }=S2:=⟨_,rfl⟩;rw[hS2] at HPU ⊢;obtain⟨ea,hea⟩:∃ x,(e 1).toNat=x:=⟨_,rfl⟩;rw[hea] at HPU;have j3:¬ 1000 < e3:=by omega
 have j4:¬ 1000 < e4:=by omega
 rw[he1] at c1 d1 hsA HLK HT3 HPU;rw[he2] at c2 d2 hsA;rw[he3] at c3 HPU HT3;rw[he4] at c4 HPU HT3;clear h hBa hE hRa hFx hacc h3 h5 h6 hr hr1 hr2 hr3 hr4 hza hs1 ht ht1 hS2 hea;simp only[P16.evc,he0,he1,he2,he3,he4] at hwa ⊢;clear he0 he1 he2 he3 he4;go_enter Tryz.func46,Tryz.ntmps46
 go_wp2_with fail
 refine wp_region_still_tail 8 (by kernel_rfl) (by kernel_rfl) ?_;simp only[List.take_succ_cons,List.take_zero,List.drop_succ_cons,List.drop_zero]
 repeat still_step
 refine wpStill_nil ?_;change wpList _ _ _ _ _ wa.drew;go_wp2_with fail
 refine hsA.mono ?_;clear hsA;rintro r w2 ⟨rfl,h2⟩;clear b2 c1 c2 c3 c4 d1 d2;have HCN2:=HCN.out _ h2;obtain⟨k3,k1,-,-⟩:=HT3.out _ h2.drew;have hlk:=HLK.out _ h2.drew;have H2:=Lib.hid h2;clear h2;go_wp2_with fail
 refine wp_region_still_tail 7 (by kernel_rfl) (by kernel_rfl) ?_;simp only[List.take_succ_cons,List.take_zero,List.drop_succ_cons,List.drop_zero]
 repeat still_step
 refine wpStill_nil ?_;change wpList _ _ _ _ _ w2.drew;go_wp2_with fail
 clear hlk k3 k1;obtain⟨z3,z1,y3,y4⟩:=HT3.out _ H2.out.drew.drew;have hnw:=P10.new_any e3 e4 w2.drew.drew;refine wp_region_held_drew (S:=fun W=>W.cell? ⟨A.core,3,none⟩=some (.map (some A.tokM))∧W.cell? ⟨w.heap.size,1,none⟩=some (.int .i64 e1)∧W.cell? ⟨w.heap.size,3,none⟩=some (.int .i64 e3)∧W.cell? ⟨w.heap.size,4,none⟩=some (.int .i64 e4)) (by kernel_rfl) ⟨z3,z1,y3,y4⟩ (fun hHeld=>?_);refine tkH 0 (v:=?v0) rfl ?hy0 ?rest0
 case hy0=>intro w hSw;(try dsimp only at hSw);go_simp;try with_reducible rfl
 simp only[Act.put,List.setIfInBounds_toArray,List.set_cons_zero,List.set_cons_succ];refine tkH 1 (v:=?v1) rfl ?hy1 ?rest1
 case hy1=>intro w hSw;(try dsimp only at hSw);go_simp;try with_reducible rfl
 simp only[Act.put,List.setIfInBounds_toArray,List.set_cons_zero,List.set_cons_succ];refine tkH 2 (v:=?v2) rfl ?hy2 ?rest2
 case hy2=>intro w hSw;(try dsimp only at hSw);go_simp;try with_reducible rfl
 simp only[Act.put,List.setIfInBounds_toArray,List.set_cons_zero,List.set_cons_succ];refine tkH 3 (v:=?v3) rfl ?hy3 ?rest3
 case hy3=>intro w hSw;(try dsimp only at hSw);go_simp;try with_reducible rfl
 simp only[Act.put,List.setIfInBounds_toArray,List.set_cons_zero,List.set_cons_succ];refine tkH 4 (v:=?v4) rfl ?hy4 ?rest4
 case hy4=>intro w hSw;(try dsimp only at hSw);go_simp;try with_reducible rfl
 simp only[Act.put,List.setIfInBounds_toArray,List.set_cons_zero,List.set_cons_succ];refine tkH 5 (v:=?v5) rfl ?hy5 ?rest5
 case hy5=>intro w hSw;(try dsimp only at hSw);go_simp;try with_reducible rfl
 simp only[Act.put,List.setIfInBounds_toArray,List.set_cons_zero,List.set_cons_succ];refine tkH 6 (v:=?v6) rfl ?hy6 ?rest6
 case hy6=>intro w hSw;(try dsimp only at hSw);go_simp;try with_reducible rfl
 simp only[Act.put,List.setIfInBounds_toArray,List.set_cons_zero,List.set_cons_succ];refine tkH 7 (v:=?v7) rfl ?hy7 ?rest7
 case hy7=>intro w hSw;(try dsimp only at hSw);go_simp;try with_reducible rfl
 simp only[Act.put,List.setIfInBounds_toArray,List.set_cons_zero,List.set_cons_succ];refine tkH 8 (v:=?v8) rfl ?hy8 ?rest8
 case hy8=>intro w hSw;(try dsimp only at hSw);go_simp;try with_reducible rfl
 simp only[Act.put,List.setIfInBounds_toArray,List.set_cons_zero,List.set_cons_succ];refine tkH 9 (v:=?v9) rfl ?hy9 ?rest9
 case hy9=>intro w hSw;(try dsimp only at hSw);go_simp;try with_reducible rfl
 simp only[Act.put,List.setIfInBounds_toArray,List.set_cons_zero,List.set_cons_succ];refine wpAnyH_ready (rs:=[10]) (by kernel_rfl) (by simp) ?_;refine AllReadyH.cons (o:=_) rfl (fun K hK=>?_) AllReadyH.nil;go_simp
 refine hnw.mono ?_;rintro r w3 ⟨rfl,hbk,hB3,hz3⟩;have x3:=HT3.out _ (H2.out.drew.drew.below hB3);obtain⟨w4,hrun,h4,hk4⟩:=HPU.out _ w3 H2.out.drew.drew hB3 hz3 hbk;have x4:w4.cell? ⟨A.core,3,none⟩=some (.map (some A.tokM))∧w4.cell? ⟨w.heap.size,1,none⟩=some (.int .i64 e1)∧w4.cell? ⟨w.heap.size,3,none⟩=some (.int .i64 e3)∧w4.cell? ⟨w.heap.size,4,none⟩=some (.int .i64 e4):=by
  have q1:w4.heap[A.core]?=w3.heap[A.core]?:=hk4.block _ (World.block_lt_of_cell? w3 _ x3.1) (fun x=>HCN2.1 x.symm);have q2:w4.heap[w.heap.size]?=w3.heap[w.heap.size]?:=hk4.block _ (World.block_lt_of_cell? w3 _ x3.2.1) (fun x=>HCN2.2 x.symm);exact⟨by rw[World.cell?_of_block q1];exact x3.1,by rw[World.cell?_of_block q2];exact x3.2.1,by rw[World.cell?_of_block q2];exact x3.2.2.1,by rw[World.cell?_of_block q2];exact x3.2.2.2⟩
 replace hrun:(Instr.mapUpdate 80 (.map (some A.tokM)) (.int .i64 e1) (.pointer (some ⟨w2.heap.size,0,none⟩))).run Tryz.prog w3=.ok () w4:=hrun;refine hK.out _ _ x3 (fun hHeld=>?_);clear hK K;refine wpAnyH_ready (rs:=[11]) (by kernel_rfl) (by simp) ?_;refine AllReadyH.cons (o:=_) rfl (fun K hK=>?_) AllReadyH.nil;go_simp
 refine hK.out _ _ x4 (fun hHeld=>?_);clear hK K;refine wpAnyH_done (by kernel_rfl) ?_ _;clear z3 z1 y3 y4 x3 x4 hrun hbk;go_wp2_with fail
 go_ret
 exact⟨rfl,⟨{ A with tok:=aput A.tok ea w2.drew.drew.heap.size },rfl,HNEST.out _ _ _ h4⟩⟩
theorem account_any(s:St)(N:Nat)(hI:Inv s N none_)(e:P16.Evt)(hr:∀ j,0≤e j)(A:Adr)(w0:World)(F0:Nat→Prop)(w:World)(h:Rs w0 F0 w s A):
  Calls Tryz.prog 46 #[.pointer (some ⟨A.core,0,none⟩),.agg (P16.evc e)] w fun r w'=>r=.returned (.int .i64 (accountS s e).2)∧Ry w0 F0 w' (accountS s e).1 A.core:=by
 by_cases h3:e 3 > 1000∨e 4 > 1000
 ·exact account_big s e h3 A w0 F0 w h
 by_cases h5:e 1≥16∨e 2 > 1000
 ·exact account_err s N hI e hr h3 1 (by rw[if_pos h5]) (by decide) A w0 F0 w h
 by_cases h6:e 2 < P11.rs s.quo.fs (e 1).toNat 64
 ·exact account_err s N hI e hr h3 4 (by rw[if_neg h5,if_pos h6]) (by decide) A w0 F0 w h
 cases ht:s.tok (e 1).toNat with
 | none=>exact account_new s N hI e hr h3 h5 h6 ht A w0 F0 w h
 | some t=>exact account_there s N hI e hr h3 h5 h6 t ht A w0 F0 w h
theorem mFn_of{s:St}{A:Adr}{k:Int}(h:0≤k∧k < 64)(o:Option Fnc)(ho:s.fns k.toNat=o):(mFn s A k).getD none=o.map (fun _=>A.fn k.toNat):=by
 unfold mFn;rw[if_pos h,ho];cases o <;> rfl
theorem function_bad(s:St)(e:P16.Evt)(hr:∀ j,0≤e j)(hw1:(Lit.int .i64 (e 1)).wf=true)(hb:funBad e)(A:Adr)(w0:World)(F0:Nat→Prop)(w:World)(h:Rs w0 F0 w s A):
  Calls Tryz.prog 47 #[.pointer (some ⟨A.core,0,none⟩),.agg (P16.evc e)] w fun r w'=>r=.returned (.int .i64 (functionS s e).2)∧Ry w0 F0 w' (functionS s e).1 A.core:=by
 rw[functionS_eq,if_pos hb];obtain⟨wa,hwa⟩:∃ wa,w.alloc (.cells (P16.evc e) 28)=wa:=⟨_,rfl⟩;have hBa:Below w.heap.size w wa:=by subst hwa;exact(Below.refl _ w).alloc (Nat.le_refl _) _
 have hE:P16.Ev wa.drew w.heap.size e:=by subst hwa;exact P16.Ev.new _ _
 obtain⟨-,c1,-,-,-,c5,c6,c7,c8,c9⟩:=hE.ten;have hRa:=(h.below hBa).drew;have hlk:=hRa.1.look_fn (e 1) hw1 _ rfl;have b4:=hRa.cc.2.2.2.2.1;obtain⟨xv,hxv⟩:∃ v,pv ((mFn s A (e 1)).getD none)=v:=⟨_,rfl⟩;rw[hxv] at hlk;unfold funBad at hb;have H:=Lib.hid hRa;clear h hBa hE hRa hxv hr;obtain⟨e1,he1⟩:∃ x,e 1=x:=⟨_,rfl⟩;obtain⟨e5,he5⟩:∃ x,e 5=x:=⟨_,rfl⟩;obtain⟨e6,he6⟩:∃ x,e 6=x:=⟨_,rfl⟩;obtain⟨e7,he7⟩:∃ x,e 7=x:=⟨_,rfl⟩;obtain⟨e8,he8⟩:∃ x,e 8=x:=⟨_,rfl⟩;obtain⟨e9,he9⟩:∃ x,e 9=x:=⟨_,rfl⟩;rw[he1,he5,he6,he7,he8,he9] at hb;rw[he1] at c1 hlk;rw[he5] at c5;rw[he6] at c6;rw[he7] at c7;rw[he8] at c8;rw[he9] at c9;simp only[P16.evc,he1,he5,he6,he7,he8,he9] at hwa ⊢;clear he1 he5 he6 he7 he8 he9 hw1;go_enter Tryz.func47,Tryz.ntmps47
 go_wp2_with fail
 refine wp_region_still_tail 7 (by kernel_rfl) (by kernel_rfl) ?_;simp only[List.take_succ_cons,List.take_zero,List.drop_succ_cons,List.drop_zero]
 repeat still_step
 refine wpStill_nil ?_;change wpList _ _ _ _ _ wa.drew;clear hlk b4;by_cases k1:64≤e1
 ·clear hb
  go_wp2_with fail
  go_ret
  exact⟨rfl,H.out.ry⟩
 by_cases k5:16≤e5
 ·clear hb
  go_wp2_with fail
  go_ret
  exact⟨rfl,H.out.ry⟩
 by_cases k8:1000 < e8
 ·clear hb
  go_wp2_with fail
  go_ret
  exact⟨rfl,H.out.ry⟩
 by_cases k9:1000 < e9
 ·clear hb
  go_wp2_with fail
  go_ret
  exact⟨rfl,H.out.ry⟩
 by_cases k6:e6 < 1
 ·clear hb
  go_wp2_with fail
  go_ret
  exact⟨rfl,H.out.ry⟩
 by_cases k6':4096 < e6
 ·clear hb
  go_wp2_with fail
  go_ret
  exact⟨rfl,H.out.ry⟩
 by_cases k7:e7 < 1
 ·clear hb
  go_wp2_with fail
  go_ret
  exact⟨rfl,H.out.ry⟩
 have k7':1000 < e7:=by omega
 clear hb;go_wp2_with fail
 go_ret
 exact⟨rfl,H.out.ry⟩
end Go.Proofs.YtigeldkbfbcpmaaGreat
