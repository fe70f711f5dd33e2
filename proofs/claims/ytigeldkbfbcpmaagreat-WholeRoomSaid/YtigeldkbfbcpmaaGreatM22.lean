/- A part of the proof: what the functions of the program come to, and what holds at all times. -/
import Derived.Test.YtigeldkbfbcpmaaGreatM21
import Derived.Test.YtigeldkbfbcpmaaGreatM20
set_option linter.unusedVariables false
set_option linter.unusedSectionVars false
set_option linter.unusedSimpArgs false
set_option maxRecDepth 100000
set_option maxHeartbeats 8000000
namespace Go.Proofs.YtigeldkbfbcpmaaGreat
open Go.RowKit Go.Kpt HeapPure
def only(i:Nat):Nat→Prop:=fun j=>j=i
theorem Inv.boxq{s:St}{N:Nat}{X:Nat→Prop}{i:Nat}{x z:P12.Bx}(h:Inv s N X)(hX:∀ j,X j→j=i)(hx:s.boxes[i]?=some x)(q:P11.Lg)
  (z1:z.id=x.id) (z2:z.fn=x.fn) (z3:z.host=x.host) (z4:z.mem=x.mem) (z5:z.st < 4) (z6:x.st≠3) (z7:z.st≠3) (z8:z.bound=true→z.st=0)
  (q1:∀ g,(q.fs g).th=(s.quo.fs g).th∧(q.fs g).acc=(s.quo.fs g).acc∧(q.fs g).res=(s.quo.fs g).res) (q2:q.ac=s.quo.ac)
  (q3:∀ g,g < 64→(q.fs g).bu=(s.quo.fs g).bu - busyG g x+busyG g z∧(q.fs g).bu≤1000):
  Inv { s with boxes:=s.boxes.set i z,quo:=q } N (only i)∧dead ({ s with boxes:=s.boxes.set i z,quo:=q }:St)=dead s:=by
 have hb:=h.box i x hx;have hlen:(s.boxes.set i z).length=s.boxes.length:=List.length_set;have hd:dead ({ s with boxes:=s.boxes.set i z,quo:=q }:St)=dead s:=by
  unfold dead;show sumB deadG (s.boxes.set i z)=_;rw[sumB_set deadG _ i x z hx];have:deadG x=0:=by unfold deadG;rw[if_neg z6]
  have:deadG z=0:=by unfold deadG;rw[if_neg z7]
  omega
 have hbz:∀ g,busyOn ({ s with boxes:=s.boxes.set i z,quo:=q }:St) g=busyOn s g - busyG g x+busyG g z:=fun g=>sumB_set (busyG g) _ i x z hx;have hmm:∀ k,memOn ({ s with boxes:=s.boxes.set i z,quo:=q }:St) k=memOn s k:=fun k=>by
  have e1:memOn ({ s with boxes:=s.boxes.set i z,quo:=q }:St) k=memOn s k - memG k x+memG k z:=sumB_set (memG k) _ i x z hx;have e2:memG k z=memG k x:=by
   unfold memG;rw[z3,z4];by_cases e:x.host=(k:Int)
   ·rw[if_pos ⟨z7,e⟩,if_pos ⟨z6,e⟩]
   ·rw[if_neg (fun a=>e a.2),if_neg (fun a=>e a.2)]
  omega
 refine⟨{ now:=h.now,next:=?_,box:=?_,fn:=?_,fnq:=?_,quo:=?_,qb:=?_,qa:=?_,host:=?_,tok:=h.tok,cacLt:=h.cacLt,cacG:=h.cacG,cacK:=?_,cacV:=h.cacV,cacI:=?_,cacS:=?_,timG:=h.timG,timI:=?_,timS:=?_,out:=?_ },hd⟩
 ·show s.next=((s.boxes.set i z).length:Int)+1
  rw[hlen];exact h.next
 ·intro j b hj
  rcases set_get hx hj with ⟨rfl,rfl⟩|⟨hne,hj⟩
  ·obtain⟨f,a1,a2,y,a3,a4⟩:=hb.fn
   refine⟨by rw[z1];exact hb.id,z5,?_,z8,fun e=>absurd e z7,⟨f,a1,by rw[z2];exact a2,y,a3,by rw[z4];exact a4⟩,by rw[z3];exact hb.host⟩;exact⟨fun _=>z7,fun _=>hb.live.2 z6⟩
  ·exact(h.box j b hj).of rfl (fun f y e=>⟨y,e,rfl⟩)
 ·intro f y hf
  exact(h.fn f y hf).of (fun _ e=>e) (Int.le_refl _) (q1 f).2.1
 ·intro f hf
  rw[show ({ s with boxes:=s.boxes.set i z,quo:=q }:St).quo=q from rfl,(q1 f).1];exact h.fnq f hf
 ·refine⟨fun g hg=>?_,fun a ha=>by rw[show ({ s with boxes:=s.boxes.set i z,quo:=q }:St).quo=q from rfl,q2];exact h.quo.2 a ha⟩
  obtain⟨a1,a2,a3,a4,a5⟩:=h.quo.1 g hg;obtain⟨b1,b2⟩:=q3 g hg;have b3:=(h.qb g hg).1;have b4:=hbz g;have b5:0≤busyOn ({ s with boxes:=s.boxes.set i z,quo:=q }:St) g:=sumB_nonneg (busyG_nonneg g _);show P11.goodf (q.fs g);exact⟨by rw[(q1 g).2.1];exact a1,by rw[(q1 g).2.2];exact a2,by rw[(q1 g).2.2];exact a3,by omega,by omega⟩
 ·intro g hg
  have b3:=(h.qb g hg).1;have b4:=hbz g;obtain⟨b1,b2⟩:=q3 g hg;show (q.fs g).bu=_∧(q.fs g).bu≤1000;omega
 ·intro a ha
  show (q.ac a).th=_;rw[q2];exact h.qa a ha
 ·intro k hk
  rw[hmm];exact h.host k hk
 ·intro k
  rw[hd];exact h.cacK k
 ·intro k id m hm
  obtain⟨j,b,h1,h2,h3,h4,h5⟩:=h.cacI k id m hm;by_cases e:j=i
  ·subst e
   rw[hx] at h2;cases h2
   exact⟨j,z,h1,set_same' hx,by rw[z3];exact h3,z7,fun hn=>absurd rfl hn⟩
  ·exact⟨j,b,h1,by show (s.boxes.set i z)[j]?=some b;rw[List.getElem?_set_ne (fun e2=>e e2.symm)];exact h2,h3,h4,fun _=>h5 (fun e2=>e (hX j e2))⟩
 ·intro j b hj hn hlo
  rcases set_get hx hj with ⟨rfl,rfl⟩|⟨hne,hj⟩
  ·exact absurd rfl hn
  ·exact h.cacS j b hj (fun e=>hne (hX j e)) hlo
 ·intro u t hm
  rcases h.timI u t hm with ⟨h0,j,b,h1,h2,h4,h5⟩|h0
  ·refine .inl ⟨h0,?_⟩
   by_cases e:j=i
   ·subst e
    rw[hx] at h2;cases h2
    exact⟨j,z,h1,set_same' hx,z7,fun hn=>absurd rfl hn⟩
   ·exact⟨j,b,h1,by show (s.boxes.set i z)[j]?=some b;rw[List.getElem?_set_ne (fun e2=>e e2.symm)];exact h2,h4,fun _=>h5 (fun e2=>e (hX j e2))⟩
  ·exact .inr h0
 ·intro j b hj hn hlo
  rcases set_get hx hj with ⟨rfl,rfl⟩|⟨hne,hj⟩
  ·exact absurd rfl hn
  ·exact h.timS j b hj (fun e=>hne (hX j e)) hlo
 ·have h1:=h.out
  show ((outl s).length:Int)≤((s.boxes.set i z).length:Int)+dead _;rw[hlen,hd];exact h1
theorem Inv.settle{s:St}{N:Nat}{X:Nat→Prop}{i:Nat}{x:P12.Bx}(h:Inv s N X)(hX:∀ j,X j→j=i)(hx:s.boxes[i]?=some x)(hn:¬ loose x)(hc:∀ m,¬ Has (cacL s x.host.toNat) ((i:Int)+1) m)(ht:∀ t,¬ Has s.tim (0,(i:Int)+1) t):Inv s N none_:=
 { h with
  cacI:=fun k id m hm=>by
   obtain⟨j,b,h1,h2,h3,h4,h5⟩:=h.cacI k id m hm;refine⟨j,b,h1,h2,h3,h4,fun _=>h5 (fun e=>?_)⟩;obtain rfl:=hX j e;rw[hx] at h2;cases h2;rw[h1] at hm;refine hc m ?_;rw[h3,Int.toNat_natCast];exact hm
  cacS:=fun j b hj _ hlo=>by
   by_cases e:j=i
   ·subst e;rw[hx] at hj;cases hj;exact absurd hlo hn
   ·exact h.cacS j b hj (fun e2=>e (hX j e2)) hlo
  timI:=fun u t hm=>by
   rcases h.timI u t hm with ⟨h0,j,b,h1,h2,h4,h5⟩|h0
   ·refine .inl ⟨h0,j,b,h1,h2,h4,fun _=>h5 (fun e=>?_)⟩
    obtain rfl:=hX j e;refine ht t ?_;rw[← h1,← h0];exact hm
   ·exact .inr h0
  timS:=fun j b hj _ hlo=>by
   by_cases e:j=i
   ·subst e;rw[hx] at hj;cases hj;exact absurd hlo hn
   ·exact h.timS j b hj (fun e2=>e (hX j e2)) hlo }
theorem Inv.bare{s:St}{N:Nat}{X:Nat→Prop}{i:Nat}{x:P12.Bx}(h:Inv s N X)(hi:¬ X i)(hx:s.boxes[i]?=some x)(hn:¬ loose x):(∀ k m,¬ Has (cacL s k) ((i:Int)+1) m)∧∀ t,¬ Has s.tim (0,(i:Int)+1) t:=by
 refine⟨fun k m hm=>?_,fun t hm=>?_⟩
 ·obtain⟨j,b,h1,h2,h3,h4,h5⟩:=h.cacI k _ m hm
  obtain rfl:j=i:=by omega
  rw[hx] at h2;cases h2;exact hn (h5 hi)
 ·rcases h.timI _ t hm with ⟨h0,j,b,h1,h2,h4,h5⟩ | ⟨h0,-⟩
  ·obtain rfl:j=i:=by simp only at h1;omega
   rw[hx] at h2;cases h2;exact hn (h5 hi)
  ·cases h0
theorem Inv.take{s:St}{N:Nat}{X:Nat→Prop}{i:Nat}{x:P12.Bx}(h:Inv s N X)(hX:∀ j,X j→j=i)(hx:s.boxes[i]?=some x):
  Inv (takeB s i) N (only i)∧(∀ m,¬ Has (cacL (takeB s i) x.host.toNat) ((i:Int)+1) m)∧(∀ t,¬ Has (takeB s i).tim (0,(i:Int)+1) t):=by
 have hb:=h.box i x hx;obtain⟨k,hk,hxk⟩:=hb.host;have hid:=hb.id;have hT:takeB s i={ s with cac:=cset s.cac k (HeapPure.drop P09.lt (cacL s k) x.id,cacC s k),tim:=HeapPure.drop P14.lt s.tim (0,x.id) }:=by
  unfold takeB;rw[hx];simp only[hxk,Int.toNat_natCast];unfold takeS;rw[show cset (cput s.cac k) k=cset s.cac k from funext fun z=>by
   funext j;unfold cset cput
   by_cases e:j=k
   ·simp[e]
   ·simp[e]]
  rfl
 rw[hT];obtain⟨t,ht⟩:∃ t:St,{ s with cac:=cset s.cac k (HeapPure.drop P09.lt (cacL s k) x.id,cacC s k),tim:=HeapPure.drop P14.lt s.tim (0,x.id) }=t:=⟨_,rfl⟩;have tcl:∀ h,cacL t h=if h=k then HeapPure.drop P09.lt (cacL s k) x.id else cacL s h:=fun h=>by
  rw[← ht];exact cacL_set s s.cac k _ h
 have tcc:∀ h,cacC t h=cacC s h:=fun h=>by
  rw[← ht];unfold cacC cset;by_cases e:h=k <;> simp[e]
 have ttim:t.tim=HeapPure.drop P14.lt s.tim (0,x.id):=by rw[← ht]
 have tcac:t.cac=cset s.cac k (HeapPure.drop P09.lt (cacL s k) x.id,cacC s k):=by rw[← ht]
 have old:∀ g id m,Has (cacL t g) id m→Has (cacL s g) id m∧(g=k→id≠x.id):=fun g id m hm=>by
  rw[tcl] at hm;split at hm
  ·rename_i e;subst e
   have:=(drop_has (h.cacG g).inj _ _ _).1 hm;exact⟨this.2,fun _=>this.1⟩
  ·rename_i e
   exact⟨hm,fun e2=>absurd e2 e⟩
 refine⟨?_,?_,?_⟩
 ·have e1:t.boxes=s.boxes:=by rw[← ht]
  have e2:t.fns=s.fns:=by rw[← ht]
  have e3:dead t=dead s:=by rw[← ht];rfl
  rw[ht];refine { now:=by rw[← ht];exact h.now,next:=by rw[← ht];exact h.next,box:=by rw[← ht];exact fun j b hj=>(h.box j b hj).of rfl (fun f y e=>⟨y,e,rfl⟩),fn:=by rw[← ht];exact fun f y hf=>(h.fn f y hf).of (fun _ e=>e) (Int.le_refl _) rfl,fnq:=by rw[← ht];exact h.fnq,quo:=by rw[← ht];exact h.quo,qb:=by rw[← ht];exact h.qb,qa:=by rw[← ht];exact h.qa,host:=by rw[← ht];exact h.host,tok:=by rw[← ht];exact h.tok,cacLt:=?_,cacG:=?_,cacK:=?_,cacV:=?_,cacI:=?_,cacS:=?_,timG:=?_,timI:=?_,timS:=?_,out:=by rw[← ht];exact h.out }
  ·intro g c hc
   rw[tcac] at hc;unfold cset at hc;split at hc
   ·rename_i e;subst e;exact hk
   ·exact h.cacLt g c hc
  ·intro g;rw[tcl];split
   ·exact drop_good P09.ord_lt (h.cacG k) _
   ·exact h.cacG g
  ·intro g;rw[tcc,e3];exact h.cacK g
  ·intro g id m hm;rw[tcc];exact h.cacV g id m (old g id m hm).1
  ·intro g id m hm
   obtain⟨j,b,h1,h2,h3,h4,h5⟩:=h.cacI g id m (old g id m hm).1;exact⟨j,b,h1,by rw[e1];exact h2,h3,h4,fun hn=>h5 (fun e=>hn (hX j e))⟩
  ·intro j b hj hn hlo
   rw[e1] at hj;obtain⟨m,hm⟩:=h.cacS j b hj (fun e=>hn (hX j e)) hlo;refine⟨m,?_⟩;rw[tcl];split
   ·rename_i e
    rw[e] at hm;exact(drop_has (h.cacG k).inj _ _ _).2 ⟨by rw[hid];intro e2;exact hn (by show j=i;omega),hm⟩
   ·exact hm
  ·rw[ttim];exact drop_good P14.ord_lt h.timG _
  ·intro q u hq
   rw[ttim] at hq;obtain⟨h1,h2⟩:=(drop_has h.timG.inj _ _ _).1 hq;rcases h.timI q u h2 with ⟨h0,j,b,h3,h4,h5,h6⟩|⟨h0,g,h3,h4⟩
   ·exact .inl ⟨h0,j,b,h3,by rw[e1];exact h4,h5,fun hn=>h6 (fun e=>hn (hX j e))⟩
   ·exact .inr ⟨h0,g,h3,by rw[e2];exact h4⟩
  ·intro j b hj hn hlo
   rw[e1] at hj;obtain⟨u,hu⟩:=h.timS j b hj (fun e=>hn (hX j e)) hlo;refine⟨u,?_⟩;rw[ttim];exact(drop_has h.timG.inj _ _ _).2 ⟨fun e=>by have:=congrArg Prod.snd e;simp only[hid] at this;exact hn (by show j=i;omega),hu⟩
 ·rw[ht,hxk,Int.toNat_natCast]
  intro m hm;exact(old k _ m hm).2 rfl hid.symm
 ·rw[ht,ttim]
  intro u hu;exact((drop_has h.timG.inj _ _ _).1 hu).1 (by rw[hid])
theorem Inv.fnset{s:St}{N:Nat}{X:Nat→Prop}{f:Nat}{x y:Fnc}{M:Nat}(h:Inv s N X)(hx:s.fns f=some x)(hm:y.mem=x.mem)(hy:FnOk s M f y)(hNM:∀ g u,g≠f→s.fns g=some u→HGood u.his M):Inv { s with fns:=fset s.fns f y } M X:=by
 have hfs:∀ g,(fset s.fns f y g).isSome=(s.fns g).isSome:=fun g=>by
  unfold fset;by_cases e:g=f
  ·subst e;rw[if_pos rfl,hx];rfl
  ·rw[if_neg e]
 refine { h with box:=?_,fn:=?_,fnq:=?_,timI:=?_ }
 ·intro j b hj
  refine(h.box j b hj).of rfl (fun g u hu=>?_);show ∃ y',fset s.fns f y g=some y'∧_;unfold fset;by_cases e:g=f
  ·subst e;rw[hx] at hu;cases hu;rw[if_pos rfl];exact⟨y,rfl,hm⟩
  ·rw[if_neg e];exact⟨u,hu,rfl⟩
 ·intro g u hu
  have hu':fset s.fns f y g=some u:=hu;unfold fset at hu';by_cases e:g=f
  ·subst e;rw[if_pos rfl] at hu';cases hu'
   exact hy.of (fun _ e=>e) (Int.le_refl _) rfl
  ·rw[if_neg e] at hu'
   exact { (h.fn g u hu').of (t:={ s with fns:=fset s.fns f y }) (fun _ e=>e) (Int.le_refl _) rfl with his:=hNM g u e hu' }
 ·intro g hg
  show _=(fset s.fns f y g).isSome;rw[hfs];exact h.fnq g hg
 ·intro q u hq
  rcases h.timI q u hq with h0|⟨h0,g,h3,h4⟩
  ·exact .inl h0
  ·exact .inr ⟨h0,g,h3,by show (fset s.fns f y g).isSome=true;rw[hfs];exact h4⟩
theorem HGood.mono{h:Hst}{n m:Nat}(g:HGood h n)(hnm:n≤m):HGood h m:=⟨fun i hi=>by have:=g.bins i hi;omega,g.inn,g.over,by have:=g.sum;omega⟩
theorem Inv.up{s:St}{N M:Nat}{X:Nat→Prop}(h:Inv s N X)(hm:N≤M):Inv s M X:={ h with fn:=fun f y e=>{ h.fn f y e with his:=(h.fn f y e).his.mono hm } }
theorem mkC_spec{c up d:Nat}{id:Int}(h:0 < d∧c*d+up < 18446744073709551616∧d < 18446744073709551616):(mkC c up d id).n=c*d+up∧(mkC c up d id).d=d∧(mkC c up d id).id=id:=by
 unfold mkC;rw[dif_pos h];exact⟨rfl,rfl,rfl⟩
theorem clock_fits{s:St}{N:Nat}{X:Nat→Prop}(h:Inv s N X)(hL:s.boxes.length≤1000000000)(k:Nat){f:Nat}{y:Fnc}(hy:s.fns f=some y):
  0 < y.mem∧cacC s k*y.mem+y.often*y.cost < 18446744073709551616∧y.mem < 18446744073709551616∧y.often*y.cost≤1000000:=by
 have hf:=h.fn f y hy;have h1:=h.cacK k;have h2:=(dead_bd s).2;have h3:cacC s k≤1000000000000000:=by omega
 have h4:cacC s k*y.mem≤1000000000000000*4096:=Nat.mul_le_mul h3 hf.mem.2;have h5:y.often*y.cost≤1000*1000:=Nat.mul_le_mul hf.often hf.cost.2;have h6:=hf.mem;exact⟨by omega,by omega,by omega,by omega⟩
theorem Inv.idle{s:St}{N:Nat}{X:Nat→Prop}{i:Nat}{x:P12.Bx}(h:Inv s N X)(hL:s.boxes.length≤1000000000)(hX:∀ j,X j→j=i)(hx:s.boxes[i]?=some x)(hlo:loose x)(e:Int):
  Inv (idleS s i e) N none_∧(idleS s i e).boxes.length=s.boxes.length:=by
 have hl:x.st≠3:=by rw[hlo.1];decide
 by_cases he:e≤s.now
 ·obtain⟨a1,-,a3⟩:=h.kill hX hx hl
  have:idleS s i e=killS s i:=by unfold idleS;rw[hx];simp only;rw[if_pos he]
  rw[this];exact⟨a1,a3⟩
 have hb:=h.box i x hx;obtain⟨k,hk,hxk⟩:=hb.host;obtain⟨f,hf,hxf,y,hy,hmem⟩:=hb.fn;have hid:=hb.id;obtain⟨c1,c2,c3,c4⟩:=clock_fits h hL k hy;obtain⟨m1,m2,m3⟩:=mkC_spec (id:=x.id) ⟨c1,c2,c3⟩;obtain⟨mk0,hmk⟩:∃ m,mkC (cacC s k) (y.often*y.cost) y.mem x.id=m:=⟨_,rfl⟩;rw[hmk] at m1 m2 m3;have hT:idleS s i e={ s with cac:=cset s.cac k (setAt P09.lt (cacL s k) x.id mk0,cacC s k),tim:=setAt P14.lt s.tim (0,x.id) ⟨e,0,x.id⟩ }:=by
  unfold idleS;rw[hx];simp only;rw[if_neg he];simp only[hxk,hxf,Int.toNat_natCast,hy];rw[← hmk];rfl
 rw[hT];obtain⟨t,ht⟩:∃ t:St,{ s with cac:=cset s.cac k (setAt P09.lt (cacL s k) x.id mk0,cacC s k),tim:=setAt P14.lt s.tim (0,x.id) ⟨e,0,x.id⟩ }=t:=⟨_,rfl⟩;have tcl:∀ h,cacL t h=if h=k then setAt P09.lt (cacL s k) x.id mk0 else cacL s h:=fun h=>by
  rw[← ht];exact cacL_set s s.cac k _ h
 have tcc:∀ h,cacC t h=cacC s h:=fun h=>by
  rw[← ht];unfold cacC cset;by_cases e:h=k <;> simp[e]
 have ttim:t.tim=setAt P14.lt s.tim (0,x.id) ⟨e,0,x.id⟩:=by rw[← ht]
 have tcac:t.cac=cset s.cac k (setAt P09.lt (cacL s k) x.id mk0,cacC s k):=by rw[← ht]
 have e1:t.boxes=s.boxes:=by rw[← ht]
 have e2:t.fns=s.fns:=by rw[← ht]
 have e3:dead t=dead s:=by rw[← ht];rfl
 have old:∀ g id m,Has (cacL t g) id m→(g=k∧id=x.id∧m=mk0)∨(Has (cacL s g) id m∧(g=k→id≠x.id)):=fun g id m hm=>by
  rw[tcl] at hm;split at hm
  ·rename_i e;subst e
   have:=(setAt_has (h.cacG g).inj _ _ _ _).1 hm;split at this
   ·rename_i e;exact .inl ⟨rfl,e,this⟩
   ·rename_i e;exact .inr ⟨this,fun _=>e⟩
  ·rename_i e
   exact .inr ⟨hm,fun e2=>absurd e2 e⟩
 rw[ht];refine⟨{ now:=by rw[← ht];exact h.now,next:=by rw[← ht];exact h.next,box:=by rw[← ht];exact fun j b hj=>(h.box j b hj).of rfl (fun f y e=>⟨y,e,rfl⟩),fn:=by rw[← ht];exact fun f y hf=>(h.fn f y hf).of (fun _ e=>e) (Int.le_refl _) rfl,fnq:=by rw[← ht];exact h.fnq,quo:=by rw[← ht];exact h.quo,qb:=by rw[← ht];exact h.qb,qa:=by rw[← ht];exact h.qa,host:=by rw[← ht];exact h.host,tok:=by rw[← ht];exact h.tok,cacLt:=?_,cacG:=?_,cacK:=?_,cacV:=?_,cacI:=?_,cacS:=?_,timG:=?_,timI:=?_,timS:=?_,out:=by rw[← ht];exact h.out },by rw[e1]⟩
 ·intro g c hc
  rw[tcac] at hc;unfold cset at hc;split at hc
  ·rename_i e;subst e;exact hk
  ·exact h.cacLt g c hc
 ·intro g;rw[tcl];split
  ·exact setAt_good P09.ord_lt (h.cacG k) _ _
  ·exact h.cacG g
 ·intro g;rw[tcc,e3];exact h.cacK g
 ·intro g id m hm
  rw[tcc];rcases old g id m hm with ⟨rfl,-,rfl⟩|⟨h1,-⟩
  ·rw[m1,m2,Nat.mul_add,Nat.mul_comm (cacC s g)]
   have:1*1000000≤y.mem*1000000:=Nat.mul_le_mul c1 (Nat.le_refl _);omega
  ·exact h.cacV g id m h1
 ·intro g id m hm
  rcases old g id m hm with ⟨rfl,rfl,-⟩|⟨h0,hne⟩
  ·exact⟨i,x,hid,by rw[e1];exact hx,hxk,hl,fun _=>hlo⟩
  ·obtain⟨j,b,h1,h2,h3,h4,h5⟩:=h.cacI g id m h0
   refine⟨j,b,h1,by rw[e1];exact h2,h3,h4,fun _=>?_⟩;by_cases e:j=i
   ·subst e;rw[hx] at h2;cases h2;exact hlo
   ·exact h5 (fun e2=>e (hX j e2))
 ·intro j b hj _ hlo'
  rw[e1] at hj;by_cases ej:j=i
  ·subst ej
   rw[hx] at hj;cases hj;refine⟨mk0,?_⟩;rw[tcl,hxk,Int.toNat_natCast,if_pos rfl,setAt_has (h.cacG k).inj,if_pos hid.symm]
  ·obtain⟨m,hm⟩:=h.cacS j b hj (fun e=>ej (hX j e)) hlo'
   refine⟨m,?_⟩;rw[tcl];split
   ·rename_i e
    rw[e] at hm;rw[setAt_has (h.cacG k).inj,if_neg (by rw[hid];omega)];exact hm
   ·exact hm
 ·rw[ttim];exact setAt_good P14.ord_lt h.timG _ _
 ·intro q u hq
  rw[ttim,setAt_has h.timG.inj] at hq;split at hq
  ·rename_i eq
   subst eq;exact .inl ⟨rfl,i,x,hid,by rw[e1];exact hx,hl,fun _=>hlo⟩
  ·rcases h.timI q u hq with ⟨h0,j,b,h3,h4,h5,h6⟩ | ⟨h0,g,h3,h4⟩
   ·refine .inl ⟨h0,j,b,h3,by rw[e1];exact h4,h5,fun _=>?_⟩
    by_cases e:j=i
    ·subst e;rw[hx] at h4;cases h4;exact hlo
    ·exact h6 (fun e2=>e (hX j e2))
   ·exact .inr ⟨h0,g,h3,by rw[e2];exact h4⟩
 ·intro j b hj _ hlo'
  rw[e1] at hj;by_cases ej:j=i
  ·subst ej
   refine⟨⟨e,0,x.id⟩,?_⟩;rw[ttim,setAt_has h.timG.inj,if_pos (by rw[hid])]
  ·obtain⟨u,hu⟩:=h.timS j b hj (fun e=>ej (hX j e)) hlo'
   refine⟨u,?_⟩;rw[ttim,setAt_has h.timG.inj,if_neg (fun e=>by have:=congrArg Prod.snd e;simp only[hid] at this;omega)];exact hu
theorem Inv.start{s:St}{N:Nat}{f k:Nat}{y:Fnc}(h:Inv s N none_)(hy:s.fns f=some y)(hk:k < 32)(hu:upH s.hosts k=true)(hfit:(y.mem:Int)≤P13.free (s.hosts k)):
  Inv (startS s f k) N none_∧(startS s f k).boxes.length=s.boxes.length+1∧dead (startS s f k)=dead s:=by
 have hfo:=h.fn f y hy;obtain⟨x,hx⟩:∃ x:P12.Bx,⟨s.next,f,k,y.mem,0,false,false,s.now⟩=x:=⟨_,rfl⟩;have x1:x.id=(s.boxes.length:Int)+1:=by rw[← hx];exact h.next
 have x2:x.fn=(f:Int):=by rw[← hx]
 have x3:x.host=(k:Int):=by rw[← hx]
 have x4:x.mem=(y.mem:Int):=by rw[← hx]
 have x5:x.st=0:=by rw[← hx]
 have x6:x.bound=false:=by rw[← hx]
 have hup:(s.hosts k).th=true∧(s.hosts k).dr=false:=by simpa[upH] using hu
 have hfr:P13.free (s.hosts k)=(s.hosts k).sz - (s.hosts k).us:=by unfold P13.free;rw[if_pos hup.1]
 have htook:P13.took (s.hosts k) y.mem={ s.hosts k with us:=(s.hosts k).us+y.mem }:=by
  unfold P13.took P13.mayTake;rw[if_pos (by simp[hup.1,hup.2];omega)]
 have hT:startS s f k={ s with hosts:=P13.put s.hosts k { s.hosts k with us:=(s.hosts k).us+y.mem },boxes:=s.boxes++[x],next:=s.next+1,live:=fun j=>if j=s.next then true else s.live j,out:=some (outl s++[⟨true,s.next,f,k⟩]) }:=by
  unfold startS;rw[hy];simp only[htook,hx]
 rw[hT];clear hT htook;have hget:∀ j b,(s.boxes++[x])[j]?=some b→(j=s.boxes.length∧b=x)∨(j < s.boxes.length∧s.boxes[j]?=some b):=fun j b hj=>by
  rcases Nat.lt_or_ge j s.boxes.length with hlt|hge
  ·rw[List.getElem?_append_left hlt] at hj
   exact .inr ⟨hlt,hj⟩
  ·rw[List.getElem?_append_right hge] at hj
   have hj2:j - s.boxes.length=0:=by
    rcases Nat.eq_zero_or_pos (j - s.boxes.length) with h0|h0
    ·exact h0
    ·rw[List.getElem?_eq_none (by simp;omega)] at hj;cases hj
   rw[hj2] at hj;simp at hj;exact .inl ⟨by omega,hj.symm⟩
 have hold:∀ j b,s.boxes[j]?=some b→(s.boxes++[x])[j]?=some b:=fun j b hj=>by
  rw[List.getElem?_append_left (get_lt hj)];exact hj
 have hnew:¬ loose x:=fun e=>by rw[loose,x5] at e;exact absurd e.1 (by decide)
 have hdead:sumB deadG (s.boxes++[x])=dead s:=by
  rw[sumB_snoc,show deadG x=0 by unfold deadG;rw[if_neg (by omega)]];unfold dead;omega
 refine⟨{ now:=h.now,next:=?_,box:=?_,fn:=?_,fnq:=h.fnq,quo:=h.quo,qb:=?_,qa:=h.qa,host:=?_,tok:=h.tok,cacLt:=h.cacLt,cacG:=h.cacG,cacK:=?_,cacV:=h.cacV,cacI:=?_,cacS:=?_,timG:=h.timG,timI:=?_,timS:=?_,out:=?_ },by simp,hdead⟩
 ·show s.next+1=((s.boxes++[x]).length:Int)+1
  have:=h.next;simp;omega
 ·intro j b hj
  rcases hget j b hj with ⟨rfl,rfl⟩|⟨hlt,hj⟩
  ·refine⟨x1,by omega,?_,fun _=>x5,fun e=>by omega,⟨f,hfo.lt,x2,y,hy,x4⟩,⟨k,hk,x3⟩⟩
   show (if (s.boxes.length:Int)+1=s.next then true else s.live _)=true↔_;rw[if_pos h.next.symm];exact⟨fun _=>by omega,fun _=>rfl⟩
  ·refine(h.box j b hj).of ?_ (fun f y e=>⟨y,e,rfl⟩)
   show (if (j:Int)+1=s.next then true else s.live _)=_;rw[if_neg (by have:=h.next;omega)]
 ·intro g u hg
  exact(h.fn g u hg).of (fun _ e=>e) (Int.le_refl _) rfl
 ·intro g hg
  have e:busyOn ({ s with hosts:=P13.put s.hosts k { s.hosts k with us:=(s.hosts k).us+y.mem },boxes:=s.boxes++[x],next:=s.next+1,live:=fun j=>if j=s.next then true else s.live j,out:=some (outl s++[⟨true,s.next,f,k⟩]) }:St) g=busyOn s g:=by
   show sumB (busyG g) (s.boxes++[x])=_;rw[sumB_snoc,show busyG g x=0 by unfold busyG;rw[if_neg (fun e=>by have:=e.1;simp[P12.runs,x5,x6] at this)]];unfold busyOn;omega
  rw[e];exact h.qb g hg
 ·intro g hg
  have e:memOn ({ s with hosts:=P13.put s.hosts k { s.hosts k with us:=(s.hosts k).us+y.mem },boxes:=s.boxes++[x],next:=s.next+1,live:=fun j=>if j=s.next then true else s.live j,out:=some (outl s++[⟨true,s.next,f,k⟩]) }:St) g=memOn s g+memG g x:=by
   show sumB (memG g) (s.boxes++[x])=_;rw[sumB_snoc];rfl
  rw[e];show HostOk (P13.put s.hosts k _ g)∧(P13.put s.hosts k _ g).us=_;by_cases eg:g=k
  ·subst eg
   rw[P13.put_same];obtain⟨⟨u1,u2,u3⟩,h2,h3⟩:=(h.host g hg).1;have h4:=(h.host g hg).2;rw[show memG g x=(y.mem:Int) by unfold memG;rw[if_pos ⟨by omega,x3⟩,x4]];refine⟨⟨⟨by show 0≤(s.hosts g).us+(y.mem:Int);omega,by show (s.hosts g).us+(y.mem:Int)≤(s.hosts g).sz;omega,u3⟩,fun e=>?_,fun e=>?_⟩,by show (s.hosts g).us+(y.mem:Int)=_;omega⟩
   ·have:(s.hosts g).th=false:=e
    rw[hup.1] at this;cases this
   ·have:(s.hosts g).dr=true:=e
    rw[hup.2] at this;cases this
  ·rw[P13.put_ne _ _ _ _ eg,show memG g x=0 by unfold memG;rw[if_neg (fun e=>by have:=e.2;rw[x3] at this;omega)]]
   have:=h.host g hg;exact⟨this.1,by omega⟩
 ·intro g
  show (cacC s g:Int)≤1000000*sumB deadG (s.boxes++[x]);rw[hdead];exact h.cacK g
 ·intro g id m hm
  obtain⟨j,b,h1,h2,h3,h4,h5⟩:=h.cacI g id m hm;exact⟨j,b,h1,hold j b h2,h3,h4,h5⟩
 ·intro j b hj hn hlo
  rcases hget j b hj with ⟨rfl,rfl⟩|⟨hlt,hj⟩
  ·exact absurd hlo hnew
  ·exact h.cacS j b hj hn hlo
 ·intro q u hq
  rcases h.timI q u hq with ⟨h0,j,b,h1,h2,h4,h5⟩|h0
  ·exact .inl ⟨h0,j,b,h1,hold j b h2,h4,h5⟩
  ·exact .inr h0
 ·intro j b hj hn hlo
  rcases hget j b hj with ⟨rfl,rfl⟩|⟨hlt,hj⟩
  ·exact absurd hlo hnew
  ·exact h.timS j b hj hn hlo
 ·have h1:=h.out
  show ((outl s++[_]).length:Int)≤((s.boxes++[x]).length:Int)+sumB deadG (s.boxes++[x]);rw[hdead];simp;omega
end Go.Proofs.YtigeldkbfbcpmaaGreat
namespace Go.Proofs.YtigeldkbfbcpmaaGreat
open Go.RowKit Go.Kpt
section
variable {w0 w:World} {F0:Nat→Prop} {s:St} {A:Adr}
theorem cache_rs(h:Rs w0 F0 w s A)(k:Nat)(hk:k < 32):
  Calls Tryz.prog 144 #[.pointer (some ⟨A.core,0,none⟩),.int .i64 k] w fun e w'=>∃ cac:Nat→Nat,e=.returned (.pointer (some ⟨cac k,0,none⟩))∧Rs w0 F0 w' { s with cac:=cput s.cac k } { A with cac:=cac }:=by
 refine(cache_any s A _ k hk w h.1).mono ?_;rintro e w' ⟨cac,rfl,h1,h2⟩;exact⟨cac,rfl,(h.next (A':={ A with cac:=cac }) h1 h2).1,(h.next (A':={ A with cac:=cac }) h1 h2).2⟩
theorem set_rs(h:Rs w0 F0 w s A)(k:Nat)(cc:Cac)(hcc:s.cac k=some cc)(id:Int)(hid:(Lit.int .i64 id).wf=true)(o co d:Nat)(ho:o≤1023)(hco:co≤1023)
  (hf:0 < d∧cc.2*d+o*co < 18446744073709551616∧d < 18446744073709551616) (hl:cc.1.length+1≤1000000000):
  Calls Tryz.prog 148 #[.pointer (some ⟨A.cac k,0,none⟩),.int .i64 id,.int .u64 o,.int .u64 co,.int .u64 d] w fun e w'=>e=.returned (.bool true) ∧
   Rs w0 F0 w' { s with cac:=cset s.cac k (HeapPure.setAt P09.lt cc.1 id (mkC cc.2 (o*co) d id),cc.2) } A:=by
 obtain⟨Q,hX,hnext⟩:=h.1.cacheTurn k cc hcc;refine(P09.xset_any P09.lessC 0 (A.cac k) cc.1 cc.2 id hid o co d ho hco hf.1 hf.2.2 hf.2.1 hl Q w hX).mono ?_;rintro e w' ⟨rfl,h1,h2,h3⟩;have e1:mkC cc.2 (o*co) d id=P09.mk cc.2 (o*co) d id hf.1 hf.2.1 hf.2.2:=by unfold mkC;rw[dif_pos hf]
 rw[e1];obtain⟨r1,r2⟩:=hnext w' (HeapPure.setAt P09.lt cc.1 id _,cc.2) h1 h2 h3;exact⟨rfl,h.next r1 r2⟩
theorem evict_rs(h:Rs w0 F0 w s A)(k:Nat)(cc:Cac)(hcc:s.cac k=some cc)(hl:0 < cc.1.length):
  Calls Tryz.prog 145 #[.pointer (some ⟨A.cac k,0,none⟩)] w fun e w'=>e=.returned (.tuple #[.int .i64 (HeapPure.kk cc.1 0),.bool true]) ∧
   Rs w0 F0 w' { s with cac:=cset s.cac k (HeapPure.drop P09.lt cc.1 (HeapPure.kk cc.1 0),max cc.2 ((HeapPure.vv cc.1 0).n / (HeapPure.vv cc.1 0).d)) } A:=by
 obtain⟨Q,hX,hnext⟩:=h.1.cacheTurn k cc hcc;refine(P09.xevict_some P09.lessC 0 (A.cac k) cc.1 cc.2 hl Q w hX).mono ?_;rintro e w' ⟨rfl,h1,h2,h3⟩;obtain⟨r1,r2⟩:=hnext w' (HeapPure.drop P09.lt cc.1 (HeapPure.kk cc.1 0),max cc.2 ((HeapPure.vv cc.1 0).n / (HeapPure.vv cc.1 0).d)) h1 h2 h3;exact⟨rfl,h.next r1 r2⟩
theorem tset_rs(h:Rs w0 F0 w s A)(k:P14.Ke)(hk:P14.kok k)(at_:Int)(hl:s.tim.length+1≤1000000000):
  Calls Tryz.prog 101 #[.pointer (some ⟨A.tim,0,none⟩),.agg #[.int .i64 k.1,.int .i64 k.2],.int .i64 at_] w fun e w'=>e=.returned (.tuple #[])∧Rs w0 F0 w' { s with tim:=HeapPure.setAt P14.lt s.tim k ⟨at_,k.1,k.2⟩ } A:=by
 obtain⟨Q,hX,hnext⟩:=h.1.timTurn;refine(P14.tset_any 0 A.tim s.tim k at_ hk hl Q w hX).mono ?_;rintro e w' ⟨rfl,h1,h2,h3⟩;obtain⟨r1,r2⟩:=hnext w' _ h1 h2 h3;exact⟨rfl,h.next r1 r2⟩
theorem tdrop_rs(h:Rs w0 F0 w s A)(k:P14.Ke)(hk:P14.kok k):
  Calls Tryz.prog 140 #[.pointer (some ⟨A.tim,0,none⟩),.agg #[.int .i64 k.1,.int .i64 k.2]] w fun e w'=>(∃ b,e=.returned (.bool b))∧Rs w0 F0 w' { s with tim:=HeapPure.drop P14.lt s.tim k } A:=by
 obtain⟨Q,hX,hnext⟩:=h.1.timTurn;refine(P14.tdrop_any 0 A.tim s.tim k hk Q w hX).mono ?_;rintro e w' ⟨rfl,h1,h2,h3⟩;obtain⟨r1,r2⟩:=hnext w' _ h1 h2 h3;exact⟨⟨_,rfl⟩,h.next r1 r2⟩
theorem tnext_rs(h:Rs w0 F0 w s A)(now:Int):
  Calls Tryz.prog 69 #[.pointer (some ⟨A.tim,0,none⟩),.int .i64 now] w fun e w'=>
   (¬ (0 < s.tim.length∧(HeapPure.vv s.tim 0).at_≤now)∧e=.returned (.tuple #[P14.kv (0,0),.bool false])∧Rs w0 F0 w' s A) ∨
   ((0 < s.tim.length∧(HeapPure.vv s.tim 0).at_≤now)∧e=.returned (.tuple #[P14.kv (HeapPure.kk s.tim 0),.bool true])∧Rs w0 F0 w' { s with tim:=HeapPure.drop P14.lt s.tim (HeapPure.kk s.tim 0) } A):=by
 obtain⟨Q,hX,hnext⟩:=h.1.timTurn;by_cases hc:0 < s.tim.length∧(HeapPure.vv s.tim 0).at_≤now
 ·refine(P14.next_some 0 A.tim s.tim now hc.1 hc.2 Q w hX).mono ?_
  rintro e w' ⟨rfl,h1,h2,h3⟩;obtain⟨r1,r2⟩:=hnext w' _ h1 h2 h3;exact .inr ⟨hc,rfl,h.next r1 r2⟩
 ·refine(P14.next_none 0 A.tim s.tim now hc Q w hX).mono ?_
  rintro e w' ⟨rfl,h1⟩;exact .inl ⟨hc,rfl,h.below h1⟩
end
theorem keys_le{K V:Type}{l:List (K×V)}(hI:HeapPure.Inj l)(g:K→Int)(n:Nat)(hg:∀ k v,HeapPure.Has l k v→0≤g k∧g k < n)(hi:∀ k v k' v',HeapPure.Has l k v→HeapPure.Has l k' v'→g k=g k'→k=k'):l.length≤n:=by
 have h1:(l.map (fun p=>g p.1)).Nodup:=by
  refine List.pairwise_map.2 (List.pairwise_iff_getElem.2 fun i j hi' hj' hij e=>?_);have a1:HeapPure.Has l (l[i]).1 (l[i]).2:=⟨i,List.getElem?_eq_getElem hi'⟩;have a2:HeapPure.Has l (l[j]).1 (l[j]).2:=⟨j,List.getElem?_eq_getElem hj'⟩;have e2:=hi _ _ _ _ a1 a2 e;have:=hI i j (l[i]).1 (l[i]).2 (l[j]).2 (List.getElem?_eq_getElem hi') (by rw[List.getElem?_eq_getElem hj',e2]);omega
 have h2:=nodup_le n _ h1 (fun x hx=>by
  obtain⟨p,hp,rfl⟩:=List.mem_map.1 hx;obtain⟨i,hi',rfl⟩:=List.getElem_of_mem hp;exact hg _ _ ⟨i,List.getElem?_eq_getElem hi'⟩)
 simpa using h2
theorem cac_len{s:St}{N:Nat}{X:Nat→Prop}(h:Inv s N X)(k:Nat):(cacL s k).length≤s.boxes.length:=by
 refine keys_le (h.cacG k).inj (fun id=>id - 1) _ (fun id v hv=>?_) (fun a _ b _ _ _ e=>by omega);obtain⟨i,x,h1,h2,-⟩:=h.cacI k id v hv;have:i < s.boxes.length:=by
  rcases Nat.lt_or_ge i s.boxes.length with hh|hh
  ·exact hh
  ·rw[List.getElem?_eq_none hh] at h2;cases h2
 omega
theorem tim_len{s:St}{N:Nat}{X:Nat→Prop}(h:Inv s N X):s.tim.length≤s.boxes.length+64:=by
 refine keys_le h.timG.inj (fun k:P14.Ke=>if k.1=0 then k.2 - 1+64 else k.2) _ (fun k v hv=>?_) (fun a va b vb ha hb e=>?_)
 ·rcases h.timI k v hv with ⟨h0,i,x,h1,h2,-⟩ | ⟨h0,f,h1,h2⟩
  ·have:i < s.boxes.length:=by
    rcases Nat.lt_or_ge i s.boxes.length with hh|hh
    ·exact hh
    ·rw[List.getElem?_eq_none hh] at h2;cases h2
   simp only[h0,if_true];omega
  ·have hf:f < 64:=by
    cases e:s.fns f with
    | none=>rw[e] at h2;cases h2
    | some y=>exact(h.fn f y e).lt
   simp only[h0];rw[if_neg (by decide)];omega
 ·obtain⟨a1,a2⟩:=a
  obtain⟨b1,b2⟩:=b;have key:∀ (c1 c2:Int) v,HeapPure.Has s.tim (c1,c2) v→(c1=0∧1≤c2)∨(c1=1∧0≤c2∧c2 < 64):=by
   intro c1 c2 v hv;rcases h.timI _ v hv with ⟨h0,i,x,h1,h2,-⟩|⟨h0,f,h1,h2⟩
   ·simp only at h0 h1;exact .inl ⟨h0,by omega⟩
   ·have hf:f < 64:=by
     cases e:s.fns f with
     | none=>rw[e] at h2;cases h2
     | some y=>exact(h.fn f y e).lt
    simp only at h0 h1;exact .inr ⟨h0,by omega,by omega⟩
  have k1:=key _ _ _ ha;have k2:=key _ _ _ hb;simp only at e;rcases k1 with ⟨rfl,k1⟩|⟨rfl,k1⟩ <;> rcases k2 with ⟨rfl,k2⟩ | ⟨rfl,k2⟩ <;> simp at e <;> simp <;> omega
theorem u64_id{n:Nat}(h:n < 9223372036854775808):IntKind.u64.wrap (n:Int)=(n:Int):=IntWalk.u64_in _ ⟨by omega,by omega⟩
theorem idle_any(s:St)(N:Nat)(X:Nat→Prop)(hI:Inv s N X)(hL:s.boxes.length≤999000000)(l:List Cmd)(hl0:s.out=some l)(hl1:l.length≤2000000000)(A:Adr)(w0:World)(F0:Nat→Prop)(i:Nat)(x:P12.Bx)(hx:s.boxes[i]?=some x)(hl:x.st≠3)(en:Int)(w:World)(h:Rs w0 F0 w s A):
  Calls Tryz.prog 97 #[.pointer (some ⟨A.core,0,none⟩),.pointer (some ⟨A.box i,0,none⟩),.int .i64 en] w fun e w'=>e=.returned (.tuple #[])∧∃ cac:Nat→Nat,Rs w0 F0 w' (idleS s i en) { A with cac:=cac }:=by
 have hi:i < 1000000000:=by have:=get_lt hx;omega
 have hki:=kill_any s N hI.low l hl0 hl1 A w0 F0 i hi x hx hl w h;obtain⟨c0,-,-,-,c4,-⟩:=h.cc;by_cases he:en≤s.now
 ·have hT:idleS s i en=killS s i:=by unfold idleS;rw[hx];simp only;rw[if_pos he]
  rw[hT];clear hI hl0 hx h hT;go_enter Tryz.func97,Tryz.ntmps97
  go_wp2_with (go_at_call 70;refine hki.mono ?_;rintro e w1 ⟨rfl,cac,h1⟩)
  go_returns
  exact⟨rfl,cac,h1⟩
 clear hki;have hb:=hI.box i x hx;obtain⟨f,hf,hxf,y,hy,hmem⟩:=hb.fn;obtain⟨k,hk,hxk⟩:=hb.host;have hid:=hb.id;have hfo:=hI.fn f y hy;obtain⟨d1,d2,d3,d4⟩:=clock_fits hI (by omega) k hy;have hcl:=cac_len hI k;have htl:=tim_len hI;have hT:idleS s i en={ s with cac:=cset s.cac k (HeapPure.setAt P09.lt (cacL s k) x.id (mkC (cacC s k) (y.often*y.cost) y.mem x.id),cacC s k),tim:=HeapPure.setAt P14.lt s.tim (0,x.id) ⟨en,0,x.id⟩ }:=by
  unfold idleS;rw[hx];simp only;rw[if_neg he];simp only[hxk,hxf,Int.toNat_natCast,hy];rfl
 rw[hT];clear hT;have hidw:(Lit.int .i64 x.id).wf=true:=by rw[hid];exact WalkArith.wf_i64 (by omega)
 obtain⟨id,hidv⟩:∃ id,x.id=id:=⟨_,rfl⟩;have u1:=u64_id (n:=y.often) (by have:=hfo.often;omega);have u2:=u64_id (n:=y.cost) (by have:=hfo.cost;omega);have u3:=u64_id (n:=y.mem) (by have:=hfo.mem;omega);have v1:y.often≤1023:=by have:=hfo.often;omega
 have v2:y.cost≤1023:=by have:=hfo.cost;omega
 have hlk:=fun n=>(h.drewN n).1.look_fn (f:Int) (WalkArith.wf_i64 (by omega)) (some (A.fn f)) (by unfold mFn;rw[if_pos (by omega),show (f:Int).toNat=f by omega,hy];rfl);have HF:∀ (s':St) (w':World) (cac:Nat→Nat),s'.fns=s.fns→Rs w0 F0 w' s' { A with cac:=cac }→w'.cell? ⟨A.fn f,4,none⟩=some (.int .i64 y.often)∧w'.cell? ⟨A.fn f,2,none⟩=some (.int .i64 y.cost)∧w'.cell? ⟨A.fn f,1,none⟩=some (.int .i64 y.mem):=by
  intro s' w' cac e1 h';obtain⟨hc,-⟩:=h'.1.fn (f:=f) (x:=y) (by rw[e1];exact hy);exact⟨(cell_of hc).trans rfl,(cell_of hc).trans rfl,(cell_of hc).trans rfl⟩
 have HB:∀ (s':St) (w':World) (cac:Nat→Nat),s'.boxes=s.boxes→Rs w0 F0 w' s' { A with cac:=cac }→w'.cell? ⟨A.box i,0,none⟩=some (.int .i64 id)∧w'.cell? ⟨A.box i,1,none⟩=some (.int .i64 f)∧w'.cell? ⟨A.box i,2,none⟩=some (.int .i64 k):=by
  intro s' w' cac e1 h';obtain⟨a0,a1,a2,-⟩:=(h'.bq (i:=i) (x:=x) (by rw[e1];exact hx)).cells;rw[hidv] at a0;rw[hxf] at a1;rw[hxk] at a2;exact⟨a0,a1,a2⟩
 rw[hidv] at hidw ⊢;obtain⟨b0,b1,b2⟩:=HB s w A.cac rfl h;have HB:=Lib.hid HB;have HF:=Lib.hid HF;have H:=Lib.hid h;have hca:=fun n=>cache_rs (h.drewN n) k hk;have hse:∀ (w':World) (cac:Nat→Nat),Rs w0 F0 w' { s with cac:=cput s.cac k } { A with cac:=cac } →
   Calls Tryz.prog 148 #[.pointer (some ⟨cac k,0,none⟩),.int .i64 id,.int .u64 y.often,.int .u64 y.cost,.int .u64 y.mem] w' fun e w''=>e=.returned (.bool true) ∧
    Rs w0 F0 w'' { s with cac:=cset s.cac k (HeapPure.setAt P09.lt (cacL s k) id (mkC (cacC s k) (y.often*y.cost) y.mem id),cacC s k) } { A with cac:=cac }:=by
  intro w' cac h';have hset:=set_rs h' k _ (cput_at s.cac k) id hidw y.often y.cost y.mem v1 v2 ⟨d1,d2,d3⟩ (by unfold cacL at hcl;omega);simp only[cset_cput] at hset;exact hset
 have hse:=Lib.hid hse;have hts:∀ (s':St) (w':World) (cac:Nat→Nat),s'.tim=s.tim→Rs w0 F0 w' s' { A with cac:=cac } →
   Calls Tryz.prog 101 #[.pointer (some ⟨A.tim,0,none⟩),.agg #[.int .i64 0,.int .i64 id],.int .i64 en] w' fun e w''=>e=.returned (.tuple #[])∧Rs w0 F0 w'' { s' with tim:=HeapPure.setAt P14.lt s.tim (0,id) ⟨en,0,id⟩ } { A with cac:=cac }:=by
  intro s' w' cac e1 h';have:=tset_rs h' (0,id) ⟨(by decide:(Lit.int .i64 0).wf=true),hidw⟩ en (by rw[e1];omega);rw[e1] at this;exact this
 have hts:=Lib.hid hts;obtain⟨s1,hs1⟩:∃ s1:St,{ s with cac:=cset s.cac k (HeapPure.setAt P09.lt (cacL s k) id (mkC (cacC s k) (y.often*y.cost) y.mem id),cacC s k) }=s1:=⟨_,rfl⟩;have e1:s1.boxes=s.boxes:=by rw[← hs1]
 have e2:s1.tim=s.tim:=by rw[← hs1]
 have e4:s1.fns=s.fns:=by rw[← hs1]
 have e3:{ s with cac:=cset s.cac k (HeapPure.setAt P09.lt (cacL s k) id (mkC (cacC s k) (y.often*y.cost) y.mem id),cacC s k),tim:=HeapPure.setAt P14.lt s.tim (0,id) ⟨en,0,id⟩ }=({ s1 with tim:=HeapPure.setAt P14.lt s.tim (0,id) ⟨en,0,id⟩ }:St):=by rw[← hs1]
 rw[e3];rw[hs1] at hse;clear e3 hs1 h hb hI hcl htl hx hxf hxk hfo hy hl0 hl1 d2 d3 d4 hid hidv hl hmem;simp only[pv] at hlk;obtain⟨o,ho⟩:∃ o:Int,(y.often:Int)=o:=⟨_,rfl⟩;obtain⟨co,hco⟩:∃ o:Int,(y.cost:Int)=o:=⟨_,rfl⟩;obtain⟨d,hd⟩:∃ o:Int,(y.mem:Int)=o:=⟨_,rfl⟩;rw[ho] at u1 HF hse;rw[hco] at u2 HF hse;rw[hd] at u3 HF hse;have he':¬ en≤s.now:=he;go_enter Tryz.func97,Tryz.ntmps97
 go_wp2_with fail
 go_quiet (fail)
 go_wp2_with fail
 obtain⟨k0,k1,k2⟩:=HB.out s w A.cac rfl H.out;obtain⟨f4,f2,f1⟩:=HF.out s w A.cac rfl H.out;clear c0 c4 b0 b1 b2 k1 hlk;go_region_held3 (fun W=>W.cell? ⟨A.box i,2,none⟩=some (.int .i64 k)∧W.cell? ⟨A.box i,0,none⟩=some (.int .i64 id)∧W.cell? ⟨A.fn f,4,none⟩=some (.int .i64 o)∧W.cell? ⟨A.fn f,2,none⟩=some (.int .i64 co)∧W.cell? ⟨A.fn f,1,none⟩=some (.int .i64 d))
  (first | exact⟨k2,k0,f4,f2,f1⟩ | exact⟨l2,l0,m4,m2,m1⟩ | exact⟨n2,n0,p4,p2,p1⟩)
  (first
   | (go_at_call 144;refine(hca _).mono ?_;rintro e w1 ⟨cac,rfl,h1⟩;have hs1:=hse.out w1 cac h1;obtain⟨l0,-,l2⟩:=HB.out { s with cac:=cput s.cac k } w1 cac rfl h1;obtain⟨m4,m2,m1⟩:=HF.out { s with cac:=cput s.cac k } w1 cac rfl h1)
   | (go_at_call 148;refine hs1.mono ?_;rintro e w2 ⟨rfl,h2⟩;obtain⟨n0,-,n2⟩:=HB.out s1 w2 cac e1 h2;obtain⟨p4,p2,p1⟩:=HF.out s1 w2 cac e4 h2))
 clear l2 l0 m4 m2 m1 p4 p2 p1 k2 k0 f4 f2 f1 hs1 h1 n0 n2;have g9:=h2.drew.cc.2.2.2.2.2.2.2.2.2.1;obtain⟨g0,-,-⟩:=HB.out s1 w2.drew cac e1 h2.drew;have htt:=hts.out s1 w2.drew cac e2 h2.drew;dsimp only at g9;clear h2;go_wp2_with fail
 go_region_held3 (fun W=>W.cell? ⟨A.core,9,none⟩=some (.pointer (some ⟨A.tim,0,none⟩))∧W.cell? ⟨A.box i,0,none⟩=some (.int .i64 id)) (first | exact⟨g9,g0⟩ | exact⟨g9',g0'⟩)
  (first | (go_at_call 101;refine htt.mono ?_;rintro e w3 ⟨rfl,h3⟩;have g9':=h3.cc.2.2.2.2.2.2.2.2.2.1;obtain⟨g0',-,-⟩:=HB.out { s1 with tim:=HeapPure.setAt P14.lt s.tim (0,id) ⟨en,0,id⟩ } w3 cac e1 h3;dsimp only at g9'))
 go_wp2_with fail
 go_returns
 exact⟨rfl,cac,h3⟩
end Go.Proofs.YtigeldkbfbcpmaaGreat
