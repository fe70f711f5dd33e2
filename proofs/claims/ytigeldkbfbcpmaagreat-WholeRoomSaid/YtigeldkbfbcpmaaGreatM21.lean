/- A part of the proof: what the functions of the program come to, and what holds at all times. -/
import Derived.Deep.RegionHeld3
import Derived.Deep.CutRange
import Derived.BigRegion
import Derived.Deep.AppendLies
import Derived.Test.YtigeldkbfbcpmaaGreatM20
set_option linter.unusedVariables false
set_option linter.unusedSectionVars false
set_option linter.unusedSimpArgs false
set_option maxRecDepth 100000
set_option maxHeartbeats 8000000
namespace Go.Proofs.YtigeldkbfbcpmaaGreat
open Go.RowKit Go.Kpt HeapPure
theorem set_get{l:List P12.Bx}{i j:Nat}{x z b:P12.Bx}(hx:l[i]?=some x)(h:(l.set i z)[j]?=some b):(j=i∧b=z)∨(j≠i∧l[j]?=some b):=by
 by_cases e:i=j
 ·subst e
  have hi:i < l.length:=by
   rcases Nat.lt_or_ge i l.length with hh|hh
   ·exact hh
   ·rw[List.getElem?_eq_none hh] at hx;cases hx
  rw[List.getElem?_set_self hi] at h;injection h with h
  exact .inl ⟨rfl,h.symm⟩
 ·rw[List.getElem?_set_ne e] at h
  exact .inr ⟨fun e2=>e e2.symm,h⟩
theorem get_lt{l:List P12.Bx}{i:Nat}{x:P12.Bx}(hx:l[i]?=some x):i < l.length:=by
 rcases Nat.lt_or_ge i l.length with hh|hh
 ·exact hh
 ·rw[List.getElem?_eq_none hh] at hx;cases hx
theorem set_same'{l:List P12.Bx}{i:Nat}{x z:P12.Bx}(hx:l[i]?=some x):(l.set i z)[i]?=some z:=List.getElem?_set_self (get_lt hx)
theorem get_mem{l:List P12.Bx}{i:Nat}{x:P12.Bx}(hx:l[i]?=some x):x ∈ l:=by
 obtain⟨h,rfl⟩:=List.getElem?_eq_some_iff.1 hx;exact List.getElem_mem h
theorem mem_get{l:List P12.Bx}{x:P12.Bx}(hx:x ∈ l):∃ i:Nat,l[i]?=some x:=by
 obtain⟨i,hi,rfl⟩:=List.getElem_of_mem hx;exact⟨i,List.getElem?_eq_getElem hi⟩
theorem lastF_some{c:Nat→Option Fnc}{f g:Nat}{now:Int}{y:Fnc}(h:lastF c f now g=some y):∃ x,c g=some x∧(y=x∨(g=f∧y={ x with last:=now })):=by
 unfold lastF at h;cases e:c f with
 | none=>rw[e] at h;exact⟨y,h,.inl rfl⟩
 | some x=>
  rw[e] at h;by_cases eg:g=f
  ·subst eg
   simp[fset] at h;exact⟨x,e,.inr ⟨rfl,h.symm⟩⟩
  ·simp[fset,eg] at h
   exact⟨y,h,.inl rfl⟩
theorem lastF_of{c:Nat→Option Fnc}{f g:Nat}{now:Int}{y:Fnc}(h:c g=some y):∃ x,lastF c f now g=some x∧x.mem=y.mem:=by
 unfold lastF;cases e:c f with
 | none=>exact⟨y,h,rfl⟩
 | some x=>
  by_cases eg:g=f
  ·subst eg
   rw[h] at e;cases e
   exact⟨{ y with last:=now },by simp[fset],rfl⟩
  ·exact⟨y,by simpa[fset,eg] using h,rfl⟩
theorem lastF_isSome(c:Nat→Option Fnc)(f g:Nat)(now:Int):(lastF c f now g).isSome=(c g).isSome:=by
 cases e:c g with
 | none=>
  cases e2:lastF c f now g with
  | none=>rfl
  | some y=>obtain⟨x,h1,-⟩:=lastF_some e2;rw[e] at h1;cases h1
 | some y=>obtain⟨x,h1,-⟩:=lastF_of (f:=f) (now:=now) e;rw[h1];rfl
theorem BoxOk.of{s t:St}{j:Nat}{b:P12.Bx}(h:BoxOk s j b)(hl:t.live ((j:Int)+1)=s.live ((j:Int)+1))(hf:∀ f y,s.fns f=some y→∃ y',t.fns f=some y'∧y'.mem=y.mem):BoxOk t j b:=by
 obtain⟨f,h1,h2,y,h3,h4⟩:=h.fn;obtain⟨y',h5,h6⟩:=hf f y h3;exact⟨h.id,h.st,by rw[hl];exact h.live,h.bound,h.deadpin,⟨f,h1,h2,y',h5,by rw[h6];exact h4⟩,h.host⟩
theorem FnOk.of{s t:St}{N f:Nat}{y:Fnc}(h:FnOk s N f y)(htok:∀ a,(s.tok a).isSome=true→(t.tok a).isSome=true)(hnow:s.now≤t.now)(hq:(t.quo.fs f).acc=(s.quo.fs f).acc):FnOk t N f y:=
 ⟨h.lt,h.acc,htok _ h.tok,h.mem,h.cost,h.keep,h.often,⟨h.last.1,by have:=h.last.2;omega⟩,by rw[hq];exact h.qacc,h.his⟩
theorem memG_nonneg{s:St}{N:Nat}{X:Nat→Prop}(h:Inv s N X)(k:Nat):∀ x ∈ s.boxes,0≤memG k x:=by
 intro x hx;obtain⟨i,hi⟩:=mem_get hx;obtain⟨f,h1,h2,y,h3,h4⟩:=(h.box i x hi).fn;unfold memG;split
 ·rw[h4];omega
 ·omega
theorem busyG_nonneg(f:Nat)(l:List P12.Bx):∀ x ∈ l,0≤busyG f x:=by intro x _;unfold busyG;split <;> omega
theorem mem_pos{s:St}{N:Nat}{X:Nat→Prop}(h:Inv s N X){i:Nat}{x:P12.Bx}(hx:s.boxes[i]?=some x):1≤x.mem∧x.mem≤4096:=by
 obtain⟨f,h1,h2,y,h3,h4⟩:=(h.box i x hx).fn;have:=(h.fn f y h3).mem;rw[h4];omega
theorem host_there{s:St}{N:Nat}{X:Nat→Prop}(h:Inv s N X){i:Nat}{x:P12.Bx}(hx:s.boxes[i]?=some x)(hl:x.st≠3){k:Nat}(hk:k < 32)(hxk:x.host=(k:Int)):(s.hosts k).th=true∧x.mem≤(s.hosts k).us:=by
 have h1:=sumB_ge i x (memG_nonneg h k) hx;have h2:memG k x=x.mem:=by unfold memG;rw[if_pos ⟨hl,hxk⟩]
 have h3:=(h.host k hk).2;have h4:=(mem_pos h hx).1;unfold memOn at h3;refine⟨?_,by omega⟩;cases hb:(s.hosts k).th
 ·have h5:=(h.host k hk).1.out hb
  rw[h5] at h3;simp only at h3;omega
 ·rfl
theorem cacL_set(s:St)(c:Nat→Option Cac)(k:Nat)(z:Cac)(h:Nat):cacL { s with cac:=cset s.cac k z } h=if h=k then z.1 else cacL s h:=by
 unfold cacL cset;by_cases e:h=k <;> simp[e]
theorem endQ_facts(q:P11.Lg)(f g:Nat):((endQ q f).fs g).th=(q.fs g).th∧((endQ q f).fs g).acc=(q.fs g).acc∧((endQ q f).fs g).res=(q.fs g).res∧(endQ q f).ac=q.ac:=by
 unfold endQ;split
 ·by_cases e:g=f
  ·subst e;simp[P11.Lg.setF,P11.put]
  ·simp[P11.Lg.setF,P11.put,e]
 ·exact⟨rfl,rfl,rfl,rfl⟩
theorem endQ_bu(q:P11.Lg)(f g:Nat)(h:(q.fs f).th=true∧(q.fs f).bu≠0):((endQ q f).fs g).bu=if g=f then (q.fs f).bu - 1 else (q.fs g).bu:=by
 unfold endQ;rw[if_pos h];by_cases e:g=f
 ·subst e;simp[P11.Lg.setF,P11.put]
 ·simp[P11.Lg.setF,P11.put,e]
theorem Inv.gone{s:St}{N:Nat}{X:Nat→Prop}{i:Nat}{x:P12.Bx}(h:Inv s N X)(hX:∀ j,X j→j=i)(hx:s.boxes[i]?=some x)(hl:x.st≠3):
  Inv (goneS s i) N none_∧dead (goneS s i)=dead s+1∧(goneS s i).boxes.length=s.boxes.length:=by
 have hb:=h.box i x hx;obtain⟨f,hf,hxf,y,hy,hmem⟩:=hb.fn;obtain⟨k,hk,hxk⟩:=hb.host;have hid:=hb.id;have hfo:=h.fn f y hy;have hth:=host_there h hx hl hk hxk;have hmp:=(mem_pos h hx).1;obtain⟨z,hz⟩:∃ z:P12.Bx,{ x with st:=3,bound:=false,pin:=false,since:=s.now }=z:=⟨_,rfl⟩;have hkx:(P12.kill x s.now).1=z:=by rw[← hz];simp[P12.kill,hl]
 have z1:z.id=x.id:=by rw[← hz]
 have z2:z.fn=x.fn:=by rw[← hz]
 have z3:z.host=x.host:=by rw[← hz]
 have z4:z.mem=x.mem:=by rw[← hz]
 have z5:z.st=3:=by rw[← hz]
 have z6:z.bound=false:=by rw[← hz]
 have z7:z.pin=false:=by rw[← hz]
 have zr:P12.runs z=false:=by simp[P12.runs,z5]
 clear hz;have hgq:P12.runs x=true→(s.quo.fs f).th=true∧(s.quo.fs f).bu≠0:=fun hr=>by
  refine⟨by rw[h.fnq f hf,hy];rfl,?_⟩;have h1:=sumB_ge i x (busyG_nonneg f s.boxes) hx;have h2:busyG f x=1:=by unfold busyG;rw[if_pos ⟨hr,hxf⟩]
  have h3:=(h.qb f hf).1;unfold busyOn at h3;omega
 have hgive:P13.gave (s.hosts k) x.mem=P13.swept { s.hosts k with us:=(s.hosts k).us - x.mem }:=by
  unfold P13.gave P13.mayGive;rw[if_pos (by simp[hth.1,hth.2])]
 have hg:goneS s i={ s with
   cac:=cset s.cac k (HeapPure.drop P09.lt (cacL s k) x.id,cacC s k)
   tim:=HeapPure.drop P14.lt s.tim (0,x.id)
   quo:=if P12.runs x=true then endQ s.quo f else s.quo
   fns:=if P12.runs x=true then lastF s.fns f s.now else s.fns
   boxes:=s.boxes.set i z
   hosts:=P13.put s.hosts k (P13.swept { s.hosts k with us:=(s.hosts k).us - x.mem })
   live:=fun j=>if j=x.id then false else s.live j
   unt:=gdel s.unt x.id }:=by
  unfold goneS;rw[hx];simp only[hxk,hxf,Int.toNat_natCast,hkx,hgive,cacL,cacC]
 rw[hg];clear hg hgive hkx;obtain⟨t,ht⟩:∃ t:St,{ s with
   cac:=cset s.cac k (HeapPure.drop P09.lt (cacL s k) x.id,cacC s k)
   tim:=HeapPure.drop P14.lt s.tim (0,x.id)
   quo:=if P12.runs x=true then endQ s.quo f else s.quo
   fns:=if P12.runs x=true then lastF s.fns f s.now else s.fns
   boxes:=s.boxes.set i z
   hosts:=P13.put s.hosts k (P13.swept { s.hosts k with us:=(s.hosts k).us - x.mem })
   live:=fun j=>if j=x.id then false else s.live j
   unt:=gdel s.unt x.id }=t:=⟨_,rfl⟩
 have tb:t.boxes=s.boxes.set i z:=by rw[← ht]
 have tnow:t.now=s.now:=by rw[← ht]
 have tnext:t.next=s.next:=by rw[← ht]
 have ttok:t.tok=s.tok:=by rw[← ht]
 have thost:t.hosts=P13.put s.hosts k (P13.swept { s.hosts k with us:=(s.hosts k).us - x.mem }):=by rw[← ht]
 have tlive:t.live=fun j=>if j=x.id then false else s.live j:=by rw[← ht]
 have ttim:t.tim=HeapPure.drop P14.lt s.tim (0,x.id):=by rw[← ht]
 have tcac:t.cac=cset s.cac k (HeapPure.drop P09.lt (cacL s k) x.id,cacC s k):=by rw[← ht]
 have tout:outl t=outl s:=by rw[← ht];rfl
 have tfns:t.fns=if P12.runs x=true then lastF s.fns f s.now else s.fns:=by rw[← ht]
 have tquo:t.quo=if P12.runs x=true then endQ s.quo f else s.quo:=by rw[← ht]
 have tcl:∀ h,cacL t h=if h=k then HeapPure.drop P09.lt (cacL s k) x.id else cacL s h:=fun h=>by
  unfold cacL;rw[tcac];unfold cset;by_cases e:h=k <;> simp[e,cacL]
 have tcc:∀ h,cacC t h=cacC s h:=fun h=>by
  unfold cacC;rw[tcac];unfold cset;by_cases e:h=k <;> simp[e,cacC]
 rw[ht];clear ht;have hfm:∀ f y,s.fns f=some y→∃ y',t.fns f=some y'∧y'.mem=y.mem:=fun g u hu=>by
  rw[tfns];split
  ·exact lastF_of hu
  ·exact⟨u,hu,rfl⟩
 have hfs:∀ g,(t.fns g).isSome=(s.fns g).isSome:=fun g=>by
  rw[tfns];split
  ·exact lastF_isSome _ _ _ _
  ·rfl
 have hqf:∀ g,(t.quo.fs g).th=(s.quo.fs g).th∧(t.quo.fs g).acc=(s.quo.fs g).acc∧(t.quo.fs g).res=(s.quo.fs g).res∧t.quo.ac=s.quo.ac:=fun g=>by
  rw[tquo];split
  ·exact endQ_facts _ _ _
  ·exact⟨rfl,rfl,rfl,rfl⟩
 have hdx:deadG x=0:=by unfold deadG;rw[if_neg hl]
 have hdz:deadG z=1:=by unfold deadG;rw[if_pos z5]
 have hdead:dead t=dead s+1:=by
  unfold dead;rw[tb,sumB_set deadG _ i x z hx,hdx,hdz];omega
 have hlen:t.boxes.length=s.boxes.length:=by rw[tb];exact List.length_set
 have hbu:∀ g,g < 64→(t.quo.fs g).bu=busyOn t g∧(t.quo.fs g).bu≤1000∧0≤(t.quo.fs g).bu:=fun g hg=>by
  have h0:=(h.qb g hg).1;have h1:=(h.qb g hg).2;have hz0:busyG g z=0:=by unfold busyG;rw[if_neg (by rw[zr];simp)]
  have h2:busyOn t g=busyOn s g - busyG g x:=by
   unfold busyOn;rw[tb,sumB_set (busyG g) _ i x z hx,hz0];omega
  have h3:0≤busyOn t g:=sumB_nonneg (busyG_nonneg g _);have h4:(t.quo.fs g).bu=(s.quo.fs g).bu - busyG g x:=by
   rw[tquo];by_cases hr:P12.runs x=true
   ·rw[if_pos hr,endQ_bu _ _ _ (hgq hr)]
    unfold busyG;by_cases e:g=f
    ·subst e;rw[if_pos rfl,if_pos ⟨hr,hxf⟩]
    ·rw[if_neg e,if_neg (by rintro⟨-,e2⟩;rw[hxf] at e2;omega)];omega
   ·rw[if_neg hr]
    unfold busyG;rw[if_neg (fun e=>hr e.1)];omega
  have h5:0≤busyG g x:=busyG_nonneg g s.boxes x (get_mem hx);omega
 refine⟨⟨?_,?_,?_,?_,?_,?_,?_,?_,?_,?_,?_,?_,?_,?_,?_,?_,?_,?_,?_,?_⟩,hdead,hlen⟩
 ·rw[tnow];exact h.now
 ·rw[tnext,hlen];exact h.next
 ·intro j b hj
  rw[tb] at hj;rcases set_get hx hj with ⟨rfl,rfl⟩|⟨hne,hj⟩
  ·obtain⟨y',h1,h2⟩:=hfm f y hy
   refine⟨by rw[z1];exact hid,by omega,?_,(fun e=>by rw[z6] at e;cases e),fun _=>z7,⟨f,hf,by rw[z2];exact hxf,y',h1,by rw[z4,h2];exact hmem⟩,⟨k,hk,by rw[z3];exact hxk⟩⟩;rw[tlive];simp[hid,z5]
  ·refine(h.box j b hj).of ?_ hfm
   rw[tlive];simp only;rw[if_neg (by rw[hid];omega)]
 ·intro g u hu
  rw[tfns] at hu;have htk:∀ a,(s.tok a).isSome=true→(t.tok a).isSome=true:=fun a ha=>by rw[ttok];exact ha
  split at hu
  ·obtain⟨v,h1,h2⟩:=lastF_some hu
   have h3:=(h.fn g v h1).of (t:=t) htk (by rw[tnow];exact Int.le_refl _) (hqf g).2.1;rcases h2 with rfl|⟨rfl,rfl⟩
   ·exact h3
   ·exact { h3 with last:=⟨by have:=h.now.1;show -1≤s.now;omega,by rw[tnow];exact Int.le_refl _⟩ }
  ·exact(h.fn g u hu).of (t:=t) htk (by rw[tnow];exact Int.le_refl _) (hqf g).2.1
 ·intro g hg
  rw[(hqf g).1,hfs];exact h.fnq g hg
 ·refine⟨fun g hg=>?_,fun a ha=>by rw[(hqf 0).2.2.2];exact h.quo.2 a ha⟩
  obtain⟨a1,a2,a3,a4,a5⟩:=h.quo.1 g hg;have:=hbu g hg;exact⟨by rw[(hqf g).2.1];exact a1,by rw[(hqf g).2.2.1];exact a2,by rw[(hqf g).2.2.1];exact a3,by omega,by omega⟩
 ·intro g hg
  exact⟨(hbu g hg).1,(hbu g hg).2.1⟩
 ·intro a ha
  rw[(hqf 0).2.2.2,ttok];exact h.qa a ha
 ·intro g hg
  have hm0:memOn t g=memOn s g - memG g x:=by
   unfold memOn;rw[tb,sumB_set (memG g) _ i x z hx,show memG g z=0 by unfold memG;rw[if_neg (fun e=>e.1 z5)]];omega
  by_cases e:g=k
  ·subst e
   have hmx:memG g x=x.mem:=by unfold memG;rw[if_pos ⟨hl,hxk⟩]
   obtain⟨⟨u1,u2,u3⟩,h2,h3⟩:=(h.host g hg).1;have h4:=(h.host g hg).2;rw[thost,P13.put_same,hm0,hmx,← h4];unfold P13.swept;simp only;split
   ·rename_i hc
    exact⟨⟨⟨Int.le_refl _,Int.le_refl _,by decide⟩,fun _=>rfl,fun e=>by cases e⟩,by rw[hc.2]⟩
   ·rename_i hc
    refine⟨⟨⟨by have:=hth.2;show 0≤(s.hosts g).us - x.mem;omega,by show (s.hosts g).us - x.mem≤(s.hosts g).sz;omega,u3⟩,fun e=>?_,fun e=>?_⟩,rfl⟩
    ·have:(s.hosts g).th=false:=e
     rw[hth.1] at this;cases this
    ·have hd:(s.hosts g).dr=true:=e
     have:¬ (s.hosts g).us - x.mem=0:=fun e2=>hc ⟨hd,e2⟩;have:=hth.2;show 0 < (s.hosts g).us - x.mem;omega
  ·have hmx:memG g x=0:=by unfold memG;rw[if_neg (by rintro⟨-,e2⟩;rw[hxk] at e2;omega)]
   rw[thost,P13.put_ne _ _ _ _ e,hm0,hmx,show memOn s g - 0=memOn s g by omega];exact h.host g hg
 ·rw[ttok];exact h.tok
 ·intro g c hc
  rw[tcac] at hc;unfold cset at hc;split at hc
  ·rename_i e;subst e;exact hk
  ·exact h.cacLt g c hc
 ·intro g
  rw[tcl];split
  ·exact drop_good P09.ord_lt (h.cacG k) _
  ·exact h.cacG g
 ·intro g
  rw[tcc,hdead];have:=h.cacK g;omega
 ·intro g id m hm
  rw[tcc];rw[tcl] at hm;split at hm
  ·rename_i e;subst e
   exact h.cacV g id m ((drop_has (h.cacG g).inj _ _ _).1 hm).2
  ·exact h.cacV g id m hm
 ·intro g id m hm
  have hold:HeapPure.Has (cacL s g) id m∧(g=k→id≠x.id):=by
   rw[tcl] at hm;split at hm
   ·rename_i e;subst e
    have:=(drop_has (h.cacG g).inj _ _ _).1 hm;exact⟨this.2,fun _=>this.1⟩
   ·rename_i e
    exact⟨hm,fun e2=>absurd e2 e⟩
  obtain⟨j,b,h1,h2,h3,h4,h5⟩:=h.cacI g id m hold.1;have hne:j≠i:=fun e=>by
   subst e;rw[hx] at h2;cases h2
   refine hold.2 ?_ (by rw[h1,hid]);rw[hxk] at h3;omega
  refine⟨j,b,h1,?_,h3,h4,fun _=>h5 (fun e=>hne (hX j e))⟩;rw[tb,List.getElem?_set_ne (fun e=>hne e.symm)];exact h2
 ·intro j b hj _ hlo
  rw[tb] at hj;rcases set_get hx hj with ⟨rfl,rfl⟩|⟨hne,hj⟩
  ·exact absurd hlo.1 (by omega)
  ·obtain⟨m,hm⟩:=h.cacS j b hj (fun e=>hne (hX j e)) hlo
   refine⟨m,?_⟩;rw[tcl];split
   ·rename_i e
    rw[e] at hm;exact(drop_has (h.cacG k).inj _ _ _).2 ⟨by rw[hid];omega,hm⟩
   ·exact hm
 ·rw[ttim];exact drop_good P14.ord_lt h.timG _
 ·intro q u hq
  rw[ttim] at hq;obtain⟨h1,h2⟩:=(drop_has h.timG.inj _ _ _).1 hq;rcases h.timI q u h2 with ⟨h0,j,b,h3,h4,h5,h6⟩|⟨h0,g,h3,h4⟩
  ·have hne:j≠i:=fun e=>by
    subst e;refine h1 ?_;rw[hid,← h3,← h0]
   refine .inl ⟨h0,j,b,h3,?_,h5,fun _=>h6 (fun e=>hne (hX j e))⟩;rw[tb,List.getElem?_set_ne (fun e=>hne e.symm)];exact h4
  ·exact .inr ⟨h0,g,h3,by rw[hfs];exact h4⟩
 ·intro j b hj _ hlo
  rw[tb] at hj;rcases set_get hx hj with ⟨rfl,rfl⟩|⟨hne,hj⟩
  ·exact absurd hlo.1 (by omega)
  ·obtain⟨u,hu⟩:=h.timS j b hj (fun e=>hne (hX j e)) hlo
   refine⟨u,?_⟩;rw[ttim];exact(drop_has h.timG.inj _ _ _).2 ⟨fun e=>by have:=congrArg Prod.snd e;simp only[hid] at this;omega,hu⟩
 ·rw[tout,hlen,hdead]
  have:=h.out;omega
theorem Inv.aside{s:St}{N:Nat}{X:Nat→Prop}(h:Inv s N X)(o:Option (List Cmd))(u:Int→Option Int)(a:Nat→Int)(ho:((o.getD []).length:Int)≤s.boxes.length+dead s):Inv { s with out:=o,unt:=u,ans:=a } N X:=
 { h with
  box:=fun i x hx=>(h.box i x hx).of rfl (fun f y e=>⟨y,e,rfl⟩)
  fn:=fun f y hy=>(h.fn f y hy).of (fun _ e=>e) (Int.le_refl _) rfl
  out:=ho }
theorem Inv.kill{s:St}{N:Nat}{X:Nat→Prop}{i:Nat}{x:P12.Bx}(h:Inv s N X)(hX:∀ j,X j→j=i)(hx:s.boxes[i]?=some x)(hl:x.st≠3):
  Inv (killS s i) N none_∧dead (killS s i)=dead s+1∧(killS s i).boxes.length=s.boxes.length:=by
 obtain⟨g,hd,hln⟩:=h.gone hX hx hl;unfold killS;rw[hx];simp only;have ho:outl (goneS s i)=outl s:=by unfold goneS;rw[hx];rfl
 have h1:=h.out;refine⟨g.aside _ (goneS s i).unt (goneS s i).ans ?_,hd,hln⟩;rw[hd,hln];simp;omega
structure Low (s:St) (N:Nat):Prop where
 box:∀ i x,s.boxes[i]?=some x→BoxOk s i x
 fn:∀ f y,s.fns f=some y→FnOk s N f y
 quo:P11.Good s.quo
 host:∀ h,h < 32→HostOk (s.hosts h)
theorem Inv.low{s:St}{N:Nat}{X:Nat→Prop}(h:Inv s N X):Low s N:=⟨h.box,h.fn,h.quo,fun k hk=>(h.host k hk).1⟩
theorem Low.aside{s:St}{N:Nat}(h:Low s N)(c:Nat→Option Cac)(t:List (P14.Ke×P14.Tm)):Low { s with cac:=c,tim:=t } N:=
 ⟨fun i x hx=>(h.box i x hx).of rfl (fun f y e=>⟨y,e,rfl⟩),fun f y hy=>(h.fn f y hy).of (fun _ e=>e) (Int.le_refl _) rfl,h.quo,h.host⟩
end Go.Proofs.YtigeldkbfbcpmaaGreat
namespace Go.Proofs.YtigeldkbfbcpmaaGreat
open Go.RowKit Go.Kpt
theorem gone_any(s:St)(N:Nat)(hI:Low s N)(A:Adr)(w0:World)(F0:Nat→Prop)(i:Nat)(hi:i < 1000000000)(x:P12.Bx)(hx:s.boxes[i]?=some x)(hl:x.st≠3)(w:World)(h:Rs w0 F0 w s A):
  Calls Tryz.prog 86 #[.pointer (some ⟨A.core,0,none⟩),.pointer (some ⟨A.box i,0,none⟩)] w fun e w'=>e=.returned (.tuple #[])∧∃ cac:Nat→Nat,Rs w0 F0 w' (goneS s i) { A with cac:=cac }:=by
 have hb:=hI.box i x hx;obtain⟨f,hf,hxf,y,hy,hmem⟩:=hb.fn;obtain⟨k,hk,hxk⟩:=hb.host;have hidw:(Lit.int .i64 x.id).wf=true:=by rw[hb.id];exact WalkArith.wf_i64 (by omega)
 have hfo:=hI.fn f y hy;have hgf:=hI.quo.1 f hf;have hho:=(hI.host k hk).us;have hm0:0≤x.mem:=by rw[hmem];omega
 have hst:=hb.st;have htk:=take_rs h i x hx k hk hxk hidw;have hgs:goneS s i={ s with
   cac:=cset s.cac k (HeapPure.drop P09.lt ((s.cac k).getD ([],0)).1 x.id,((s.cac k).getD ([],0)).2)
   tim:=HeapPure.drop P14.lt s.tim (0,x.id)
   quo:=if P12.runs x=true then endQ s.quo f else s.quo
   fns:=if P12.runs x=true then fset s.fns f { y with last:=s.now } else s.fns
   boxes:=s.boxes.set i (P12.kill x s.now).1
   hosts:=P13.put s.hosts k (P13.gave (s.hosts k) x.mem)
   live:=fun j=>if j=x.id then false else s.live j
   unt:=gdel s.unt x.id }:=by
  unfold goneS;rw[hx];simp only[hxk,hxf,Int.toNat_natCast,lastF,hy]
 clear hI hb h;obtain⟨id,hid⟩:∃ id,x.id=id:=⟨_,rfl⟩;obtain⟨mem,hmm⟩:∃ m,x.mem=m:=⟨_,rfl⟩;rw[hid] at htk hidw;rw[hmm] at hm0;rw[hid,hmm] at hgs;have HGS:=Lib.hid hgs;clear hgs;have hxx:x.id=id∧x.fn=(f:Int)∧x.host=(k:Int)∧x.mem=mem:=⟨hid,hxf,hxk,hmm⟩;have HB:∀ (s':St) (w':World) (cac:Nat→Nat) (b:P12.Bx),s'.boxes[i]?=some b→(b.id=id∧b.fn=(f:Int)∧b.host=(k:Int)∧b.mem=mem)→Rs w0 F0 w' s' { A with cac:=cac } →
   w'.cell? ⟨A.box i,0,none⟩=some (.int .i64 id)∧w'.cell? ⟨A.box i,1,none⟩=some (.int .i64 f)∧w'.cell? ⟨A.box i,2,none⟩=some (.int .i64 k)∧w'.cell? ⟨A.box i,3,none⟩=some (.int .i64 mem):=by
  intro s' w' cac b hbx hb h';obtain⟨a0,a1,a2,a3,-⟩:=(h'.bq hbx).cells;rw[hb.1] at a0;rw[hb.2.1] at a1;rw[hb.2.2.1] at a2;rw[hb.2.2.2] at a3;exact⟨a0,a1,a2,a3⟩
 have HB:=Lib.hid HB;go_enter Tryz.func86,Tryz.ntmps86
 go_upto_if 8 with (first
  | (go_at_call 130;refine htk.mono ?_;rintro e w1 ⟨rfl,cac,h1⟩;have hru:=runs_rs h1 i x hx hst)
  | (go_at_call 83;refine hru.mono ?_;rintro e w2 ⟨rfl,h2⟩))
 clear htk hru;obtain⟨s2,hs2⟩:∃ s2:St,{ s with
   cac:=cset s.cac k (HeapPure.drop P09.lt ((s.cac k).getD ([],0)).1 id,((s.cac k).getD ([],0)).2)
   tim:=HeapPure.drop P14.lt s.tim (0,id) }=s2:=⟨_,rfl⟩
 rw[hs2] at h2;have hquo:s2.quo=s.quo:=by rw[← hs2]
 have hfns:s2.fns=s.fns:=by rw[← hs2]
 have hbx2:s2.boxes=s.boxes:=by rw[← hs2]
 have hnow2:s2.now=s.now:=by rw[← hs2]
 have hhost2:s2.hosts=s.hosts:=by rw[← hs2]
 obtain⟨s3,hs3⟩:∃ s3:St,{ s2 with quo:=if P12.runs x=true then endQ s.quo f else s.quo,fns:=if P12.runs x=true then fset s.fns f { y with last:=s.now } else s.fns }=s3:=⟨_,rfl⟩;go_cut [4] from 4 to 68 (fun v wc=>v=.pointer (some ⟨A.core,0,none⟩)∧Rs w0 F0 wc s3 { A with cac:=cac })
 case first=>
  cases hr:P12.runs x
  ·rw[hr] at hs3
   go_wp2_with fail
   go_meet
   case rel=>
    refine⟨rfl,?_⟩;have e3:s3=s2:=by rw[← hs3,← hs2];rfl
    rw[e3];exact h2
  ·rw[hr] at hs3
   have k2:=h2.drew.cc.2.2.1;have k1:=(HB.out s2 w2.drew cac x (by rw[hbx2];exact hx) hxx h2.drew).2.1;have hen:=end_rs h2.drew f hf (by rw[hquo];exact hgf);dsimp only at k2 k1 hen;go_wp2_with fail
   go_region_held3 (fun W=>W.cell? ⟨A.core,2,none⟩=some (.pointer (some ⟨A.quo,0,none⟩))∧W.cell? ⟨A.box i,1,none⟩=some (.int .i64 f)) (exact⟨by assumption,by assumption⟩)
    (first | (go_at_call 99;refine hen.mono ?_;rintro e w3 ⟨⟨b,rfl⟩,h3⟩;have d2:=h3.cc.2.2.1;have d1:=(HB.out { s2 with quo:=endQ s2.quo f } w3 cac x (by rw[← hbx2] at hx;exact hx) hxx h3).2.1;dsimp only at d2 d1))
   obtain⟨c0,-,-,-,c4,-,-,-,-,-,-⟩:=h3.drew.cc;dsimp only at c0 c4;have hlk:=h3.drew.1.look_fn (f:Int) (WalkArith.wf_i64 (by omega)) (some (A.fn f)) (by unfold mFn;dsimp only;rw[if_pos (by omega),show (f:Int).toNat=f by omega,hfns,hy];rfl);obtain⟨hfb,hfn⟩:=h3.drew.1.fnTurn f y (by dsimp only;rw[hfns];exact hy);have d5:w3.drew.cell? ⟨A.fn f,5,none⟩=some (.int .i64 y.last):=(cell_of hfb).trans rfl;have hfr:w3.drew.frozen? ⟨A.fn f,5,none⟩=false:=frozen_of hfb;have d1':w3.drew.cell? ⟨A.box i,1,none⟩=some (.int .i64 f):=d1;have hset:=hfn (w3.drew.setCell ⟨A.fn f,5,none⟩ (.int .i64 s.now)) { y with last:=s.now } rfl rfl (set_same _ hfb) (Kept.set1 _ _ _ _);have hset:=Lib.hid hset;dsimp only at hlk;simp only[pv] at hlk;rw[hnow2] at c0;have H3:=Lib.hid h3;clear k2 k1 hen d2 d1 hfb hfn h3;go_wp2_with fail
   go_big_region
   all_goals
    go_wp2_with fail
    go_meet
    case rel=>
     refine⟨rfl,?_⟩;have e3:s3={ s2 with quo:=endQ s2.quo f,fns:=fset s2.fns f { y with last:=s.now } }:=by rw[← hs3,← hs2];rfl
     rw[e3];exact H3.out.drew.next hset.out.1 hset.out.2
 case rest=>
  obtain⟨rfl,h3⟩:=hcut;have hbx3:s3.boxes[i]?=some x:=by rw[← hs3];exact(congrArg (fun l:List P12.Bx=>l[i]?) hbx2).trans hx
  have hnow3:s3.now=s.now:=by rw[← hs3];exact hnow2
  have hhost3:s3.hosts=s.hosts:=by rw[← hs3];exact hhost2
  have hki:=kill_rs h3 i x hbx3 hst s.now;have c0:=h3.cc.1;dsimp only at c0 hki;rw[hnow3] at c0;obtain⟨z,hz⟩:∃ z,(P12.kill x s.now).1=z:=⟨_,rfl⟩;have hzz:z.id=id∧z.fn=(f:Int)∧z.host=(k:Int)∧z.mem=mem:=by
   rw[← hz];unfold P12.kill;rw[if_neg hl];exact hxx
  rw[hz] at hki;have hs3z:({ s3 with boxes:=s3.boxes.set i z }:St).boxes[i]?=some z:=List.getElem?_set_self (by
   rcases Nat.lt_or_ge i s3.boxes.length with hh|hh
   ·exact hh
   ·rw[List.getElem?_eq_none hh] at hbx3;cases hbx3)
  have hgi:=fun (w:World) (h:Rs w0 F0 w { s3 with boxes:=s3.boxes.set i z } { A with cac:=cac })=>give_rs h k hk (by dsimp only;rw[hhost3];exact hho) mem hm0;have HG:=Lib.hid hgi;have H3:=Lib.hid h3;clear hgi h3;go_wp2_with (go_at_call 135;refine hki.mono ?_;rintro e w4 ⟨⟨b,rfl⟩,h4⟩)
  clear hki c0;have k5:=h4.drew.cc.2.2.2.2.2.1;obtain⟨-,-,k2,k3⟩:=HB.out _ w4.drew cac z hs3z hzz h4.drew;have hgi:=HG.out _ h4.drew;dsimp only at k5 hgi;clear h4;go_region_held3 (fun W=>W.cell? ⟨A.core,5,none⟩=some (.pointer (some ⟨A.hosts,0,none⟩))∧W.cell? ⟨A.box i,2,none⟩=some (.int .i64 k)∧W.cell? ⟨A.box i,3,none⟩=some (.int .i64 mem)) (exact⟨by assumption,by assumption,by assumption⟩)
   (first | (go_at_call 136;refine hgi.mono ?_;rintro e w5 ⟨⟨b,rfl⟩,h5⟩;have d5:=h5.cc.2.2.2.2.2.1;obtain⟨-,-,d2,d3⟩:=HB.out _ w5 cac z hs3z hzz h5;dsimp only at d5))
  clear k5 k2 k3 hgi d5 d2 d3;obtain⟨c,hm,hlv⟩:=h5.drew.1.liveTurn;have c7:=h5.drew.cc.2.2.2.2.2.2.2.1;obtain⟨k0,-,-,-⟩:=HB.out _ w5.drew cac z hs3z hzz h5.drew;dsimp only at c7 hm;have HL:=Lib.hid hlv;have H5:=Lib.hid h5;clear hlv h5;go_wp2_with fail
  go_region_law ((refine step_im_del (by rfl) _ _ (by rfl) Tryz.underlying84 A.boxM c _ (by rfl) hm id (by rfl) hidw ?_;intro w6 hm6 hk6))
  all_goals
   rw[mBox_gone] at hm6;obtain⟨l1,l2⟩:=HL.out w6 _ _ hm6 hk6;have h6:=H5.out.drew.next l1 l2;clear l1 l2 hm6 hk6 hm c7 k0;obtain⟨c',hm,hun⟩:=h6.drew.1.untTurn;have c8:=h6.drew.cc.2.2.2.2.2.2.2.2.1;obtain⟨k0,-,-,-⟩:=HB.out _ w6.drew cac z hs3z hzz h6.drew;dsimp only at c8 hm;have HU:=Lib.hid hun;have H6:=Lib.hid h6;clear hun h6;go_wp2_with fail
   go_region_law ((refine step_im_del (by rfl) _ _ (by rfl) Tryz.underlying85 A.untM c' _ (by rfl) hm id (by rfl) hidw ?_;intro w7 hm7 hk7))
   all_goals
    obtain⟨l1,l2⟩:=HU.out w7 _ _ hm7 hk7;have h7:=H6.out.drew.next l1 l2;clear l1 l2 hm7 hk7 hm c8 k0 HU H6;go_wp2_with fail
    go_returns
    refine⟨rfl,cac,?_⟩;rw[HGS.out];rw[← hs3,← hs2,← hz] at h7;exact h7
theorem Sys.outTurn{w:World}{s:St}{A:Adr}{F:Nat→Prop}(h:Sys w s A F)(l:List Cmd)(hl:s.out=some l):
  ∃ ov,w.heap[A.core]?=some (.cells (coreCells s A ov) 96 (0,0))∧w.ownsRow 0 43 4 ov l.length (outCells l)∧(∀ g,ov.ownBlock=some g→g≠A.core) ∧
   (∀ (i:Nat) (x:P12.Bx),s.boxes[i]?=some x→A.box i≠A.core∧∀ g,ov.ownBlock=some g→g≠A.box i) ∧
   ∀ w' ov' l',w'.heap[A.core]?=some (.cells (coreCells s A ov') 96 (0,0))→w'.ownsRow 0 43 4 ov' l'.length (outCells l')→(∀ g,ov'.ownBlock=some g→ov.ownBlock=some g∨(w.heap.size≤g∧g < w'.heap.size))→Kept (fun b=>b=A.core∨ov.ownBlock=some b) w w' →
   Sys w' { s with out:=some l' } A (Grow F w w')∧Kept F w w':=by
 obtain⟨own,hS,hF⟩:=h;obtain⟨h1,ov,h2,h3⟩:=hS.at_ .core;obtain⟨r1,r2⟩:=h3 l hl;refine⟨ov,h2,r1,fun g hg=>(r2 g hg).2,fun i x hx=>?_,fun w' ov' l' hy hrow hown k=>?_⟩
 ·obtain⟨b1,b2⟩:=hS.at_ (.box i) x hx
  refine⟨fun e=>?_,fun g hg e=>?_⟩
  ·have:=hS.sep (.box i) .core (A.box i) b1 (by rw[e];exact h1)
   cases this
  ·have:=hS.sep (.box i) .core (A.box i) b1 (by rw[← e];exact(r2 g hg).1)
   cases this
 ·have hK:Kept (own .core) w w':=k.mono (fun b _ e=>e.elim (fun e=>by rw[e];exact h1) (fun e=>(r2 b e).1))
  have hP:At ({ s with out:=some l' }:St) A .core w' (Grow (own .core) w w'):=by
   refine⟨.inl h1,ov',hy,fun l2 hl2=>?_⟩;cases hl2
   refine⟨hrow,fun g hg=>?_⟩;rcases hown g hg with h5|h5
   ·exact⟨.inl (r2 g h5).1,(r2 g h5).2⟩
   ·exact⟨.inr h5,fun e=>by have:=lt_of h2;rw[e] at h5;omega⟩
  refine⟨⟨_,hS.upd .core hK hP (fun q hq W H hH=>?_),fun q x hx=>?_⟩,Kept.grow hK (hF .core)⟩
  ·cases q with
   | core=>exact absurd rfl hq
   | _=>exact hH
  ·skip
   split at hx
   ·rcases hx with hx | hx
    ·exact .inl (hF .core x hx)
    ·exact .inr hx
   ·exact .inl (hF q x hx)
theorem outCells_snoc(l:List Cmd)(c:Cmd):outCells (l++[c])=outCells l++cmdCells c:=by simp[outCells]
theorem info43:(Tryz.prog.info? 43).map (fun i=>(i.zero,i.size,i.bytes))=some (some (.agg #[.bool false,.int .i64 0,.int .i64 0,.int .i64 0]),4,32):=by kernel_rfl
theorem goneS_out(s:St)(i:Nat):(goneS s i).out=s.out:=by unfold goneS;split <;> rfl
theorem goneS_box{s:St}{i:Nat}{x:P12.Bx}(hx:s.boxes[i]?=some x)(hl:x.st≠3):∃ z,(goneS s i).boxes[i]?=some z∧z.id=x.id∧z.fn=x.fn∧z.host=x.host:=by
 refine⟨(P12.kill x s.now).1,?_,?_⟩
 ·unfold goneS
  rw[hx];refine List.getElem?_set_self ?_;rcases Nat.lt_or_ge i s.boxes.length with hh|hh
  ·exact hh
  ·rw[List.getElem?_eq_none hh] at hx;cases hx
 ·unfold P12.kill
  rw[if_neg hl];exact⟨rfl,rfl,rfl⟩
theorem kill_any(s:St)(N:Nat)(hI:Low s N)(l:List Cmd)(hl0:s.out=some l)(hl1:l.length≤2000000000)(A:Adr)(w0:World)(F0:Nat→Prop)(i:Nat)(hi:i < 1000000000)(x:P12.Bx)(hx:s.boxes[i]?=some x)(hl:x.st≠3)(w:World)(h:Rs w0 F0 w s A):
  Calls Tryz.prog 70 #[.pointer (some ⟨A.core,0,none⟩),.pointer (some ⟨A.box i,0,none⟩)] w fun e w'=>e=.returned (.tuple #[])∧∃ cac:Nat→Nat,Rs w0 F0 w' (killS s i) { A with cac:=cac }:=by
 have hgo:=gone_any s N hI A w0 F0 i hi x hx hl w h;obtain⟨z,hz,hz1,hz2,hz3⟩:=goneS_box hx hl;have hk:killS s i={ goneS s i with out:=some (l++[⟨false,x.id,x.fn,x.host⟩]) }:=by unfold killS;rw[hx];simp only[outl,hl0];rfl
 rw[hk];have hgl:(goneS s i).out=some l:=by rw[goneS_out];exact hl0
 generalize goneS s i=s1 at *;clear hk hI h hx hl hl0;obtain⟨id,hid⟩:∃ id,x.id=id:=⟨_,rfl⟩;obtain⟨fn,hfn⟩:∃ id,x.fn=id:=⟨_,rfl⟩;obtain⟨ho,hho⟩:∃ id,x.host=id:=⟨_,rfl⟩;rw[hid] at hz1 ⊢;rw[hfn] at hz2 ⊢;rw[hho] at hz3 ⊢;clear hid hfn hho x;have hi43:=info43;obtain⟨i0,hi0,hi1⟩:∃ i0,Tryz.prog.info? 43=some i0∧(i0.zero,i0.size,i0.bytes)=(some (.agg #[.bool false,.int .i64 0,.int .i64 0,.int .i64 0]),4,32):=by
  cases e:Tryz.prog.info? 43 with
  | none=>rw[e] at hi43;cases hi43
  | some i0=>rw[e] at hi43;exact⟨i0,rfl,by simpa using hi43⟩
 have iz0:i0.zero=some (.agg #[.bool false,.int .i64 0,.int .i64 0,.int .i64 0]):=congrArg (·.1) hi1;have iz1:i0.size=4:=congrArg (·.2.1) hi1;have iz2:i0.bytes=32:=congrArg (·.2.2) hi1;clear hi43 hi1;go_enter Tryz.func70,Tryz.ntmps70
 go_wp2_with (go_at_call 86;refine hgo.mono ?_;rintro e w1 ⟨rfl,cac,h1⟩)
 clear hgo;obtain⟨ov,hcore,hrow,hne,hbx,hout⟩:=h1.drew.1.outTurn l hgl;obtain⟨hbi,hgi⟩:=hbx i z hz;have hq:=h1.drew.bq hz;dsimp only at hcore hbi hgi hq hne;obtain⟨k0,k1,k2,-⟩:=hq.cells;rw[hz1] at k0;rw[hz2] at k1;rw[hz3] at k2;have c10:w1.drew.cell? ⟨A.core,10,none⟩=some ov:=(cell_of hcore).trans rfl;have hbh:w1.drew.heap[A.box i]?=some (.cells (P12.bc z) 70 (0,0)):=hq;have hblt:=lt_of hbh;have hclt:=lt_of hcore;have hkA0:Kept (fun _=>False) w1 (w1.alloc (.cells #[.bool false,.int .i64 id,.int .i64 fn,.int .i64 ho] 43)).drew:=((Kept.refl _ w1).alloc _).drew;have hkA:Kept (fun _=>False) w1.drew (w1.alloc (.cells #[.bool false,.int .i64 id,.int .i64 fn,.int .i64 ho] 43)).drew:=⟨hkA0.os,hkA0.tape,hkA0.output,hkA0.size,hkA0.block⟩;clear hkA0;have hba:=(hkA.block _ hblt (fun h=>h)).trans hbh;have hcoa:=(hkA.block _ hclt (fun h=>h)).trans hcore;have hrowa:=row_kept hrow hkA (fun _ _ h=>h);have hna:(w1.alloc (.cells #[.bool false,.int .i64 id,.int .i64 fn,.int .i64 ho] 43)).drew.heap[w1.heap.size]?=some (.cells #[.bool false,.int .i64 id,.int .i64 fn,.int .i64 ho] 43 (0,0)):=heap_alloc_new _ _;have a0:(w1.alloc (.cells #[.bool false,.int .i64 id,.int .i64 fn,.int .i64 ho] 43)).cell? ⟨A.box i,0,none⟩=some (.int .i64 id):=(cell_of (w:=(w1.alloc (.cells #[.bool false,.int .i64 id,.int .i64 fn,.int .i64 ho] 43)).drew) hba).trans (by rw[← hz1];rfl);have a1:(w1.alloc (.cells #[.bool false,.int .i64 id,.int .i64 fn,.int .i64 ho] 43)).cell? ⟨A.box i,1,none⟩=some (.int .i64 fn):=(cell_of (w:=(w1.alloc (.cells #[.bool false,.int .i64 id,.int .i64 fn,.int .i64 ho] 43)).drew) hba).trans (by rw[← hz2];rfl);have a2:(w1.alloc (.cells #[.bool false,.int .i64 id,.int .i64 fn,.int .i64 ho] 43)).cell? ⟨A.box i,2,none⟩=some (.int .i64 ho):=(cell_of (w:=(w1.alloc (.cells #[.bool false,.int .i64 id,.int .i64 fn,.int .i64 ho] 43)).drew) hba).trans (by rw[← hz3];rfl);have a10:(w1.alloc (.cells #[.bool false,.int .i64 id,.int .i64 fn,.int .i64 ho] 43)).cell? ⟨A.core,10,none⟩=some ov:=(cell_of (w:=(w1.alloc (.cells #[.bool false,.int .i64 id,.int .i64 fn,.int .i64 ho] 43)).drew) hcoa).trans rfl;have k0:w1.cell? ⟨A.box i,0,none⟩=some (.int .i64 id):=k0;have k1:w1.cell? ⟨A.box i,1,none⟩=some (.int .i64 fn):=k1;have k2:w1.cell? ⟨A.box i,2,none⟩=some (.int .i64 ho):=k2;have c10:w1.cell? ⟨A.core,10,none⟩=some ov:=c10;have hone:∀ u ∈ ([.bool false,.int .i64 id,.int .i64 fn,.int .i64 ho]:List Value),u.oneCell'=true:=by intro u hu;simp at hu;rcases hu with rfl|rfl|rfl|rfl <;> rfl
 have hnews:∀ j u,([.bool false,.int .i64 id,.int .i64 fn,.int .i64 ho]:List Value)[j]?=some u→(w1.alloc (.cells #[.bool false,.int .i64 id,.int .i64 fn,.int .i64 ho] 43)).drew.cell? ((⟨w1.heap.size,0,none⟩:Addr).add j)=some u:=by
  intro j u hj;have hplain:(⟨w1.heap.size,0,none⟩:Addr).add j=⟨w1.heap.size,j,none⟩:=by unfold Addr.add;split <;> simp_all
  rw[hplain];refine(cell_of hna).trans ?_;simpa using hj
 have hml:l.length+1≤maxLen:=by unfold maxLen;omega
 have hby:(l.length+1)*32≤140737488355328:=by omega
 have HR:=Lib.hid hrowa;have HN:=Lib.hid hnews;have HO:=Lib.hid hout;have H1:=Lib.hid h1;have HC:=Lib.hid (And.intro hcoa hba);have HK:=Lib.hid hkA;clear hrow hrowa hnews hout h1 hq hbh hba hcoa hkA hcore hna;go_wp2_with fail
 go_region_law ((refine step_append_lies _ (by rfl) _ _ 39 (by rfl) 0 43 i0 (.agg #[.bool false,.int .i64 0,.int .i64 0,.int .i64 0]) 4 32 Tryz.underlying39 hi0 iz0 iz1 iz2 rfl (by decide) ov l.length (outCells l) (by rfl) HR.out ⟨w1.heap.size,0,none⟩ 1 1 [.bool false,.int .i64 id,.int .i64 fn,.int .i64 ho] (by rfl) rfl HN.out hone (by decide) hml hby (Nat.zero_le _) _ rfl ?_;intro g1 cap1 w3 hown3 hgrow hloc hlt3;have hkg:Kept (fun y=>some y=ov.ownBlock) _ w3:=Kept.of_grown hgrow;have b3:=(hkg.block A.core (lt_of HC.out.1) (fun h=>hne _ h.symm rfl)).trans HC.out.1;have b4:=(hkg.block (A.box i) (lt_of HC.out.2) (fun h=>hgi _ h.symm rfl)).trans HC.out.2;have r10:w3.cell? ⟨A.core,10,none⟩=some ov:=(cell_of b3).trans rfl;have f10:w3.frozen? ⟨A.core,10,none⟩=false:=frozen_of b3;have r0:w3.cell? ⟨A.box i,0,none⟩=some (.int .i64 id):=(cell_of b4).trans (by rw[← hz1];rfl);have r1:w3.cell? ⟨A.box i,1,none⟩=some (.int .i64 fn):=(cell_of b4).trans (by rw[← hz2];rfl);have r2:w3.cell? ⟨A.box i,2,none⟩=some (.int .i64 ho):=(cell_of b4).trans (by rw[← hz3];rfl)))
 all_goals
  have b5:(w3.setCell ⟨A.core,10,none⟩ (.slice (some ⟨g1,0,none⟩) (l.length+1) cap1)).heap[A.core]?=some (.cells (coreCells s1 { A with cac:=cac } (.slice (some ⟨g1,0,none⟩) (l.length+1) cap1)) 96 (0,0)):=set_same (i:=10) _ b3;have hks:=Kept.set1 w3 A.core 10 (.slice (some ⟨g1,0,none⟩) (l.length+1) cap1);have hg1:g1≠A.core:=by
   rcases hloc with hloc|hloc
   ·exact hne _ hloc
   ·have e1:A.core < w1.heap.size:=hclt
    have e2:g1=w1.heap.size+1:=by rw[hloc];simp
    omega
  have hown4:=row_kept hown3 hks (fun g' h1 h2=>by cases h1;exact hg1 h2);have hkw:Kept (fun b=>b=A.core∨ov.ownBlock=some b) w1.drew (w3.setCell ⟨A.core,10,none⟩ (.slice (some ⟨g1,0,none⟩) (l.length+1) cap1)):=
   ((HK.out.mono (fun _ _ h=>h.elim)).trans hkg (fun _ _ h=>.inr h.symm)).trans hks (fun _ _ h=>.inl h)
  have hfin:=HO.out _ _ (l++[⟨false,id,fn,ho⟩]) b5 (by rw[outCells_snoc,List.length_append];exact hown4) (fun g hg=>by
   cases hg
   rcases hloc with hloc|hloc
   ·exact .inl hloc
   ·exact .inr ⟨by rw[hloc];simp,by rw[World.size_setCell];exact hlt3⟩) hkw
  have h9:=H1.out.drew.next hfin.1 hfin.2;clear hfin hkw hown4 hks b5 b3 b4 hown3 hgrow hkg r10 f10 r0 r1 r2;go_wp2_with fail
  go_returns
  exact⟨rfl,cac,h9⟩
end Go.Proofs.YtigeldkbfbcpmaaGreat
