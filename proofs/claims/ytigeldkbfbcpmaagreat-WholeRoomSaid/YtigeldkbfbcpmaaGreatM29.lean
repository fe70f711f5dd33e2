/- A part of the proof: what the functions of the program come to, and what holds at all times. -/
import Derived.Test.YtigeldkbfbcpmaaGreatM28
set_option linter.unusedVariables false
set_option linter.unusedSectionVars false
set_option linter.unusedSimpArgs false
set_option maxRecDepth 100000
set_option maxHeartbeats 8000000
namespace Go.Proofs.YtigeldkbfbcpmaaGreat
open Go.RowKit Go.Kpt Go.Shelf HeapPure
theorem Inv.timset_{s:St}{N:Nat}{X:Nat→Prop}{f:Nat}(h:Inv s N X)(hf:(s.fns f).isSome=true)(v:P14.Tm):Inv { s with tim:=setAt P14.lt s.tim (1,(f:Int)) v } N X:=by
 refine { h with box:=fun j b hj=>(h.box j b hj).of rfl (fun f y e=>⟨y,e,rfl⟩),fn:=fun g u hu=>(h.fn g u hu).of (fun _ e=>e) (Int.le_refl _) rfl,timG:=setAt_good P14.ord_lt h.timG _ _,timI:=?_,timS:=?_ }
 ·intro k t hk
  have hk':=(setAt_has h.timG.inj _ _ _ _).1 hk;split at hk'
  ·rename_i e
   subst e;exact .inr ⟨rfl,f,rfl,hf⟩
  ·exact h.timI k t hk'
 ·intro i x hx hn hlo
  obtain⟨t,ht⟩:=h.timS i x hx hn hlo;refine⟨t,(setAt_has h.timG.inj _ _ _ _).2 ?_⟩;rw[if_neg (fun e=>by have:=congrArg Prod.fst e;simp at this)];exact ht
theorem Inv.timdrop_{s:St}{N:Nat}{X:Nat→Prop}{f:Int}(h:Inv s N X):Inv { s with tim:=drop P14.lt s.tim (1,f) } N X:=by
 refine { h with box:=fun j b hj=>(h.box j b hj).of rfl (fun f y e=>⟨y,e,rfl⟩),fn:=fun g u hu=>(h.fn g u hu).of (fun _ e=>e) (Int.le_refl _) rfl,timG:=drop_good P14.ord_lt h.timG _,timI:=?_,timS:=?_ }
 ·intro k t hk
  exact h.timI k t ((drop_has h.timG.inj _ _ _).1 hk).2
 ·intro i x hx hn hlo
  obtain⟨t,ht⟩:=h.timS i x hx hn hlo;exact⟨t,(drop_has h.timG.inj _ _ _).2 ⟨fun e=>by have:=congrArg Prod.fst e;simp at this,ht⟩⟩
theorem Inv.timend_{s:St}{N i:Nat}(h:Inv s N none_):Inv { s with tim:=drop P14.lt s.tim (0,(i:Int)+1) } N (only i):=by
 have h':Inv s N (only i):=h.any;refine { h' with box:=fun j b hj=>(h.box j b hj).of rfl (fun f y e=>⟨y,e,rfl⟩),fn:=fun g u hu=>(h.fn g u hu).of (fun _ e=>e) (Int.le_refl _) rfl,timG:=drop_good P14.ord_lt h.timG _,timI:=?_,timS:=?_ }
 ·intro k t hk
  exact h'.timI k t ((drop_has h.timG.inj _ _ _).1 hk).2
 ·intro j x hx hn hlo
  obtain⟨t,ht⟩:=h'.timS j x hx hn hlo;exact⟨t,(drop_has h.timG.inj _ _ _).2 ⟨fun e=>hn (by have:=congrArg Prod.snd e;simp only at this;unfold only;omega),ht⟩⟩
theorem Inv.tokset_{s:St}{N:Nat}{X:Nat→Prop}(h:Inv s N X)(c:Nat→Option Bkt)(hi:∀ a,(c a).isSome=(s.tok a).isSome)(ht:∀ a t,c a=some t→TokOk a t):Inv { s with tok:=c } N X:=
 { h with box:=fun j b hj=>(h.box j b hj).of rfl (fun f y e=>⟨y,e,rfl⟩),fn:=fun g u hu=>(h.fn g u hu).of (fun a e=>by show (c a).isSome=true;rw[hi];exact e) (Int.le_refl _) rfl,tok:=ht,qa:=fun a ha=>by rw[show ({ s with tok:=c }:St).tok=c from rfl,hi];exact h.qa a ha }
theorem bs_ge{f:Nat→P11.Fn}(a:Nat)(hb:∀ h,h < 64→0≤(f h).bu):∀ k,k≤64→0≤P11.bs f a k∧∀ h,h < k→(f h).th=true→(f h).acc=a→(f h).bu≤P11.bs f a k:=by
 intro k
 induction k with
 | zero=>intro _;exact⟨Int.le_refl _,fun h hh=>absurd hh (by omega)⟩
 | succ k ih=>
  intro hk;obtain⟨i1,i2⟩:=ih (by omega);have hbk:=hb k (by omega);unfold P11.bs;refine⟨by split <;> omega,fun h hh ht ha=>?_⟩
  rcases Nat.lt_or_ge h k with hlt|hge
  ·have:=i2 h hlt ht ha
   split <;> omega
  ·obtain rfl:h=k:=by omega
   rw[if_pos ⟨ht,ha⟩];omega
theorem ask_bu{q:P11.Lg}{f:Nat}(hg:P11.Good q)(hf:f < 64)(ht:(q.fs f).th=true)(ha:P11.askR q f=0):(q.fs f).bu+1≤1000:=by
 obtain⟨g1,g2,g3,g4,g5⟩:=hg.1 f hf;have hl:=hg.2 _ g1;have hb:=(bs_ge (q.fs f).acc (fun h hh=>(hg.1 h hh).2.2.2.1) 64 (Nat.le_refl _)).2 f hf ht rfl;unfold P11.askR at ha;split at ha
 ·cases ha
 ·split at ha
  ·cases ha
  ·omega
theorem begQ_facts(q:P11.Lg)(f g:Nat):((begQ q f).fs g).th=(q.fs g).th∧((begQ q f).fs g).acc=(q.fs g).acc∧((begQ q f).fs g).res=(q.fs g).res∧(begQ q f).ac=q.ac:=by
 unfold begQ;split
 ·unfold P11.Lg.setF P11.put
  refine⟨?_,?_,?_,rfl⟩ <;> simp only <;> split <;> (try rfl) <;> (rename_i e;subst e;rfl)
 ·exact⟨rfl,rfl,rfl,rfl⟩
theorem begQ_bu(q:P11.Lg)(f g:Nat)(h:(q.fs f).th=true∧P11.askR q f=0):((begQ q f).fs g).bu=if g=f then (q.fs f).bu+1 else (q.fs g).bu:=by
 unfold begQ;rw[if_pos h];unfold P11.Lg.setF P11.put;simp only;split <;> rfl
theorem call_facts{x:P12.Bx}{now:Int}(hbd:x.bound=true→x.st=0)(hc:x.st=1∨(x.st=0∧x.bound=false)):(P12.call x now).1.id=x.id∧(P12.call x now).1.fn=x.fn∧(P12.call x now).1.host=x.host∧(P12.call x now).1.mem=x.mem ∧
  (P12.call x now).1.st < 4∧(P12.call x now).1.st≠3∧(P12.call x now).1.st≠1∧(P12.call x now).1.pin=x.pin∧((P12.call x now).1.bound=true→(P12.call x now).1.st=0)∧P12.runs (P12.call x now).1=true∧P12.runs x=false:=by
 unfold P12.call;rcases hc with e|⟨e,e2⟩
 ·have hb:x.bound=false:=by
   cases hx:x.bound
   ·rfl
   ·have:=hbd hx;omega
  rw[if_pos e];refine⟨rfl,rfl,rfl,rfl,show (2:Nat) < 4 by decide,show (2:Nat)≠3 by decide,show (2:Nat)≠1 by decide,rfl,fun h=>?_,rfl,by simp[P12.runs,e]⟩;have h':x.bound=true:=h;rw[hb] at h';cases h'
 ·rw[if_neg (by omega),if_pos ⟨e,e2⟩]
  refine⟨rfl,rfl,rfl,rfl,show x.st < 4 by omega,show x.st≠3 by omega,show x.st≠1 by omega,rfl,fun h=>e,by simp[P12.runs,e],by simp[P12.runs,e,e2]⟩
theorem Inv.begin_{s:St}{N f i:Nat}{y:Fnc}{b:P12.Bx}(h:Inv s N none_)(hy:s.fns f=some y)(hb:s.boxes[i]?=some b)(hfn:b.fn=(f:Int))(hc:b.st=1∨(b.st=0∧b.bound=false))(ha:P11.askR s.quo f=0):
  Inv (beginS s f i) (N+1) none_∧(beginS s f i).boxes=s.boxes.set i (P12.call b s.now).1∧(beginS s f i).out=s.out∧(beginS s f i).tok=s.tok∧(beginS s f i).now=s.now∧(beginS s f i).quo=begQ s.quo f:=by
 have hfo:=h.fn f y hy;have hf:=hfo.lt;have hbo:=h.box i b hb;have hth:(s.quo.fs f).th=true:=by rw[h.fnq f hf,hy];rfl
 obtain⟨y1,hy1⟩:∃ z:Fnc,(if (s.quo.fs f).bu=0∧0≤y.last then { y with his:=hadd y.his (s.now - y.last),ring:=y.ring++[s.now - y.last] } else y)=z:=⟨_,rfl⟩;have g1:HGood y1.his (N+1):=by
  rw[← hy1];split
  ·exact hadd_good hfo.his _
  ·exact hfo.his.mono (by omega)
 have g2:y1.account=y.account∧y1.mem=y.mem∧y1.cost=y.cost∧y1.keep=y.keep∧y1.last=y.last:=by
  rw[← hy1];split <;> exact⟨rfl,rfl,rfl,rfl,rfl⟩
 obtain⟨g3,g4,g5,g6,g7⟩:=g2;obtain⟨y2,hy2⟩:∃ z:Fnc,{ y1 with often:=min (y.often+1) 1000 }=z:=⟨_,rfl⟩;have k1:FnOk s (N+1) f y2:=by
  rw[← hy2];exact⟨hfo.lt,by show y1.account < 16;rw[g3];exact hfo.acc,by show (s.tok y1.account).isSome=true;rw[g3];exact hfo.tok,by show 1≤y1.mem∧y1.mem≤4096;rw[g4];exact hfo.mem,by show 1≤y1.cost∧y1.cost≤1000;rw[g5];exact hfo.cost,
   by show y1.keep≤1000;rw[g6];exact hfo.keep,Nat.min_le_right _ _,by show -1≤y1.last∧y1.last≤s.now;rw[g7];exact hfo.last,by show _=y1.account;rw[g3];exact hfo.qacc,g1⟩
 have k2:y2.mem=y.mem:=by rw[← hy2];exact g4
 have h1:=h.fnset hy k2 k1 (fun g u hg hu=>(h.fn g u hu).his.mono (by omega));have h2:=h1.timdrop_ (f:=(f:Int));obtain⟨s2,hs2⟩:∃ s2:St,{ s with fns:=fset s.fns f y2,tim:=drop P14.lt s.tim (1,(f:Int)) }=s2:=⟨_,rfl⟩;have h2:Inv s2 (N+1) none_:=by rw[← hs2];exact h2
 have hb2:s2.boxes[i]?=some b:=by rw[← hs2];exact hb
 obtain⟨h3,h3a,h3b⟩:=h2.take (fun j e=>e.elim) hb2;have hT:takeB s2 i=takeS s2 b.host.toNat b.id:=by unfold takeB;rw[hb2]
 rw[hT] at h3 h3a h3b;rw[takeS_eq] at h3 h3a h3b;obtain⟨T,hTT⟩:∃ T:St,({ s2 with cac:=cset s2.cac b.host.toNat (HeapPure.drop P09.lt ((s2.cac b.host.toNat).getD ([],0)).1 b.id,((s2.cac b.host.toNat).getD ([],0)).2),tim:=HeapPure.drop P14.lt s2.tim (0,b.id) }:St)=T:=⟨_,rfl⟩;rw[hTT] at h3 h3a h3b;have tb:T.boxes=s.boxes:=by rw[← hTT,← hs2]
 have tq:T.quo=s.quo:=by rw[← hTT,← hs2]
 obtain⟨c1,c2,c3,c4,c5,c6,c7,c8,c9,c10,c11⟩:=call_facts (now:=s.now) hbo.bound hc;have hbT:T.boxes[i]?=some b:=by rw[tb];exact hb
 obtain⟨h4,-⟩:=h3.boxq (z:=(P12.call b s.now).1) (fun j e=>e) hbT (begQ s.quo f) c1 c2 c3 c4 c5 (by rcases hc with e | e <;> omega) c6 c9
  (fun g=>by rw[tq];exact⟨(begQ_facts s.quo f g).1,(begQ_facts s.quo f g).2.1,(begQ_facts s.quo f g).2.2.1⟩) (by rw[tq];exact(begQ_facts s.quo f 0).2.2.2)
  (fun g hg=>by
   rw[begQ_bu s.quo f g ⟨hth,ha⟩,tq];have q1:busyG g b=0:=by unfold busyG;rw[c11];rfl
   have q2:busyG g (P12.call b s.now).1=if g=f then 1 else 0:=by
    unfold busyG;rw[c10,c2,hfn];by_cases e:g=f
    ·subst e;simp
    ·rw[if_neg e,if_neg (fun a=>by have:=a.2;omega)]
   rw[q1,q2];by_cases e:g=f
   ·subst e
    rw[if_pos rfl,if_pos rfl];have:=ask_bu h.quo hf hth ha;omega
   ·rw[if_neg e,if_neg e]
    have:=(h.qb g hg).2;omega)
 have h5:=h4.settle (fun j e=>e) (set_same' hbT) (fun e=>c7 e.1) (fun m hm=>h3a m (by rw[c3] at hm;exact hm)) (fun t ht=>h3b t ht);have hgs:beginS s f i={ T with boxes:=T.boxes.set i (P12.call b s.now).1,quo:=begQ s.quo f }:=by
  rw[← hTT,← hs2,← hy2];unfold beginS;simp only[hy,hb,hy1,takeS_eq]
 rw[hgs];refine⟨h5,by show T.boxes.set i _=_;rw[tb],?_,?_,?_,rfl⟩
 ·show T.out=s.out;rw[← hTT,← hs2]
 ·show T.tok=s.tok;rw[← hTT,← hs2]
 ·show T.now=s.now;rw[← hTT,← hs2]
theorem better_or(s:St)(o:Option Nat)(x:Int):better s o x=some (x.toNat - 1)∨better s o x=o:=by
 unfold better;cases o with
 | none=>exact .inl rfl
 | some j=>
  simp only;split
  ·exact .inl rfl
  ·exact .inr rfl
theorem free_fold{s:St}(P:Nat→Prop):∀ (l:List Int) (o:Option Nat),(∀ x ∈ l,P (x.toNat - 1))→(∀ i,o=some i→P i)→∀ i,l.foldl (better s) o=some i→P i:=by
 intro l
 induction l with
 | nil=>intro o _ ho i hi;exact ho i hi
 | cons a l ih=>
  intro o hl ho i hi;refine ih (better s o a) (fun x hx=>hl x (List.mem_cons_of_mem _ hx)) (fun j hj=>?_) i hi;rcases better_or s o a with e|e
  ·rw[e] at hj;cases hj;exact hl a (List.mem_cons_self ..)
  ·rw[e] at hj;exact ho j hj
theorem freeOf_is{s:St}{k:Int}{i:Nat}(h:freeOf s k=some i):∃ x:P12.Bx,s.boxes[i]?=some x∧s.live ((i:Int)+1)=true∧x.fn=k∧x.st=1:=by
 refine free_fold (s:=s) (fun i=>∃ x:P12.Bx,s.boxes[i]?=some x∧s.live ((i:Int)+1)=true∧x.fn=k∧x.st=1) _ none (fun a ha=>?_) (fun j e=>by cases e) i h;obtain⟨j,x,rfl,h1,h2,h3⟩:=bp_some ha;rw[Bool.and_eq_true,beq_iff_eq] at h3;refine⟨x,?_,?_,h3.1,by simpa[P12.idle] using h3.2⟩
 ·rw[show ((j:Int)+1).toNat - 1=j by omega];exact h1
 ·rw[show ((j:Int)+1).toNat - 1=j by omega];exact h2
theorem ask_cases(q:P11.Lg)(f:Nat):P11.askR q f=0∨P11.askR q f=1∨P11.askR q f=2:=by
 unfold P11.askR;split
 ·exact .inr (.inl rfl)
 ·split
  ·exact .inr (.inr rfl)
  ·split
   ·exact .inr (.inr rfl)
   ·exact .inl rfl
section
variable {s:St} {n:Int}
theorem callS_no(h:n≥64∨(s.quo.fs n.toNat).th=false):callS s n=(s,(1,0,0,2)):=by unfold callS;rw[if_pos h]
theorem callS_fun(h:¬ (n≥64∨(s.quo.fs n.toNat).th=false))(h1:P11.askR s.quo n.toNat=1):callS s n=(s,(4,0,1,0)):=by unfold callS;rw[if_neg h,if_pos h1]
theorem callS_acc(h:¬ (n≥64∨(s.quo.fs n.toNat).th=false))(h1:P11.askR s.quo n.toNat=2):callS s n=(s,(4,0,2,0)):=by unfold callS;rw[if_neg h,if_neg (by omega),if_pos h1]
theorem callS_warm(h:¬ (n≥64∨(s.quo.fs n.toNat).th=false))(h1:P11.askR s.quo n.toNat=0){x:Fnc}(hx:s.fns n.toNat=some x){i:Nat}(hi:freeOf s n=some i):callS s n=(beginS s n.toNat i,(2,(i:Int)+1,0,0)):=by
 unfold callS;rw[if_neg h,if_neg (by omega),if_neg (by omega)];simp only[hx,hi]
theorem callS_tok(h:¬ (n≥64∨(s.quo.fs n.toNat).th=false))(h1:P11.askR s.quo n.toNat=0){x:Fnc}(hx:s.fns n.toNat=some x)(hi:freeOf s n=none){t:Bkt}(ht:s.tok x.account=some t)(h0:t.t=0):callS s n=(s,(4,0,3,0)):=by
 unfold callS;rw[if_neg h,if_neg (by omega),if_neg (by omega)];simp only[hx,hi,ht,h0];rfl
theorem callS_room(h:¬ (n≥64∨(s.quo.fs n.toNat).th=false))(h1:P11.askR s.quo n.toNat=0){x:Fnc}(hx:s.fns n.toNat=some x)(hi:freeOf s n=none){t:Bkt}(ht:s.tok x.account=some t)(h0:t.t≠0)(hr:(roomS s x.mem).2=none):callS s n=((roomS s x.mem).1,(4,0,4,0)):=by
 unfold callS;rw[if_neg h,if_neg (by omega),if_neg (by omega)];simp only[hx,hi,ht];rw[if_neg h0];rcases hq:roomS s x.mem with ⟨a,b⟩;rw[hq] at hr;obtain rfl:b=_:=hr;rfl
def coldT(s:St)(x:Fnc)(t:Bkt):St:={ (roomS s x.mem).1 with tok:=tset (roomS s x.mem).1.tok x.account { t with t:=t.t - 1 } }
theorem callS_cold(h:¬ (n≥64∨(s.quo.fs n.toNat).th=false))(h1:P11.askR s.quo n.toNat=0){x:Fnc}(hx:s.fns n.toNat=some x)(hi:freeOf s n=none){t:Bkt}(ht:s.tok x.account=some t)(h0:t.t≠0){k:Nat}(hr:(roomS s x.mem).2=some k):
  callS s n=(beginS (startS (coldT s x t) n.toNat k) n.toNat (coldT s x t).boxes.length,(3,(coldT s x t).next,0,0)):=by
 unfold callS coldT;rw[if_neg h,if_neg (by omega),if_neg (by omega)];simp only[hx,hi,ht];rw[if_neg h0];rcases hq:roomS s x.mem with ⟨a,b⟩;rw[hq] at hr;obtain rfl:b=_:=hr;rfl
end
theorem Inv.cold_{s:St}{N f k:Nat}{x:Fnc}{t:Bkt}(h:Inv s N none_)(ho:s.out.isSome=true)(hx:s.fns f=some x)(ht:s.tok x.account=some t)(h0:t.t≠0)(hr:(roomS s x.mem).2=some k):
  Inv (coldT s x t) N none_∧(coldT s x t).boxes.length=s.boxes.length∧(coldT s x t).fns=s.fns∧(coldT s x t).now=s.now∧(coldT s x t).quo=s.quo∧(coldT s x t).out.isSome=true∧k < 32∧upH (coldT s x t).hosts k=true∧(x.mem:Int)≤P13.free ((coldT s x t).hosts k):=by
 obtain⟨r1,r2,r3,r4,r5,r6,r7,r8,-,-⟩:=h.room ho x.mem;obtain⟨k1,k2,k3⟩:=r8 k hr;have hto:=h.tok _ _ ht;refine⟨r1.tokset_ (tset (roomS s x.mem).1.tok x.account { t with t:=t.t - 1 }) (fun a=>?_) (fun a u hu=>?_),r2,r3,r4,r6,r7,k1,k2,k3⟩
 ·unfold tset
  by_cases e:a=x.account
  ·rw[if_pos e,e,r5,ht];rfl
  ·rw[if_neg e]
 ·unfold tset at hu
  by_cases e:a=x.account
  ·rw[if_pos e] at hu
   cases hu
   subst e;have:=hto.tt;exact⟨hto.lt,⟨by show 0≤t.t - 1;omega,by show t.t - 1≤t.s;omega⟩,hto.ts,hto.tr⟩
  ·rw[if_neg e] at hu
   exact r1.tok a u hu
theorem start_fns(s:St)(f k:Nat):(startS s f k).fns=s.fns∧(startS s f k).quo=s.quo∧(startS s f k).now=s.now∧(startS s f k).tok=s.tok:=by
 unfold startS;split <;> exact⟨rfl,rfl,rfl,rfl⟩
theorem Inv.colder_{s:St}{N f k:Nat}{x:Fnc}{t:Bkt}(h:Inv s N none_)(ho:s.out.isSome=true)(hx:s.fns f=some x)(ht:s.tok x.account=some t)(h0:t.t≠0)(hr:(roomS s x.mem).2=some k)(ha:P11.askR s.quo f=0):
  Inv (beginS (startS (coldT s x t) f k) f (coldT s x t).boxes.length) (N+1) none_∧(beginS (startS (coldT s x t) f k) f (coldT s x t).boxes.length).boxes.length=s.boxes.length+1∧(beginS (startS (coldT s x t) f k) f (coldT s x t).boxes.length).out.isSome=true:=by
 obtain⟨g1,g2,g3,g4,g5,g6,g7,g8,g9⟩:=h.cold_ ho hx ht h0 hr;have hx2:(coldT s x t).fns f=some x:=by rw[g3];exact hx
 obtain⟨a1,a2,a3⟩:=g1.start hx2 g7 g8 g9;have hb:=start_box (s:=coldT s x t) (f:=f) (k:=k) hx2;obtain⟨b1,b2,b3,-⟩:=a1.begin_ (f:=f) (y:=x) (by rw[(start_fns _ _ _).1];exact hx2) hb rfl (.inr ⟨rfl,rfl⟩) (by rw[(start_fns _ _ _).2.1,g5];exact ha);refine⟨b1,?_,?_⟩
 ·rw[b2,List.length_set,a2,g2]
 ·rw[b3];exact(start_mild _ _ _ g6).out
theorem Inv.call_{s:St}{N:Nat}(h:Inv s N none_)(ho:s.out.isSome=true)(n:Int)(hn:0≤n):
  Inv (callS s n).1 (N+1) none_∧(callS s n).1.out.isSome=true∧s.boxes.length≤(callS s n).1.boxes.length∧(callS s n).1.boxes.length≤s.boxes.length+1:=by
 have hup:Inv s (N+1) none_:=h.up (by omega);by_cases h1:n≥64∨(s.quo.fs n.toNat).th=false
 ·rw[callS_no h1];exact⟨hup,ho,Nat.le_refl _,by show s.boxes.length≤_;omega⟩
 rcases ask_cases s.quo n.toNat with h2|h2|h2
 ·have hf:n.toNat < 64:=by omega
  have hth:(s.quo.fs n.toNat).th=true:=by
   cases e:(s.quo.fs n.toNat).th
   ·exact absurd (.inr e) h1
   ·rfl
  obtain⟨x,hx⟩:∃ x,s.fns n.toNat=some x:=Option.isSome_iff_exists.1 (by rw[← h.fnq _ hf];exact hth);have hnn:((n.toNat:Nat):Int)=n:=by omega
  cases hi:freeOf s n with
  | some i=>
   obtain⟨b,hb,-,hbf,hst⟩:=freeOf_is hi;rw[callS_warm h1 h2 hx hi];obtain⟨b1,b2,b3,-⟩:=h.begin_ hx hb (by rw[hbf,hnn]) (.inl hst) h2;exact⟨b1,by show (beginS s n.toNat i).out.isSome=true;rw[b3];exact ho,by show _≤(beginS s n.toNat i).boxes.length;rw[b2,List.length_set];omega,by show (beginS s n.toNat i).boxes.length≤_;rw[b2,List.length_set];omega⟩
  | none=>
   obtain⟨t,ht⟩:∃ t,s.tok x.account=some t:=Option.isSome_iff_exists.1 (h.fn _ _ hx).tok;by_cases h0:t.t=0
   ·rw[callS_tok h1 h2 hx hi ht h0];exact⟨hup,ho,Nat.le_refl _,by show s.boxes.length≤_;omega⟩
   ·cases hr:(roomS s x.mem).2 with
    | none=>
     rw[callS_room h1 h2 hx hi ht h0 hr];obtain⟨r1,r2,r3,r4,r5,r6,r7,r8,-,-⟩:=h.room ho x.mem;exact⟨r1.up (by omega),r7,by show _≤(roomS s x.mem).1.boxes.length;omega,by show (roomS s x.mem).1.boxes.length≤_;omega⟩
    | some k=>
     rw[callS_cold h1 h2 hx hi ht h0 hr];obtain⟨b1,b2,b3⟩:=h.colder_ ho hx ht h0 hr h2;exact⟨b1,b3,by show _≤(beginS _ _ _).boxes.length;omega,by show (beginS _ _ _).boxes.length≤_;omega⟩
 ·rw[callS_fun h1 h2];exact⟨hup,ho,Nat.le_refl _,by show s.boxes.length≤_;omega⟩
 ·rw[callS_acc h1 h2];exact⟨hup,ho,Nat.le_refl _,by show s.boxes.length≤_;omega⟩
theorem done_facts{x:P12.Bx}{now:Int}(hbd:x.bound=true→x.st=0)(hb:(P12.done x now).2=true):x.st=2∧(P12.done x now).1.id=x.id∧(P12.done x now).1.fn=x.fn∧(P12.done x now).1.host=x.host∧(P12.done x now).1.mem=x.mem ∧
  (P12.done x now).1.st=1∧(P12.done x now).1.pin=x.pin∧(P12.done x now).1.bound=false∧P12.runs (P12.done x now).1=false∧P12.runs x=true:=by
 unfold P12.done at hb ⊢;by_cases e:x.st=2
 ·rw[if_pos e]
  have hx:x.bound=false:=by
   cases hx:x.bound
   ·rfl
   ·have:=hbd hx;omega
  exact⟨e,rfl,rfl,rfl,rfl,rfl,rfl,hx,rfl,by simp[P12.runs,e]⟩
 ·rw[if_neg e] at hb
  cases hb
def doneH(s:St)(i:Nat)(x:P12.Bx):St:={ s with boxes:=s.boxes.set i (P12.done x s.now).1,quo:=endQ s.quo x.fn.toNat,fns:=lastF s.fns x.fn.toNat s.now }
def doneT(s:St)(i:Nat)(x:P12.Bx):St:=
 { doneH s i x with
  fns:=(match (doneH s i x).fns x.fn.toNat with | some y=>fset (doneH s i x).fns x.fn.toNat { y with fin:=s.now+(winS s x.fn.toNat).fin } | none=>(doneH s i x).fns),
  tim:=setAt P14.lt (doneH s i x).tim (1,x.fn) ⟨s.now+(winS s x.fn.toNat).pre,1,x.fn⟩ }
theorem doneS_yes{s:St}{i:Nat}{x:P12.Bx}(hx:s.boxes[i]?=some x)(hl:isLive s ((i:Int)+1)=true)(hb:(P12.done x s.now).2=true):
  doneS s ((i:Int)+1)=((if upH s.hosts x.host.toNat=false then killS (doneH s i x) i
  else if x.pin=true then doneH s i x
  else if 0 < (winS s x.fn.toNat).pre then killS (doneT s i x) i
  else idleS (doneH s i x) i (s.now+(winS s x.fn.toNat).fin)),0):=by
 unfold doneS;rw[if_neg (by rw[hl];exact Bool.noConfusion),show ((i:Int)+1).toNat - 1=i by omega,hx];exact if_neg (by rw[hb];exact Bool.noConfusion)
theorem lastF_at{c:Nat→Option Fnc}{f:Nat}{y:Fnc}(hy:c f=some y)(now:Int):lastF c f now=fset c f { y with last:=now }:=by unfold lastF;rw[hy]
theorem Inv.doneH_{s:St}{N i:Nat}{x:P12.Bx}(h:Inv s N none_)(hx:s.boxes[i]?=some x)(hb:(P12.done x s.now).2=true):
  Inv (doneH s i x) N (only i)∧(doneH s i x).boxes[i]?=some (P12.done x s.now).1∧(doneH s i x).boxes.length=s.boxes.length:=by
 have hbo:=h.box i x hx;obtain⟨f0,f1,f2,f3,f4,f5,f6,f7,f8,f9⟩:=done_facts hbo.bound hb;obtain⟨f,hf,hxf,y,hy,hmem⟩:=hbo.fn;have hff:x.fn.toNat=f:=by omega
 have hth:(s.quo.fs f).th=true:=by rw[h.fnq f hf,hy];rfl
 have hb1:busyG f x=1:=by unfold busyG;rw[if_pos ⟨f9,hxf⟩]
 have hb2:1≤busyOn s f:=by rw[← hb1];exact sumB_ge i x (busyG_nonneg f _) hx
 have hb3:(s.quo.fs f).bu≠0:=by have:=(h.qb f hf).1;omega
 have g:=(h.boxq (z:=(P12.done x s.now).1) (fun j e=>e.elim) hx (endQ s.quo f) f1 f2 f3 f4 (by omega) (by omega) (by omega) (fun e=>by rw[f7] at e;cases e)
  (fun g=>⟨(endQ_facts s.quo f g).1,(endQ_facts s.quo f g).2.1,(endQ_facts s.quo f g).2.2.1⟩) (endQ_facts s.quo f 0).2.2.2
  (fun g hg=>by
   rw[endQ_bu s.quo f g ⟨hth,hb3⟩];have q1:busyG g (P12.done x s.now).1=0:=by unfold busyG;rw[f8];rfl
   have q2:busyG g x=if g=f then 1 else 0:=by
    unfold busyG;rw[f9,hxf];by_cases e:g=f
    ·subst e;simp
    ·rw[if_neg e,if_neg (fun a=>by have:=a.2;omega)]
   rw[q1,q2];have:=(h.qb g hg).2;by_cases e:g=f
   ·subst e
    rw[if_pos rfl,if_pos rfl];omega
   ·rw[if_neg e,if_neg e]
    omega)).1
 have hfo:=g.fn f y hy;have k:=g.fnset (y:={ y with last:=s.now }) (M:=N) hy rfl ⟨hfo.lt,hfo.acc,hfo.tok,hfo.mem,hfo.cost,hfo.keep,hfo.often,⟨by have:=h.now;show (-1:Int)≤s.now;omega,Int.le_refl _⟩,hfo.qacc,hfo.his⟩ (fun g' u hg hu=>(g.fn g' u hu).his);have e:doneH s i x={ s with boxes:=s.boxes.set i (P12.done x s.now).1,quo:=endQ s.quo f,fns:=fset s.fns f { y with last:=s.now } }:=by
  unfold doneH;rw[hff,lastF_at hy]
 rw[e];exact⟨k,set_same' hx,List.length_set⟩
theorem Inv.done_{s:St}{N i:Nat}{x:P12.Bx}(h:Inv s N none_)(hL:s.boxes.length≤997000000)(ho:s.out.isSome=true)(hx:s.boxes[i]?=some x)(hl:isLive s ((i:Int)+1)=true)(hb:(P12.done x s.now).2=true):
  Inv (doneS s ((i:Int)+1)).1 N none_∧(doneS s ((i:Int)+1)).1.boxes.length=s.boxes.length∧(doneS s ((i:Int)+1)).1.out.isSome=true:=by
 have hbo:=h.box i x hx;obtain⟨f0,f1,f2,f3,f4,f5,f6,f7,f8,f9⟩:=done_facts hbo.bound hb;obtain⟨g1,g2,g3⟩:=h.doneH_ hx hb;obtain⟨f,hf,hxf,y,hy,hmem⟩:=hbo.fn;have hff:x.fn.toNat=f:=by omega
 have go:(doneH s i x).out.isSome=true:=ho;have kout:∀ t:St,t.out.isSome=true→(killS t i).out.isSome=true:=fun t ht=>by
  unfold killS;split
  ·exact ht
  ·rfl
 rw[doneS_yes hx hl hb];by_cases c1:upH s.hosts x.host.toNat=false
 ·rw[if_pos c1]
  obtain⟨k1,-,k3⟩:=g1.kill (fun j e=>e) g2 (by omega);exact⟨k1,k3.trans g3,kout _ go⟩
 rw[if_neg c1];by_cases c2:x.pin=true
 ·rw[if_pos c2]
  have hb2:=h.bare (fun e=>e) hx (fun e=>by have:=e.1;omega);exact⟨g1.settle (fun j e=>e) g2 (fun e=>by have:=e.2;rw[f6,c2] at this;cases this) (fun m hm=>hb2.1 _ m hm) (fun t ht=>hb2.2 t ht),g3,go⟩
 rw[if_neg c2];have hpf:x.pin=false:=by cases e:x.pin;rfl;exact absurd e c2
 by_cases c3:0 < (winS s x.fn.toNat).pre
 ·rw[if_pos c3]
  have hyh:(doneH s i x).fns f=some { y with last:=s.now }:=by
   unfold doneH;simp only;rw[hff,lastF_at hy];exact fset_same _ _ _
  have hfo:=g1.fn f _ hyh;have k:=g1.fnset (y:={ y with last:=s.now,fin:=s.now+(winS s f).fin }) (M:=N) hyh rfl ⟨hfo.lt,hfo.acc,hfo.tok,hfo.mem,hfo.cost,hfo.keep,hfo.often,hfo.last,hfo.qacc,hfo.his⟩ (fun g' u hg hu=>(g1.fn g' u hu).his);have k':=k.timset_ (f:=f) (by show (fset _ _ _ f).isSome=true;rw[fset_same];rfl) ⟨s.now+(winS s f).pre,1,f⟩;have e:doneT s i x={ doneH s i x with fns:=fset (doneH s i x).fns f { y with last:=s.now,fin:=s.now+(winS s f).fin },tim:=setAt P14.lt (doneH s i x).tim (1,(f:Int)) ⟨s.now+(winS s f).pre,1,f⟩ }:=by
   unfold doneT;rw[hff,hyh,hxf]
  rw[e];obtain⟨k1,-,k3⟩:=k'.kill (fun j e=>e) (show _=some (P12.done x s.now).1 from g2) (by omega);exact⟨k1,k3.trans g3,kout _ go⟩
 ·rw[if_neg c3]
  obtain⟨k1,k2⟩:=g1.idle (by rw[g3];omega) (fun j e=>e) g2 ⟨f5,by rw[f6];exact hpf⟩ (s.now+(winS s x.fn.toNat).fin);refine⟨k1,k2.trans g3,?_⟩;unfold idleS;split
  ·exact go
  ·split
   ·exact kout _ go
   ·split <;> exact go
section
variable {s:St} {e:P16.Evt}
def newTok(s:St)(e:P16.Evt):Bkt:=match s.tok (e 1).toNat with | some b=>⟨P10.bnd (e 3),P10.bnd (e 4),if b.t≤P10.bnd (e 3) then b.t else P10.bnd (e 3)⟩ | none=>⟨P10.bnd (e 3),P10.bnd (e 4),P10.bnd (e 3)⟩
def accT(s:St)(e:P16.Evt):St:={ s with quo:=s.quo.setA (e 1).toNat ⟨true,e 2⟩,tok:=tset s.tok (e 1).toNat (newTok s e) }
theorem accountS_arg(h:e 3 > 1000∨e 4 > 1000∨e 1≥16∨e 2 > 1000):accountS s e=(s,1):=by unfold accountS;rw[if_pos h]
theorem accountS_quo(h:¬ (e 3 > 1000∨e 4 > 1000∨e 1≥16∨e 2 > 1000))(h1:e 2 < P11.rs s.quo.fs (e 1).toNat 64):accountS s e=(s,4):=by unfold accountS;rw[if_neg h,if_pos h1]
theorem accountS_yes(h:¬ (e 3 > 1000∨e 4 > 1000∨e 1≥16∨e 2 > 1000))(h1:¬ e 2 < P11.rs s.quo.fs (e 1).toNat 64):accountS s e=(accT s e,0):=by unfold accountS;rw[if_neg h,if_neg h1];rfl
theorem bktnew_ok{a:Nat}(ha:a < 16)(m n:Int)(t:Int)(h:0≤t∧t≤P10.bnd m):TokOk a ⟨P10.bnd m,P10.bnd n,t⟩:=⟨ha,h,(P10.bnd_le m).2,P10.bnd_le n⟩
theorem newTok_ok{N:Nat}(h:Inv s N none_)(ha:(e 1).toNat < 16):TokOk (e 1).toNat (newTok s e):=by
 unfold newTok;have h3:=P10.bnd_le (e 3);cases ht:s.tok (e 1).toNat with
 | none=>exact bktnew_ok ha _ _ _ ⟨h3.1,Int.le_refl _⟩
 | some b=>
  have:=(h.tok _ _ ht).tt;refine bktnew_ok ha _ _ _ ?_;split <;> omega
theorem Inv.accT_{N:Nat}(h:Inv s N none_)(ha:(e 1).toNat < 16)(h2:0≤e 2∧e 2≤1000):Inv (accT s e) N none_:=by
 have htk:=newTok_ok (e:=e) h ha;refine { h with box:=fun j b hj=>(h.box j b hj).of rfl (fun f y e=>⟨y,e,rfl⟩),fn:=?_,fnq:=h.fnq,quo:=⟨h.quo.1,?_⟩,qb:=h.qb,qa:=?_,tok:=?_ }
 ·intro f y hf
  refine(h.fn f y hf).of (fun a hs=>?_) (Int.le_refl _) rfl;show (tset s.tok _ _ a).isSome=true;unfold tset;split
  ·rfl
  ·exact hs
 ·intro a haa
  show 0≤(P11.put s.quo.ac (e 1).toNat ⟨true,e 2⟩ a).lim∧(P11.put s.quo.ac (e 1).toNat ⟨true,e 2⟩ a).lim≤1000;by_cases e':a=(e 1).toNat
  ·subst e';rw[P11.put_same];exact h2
  ·rw[P11.put_ne _ _ _ _ e'];exact h.quo.2 a haa
 ·intro a haa
  show (P11.put s.quo.ac _ _ a).th=(tset s.tok _ _ a).isSome;unfold tset;by_cases e':a=(e 1).toNat
  ·subst e';rw[P11.put_same,if_pos rfl];rfl
  ·rw[P11.put_ne _ _ _ _ e',if_neg e'];exact h.qa a haa
 ·intro a t ht
  have ht':tset s.tok (e 1).toNat (newTok s e) a=some t:=ht;unfold tset at ht';by_cases e':a=(e 1).toNat
  ·rw[if_pos e'] at ht';cases ht';subst e';exact htk
  ·rw[if_neg e'] at ht';exact h.tok a t ht'
def funT(s:St)(e:P16.Evt):St:={ s with quo:=s.quo.setF (e 1).toNat ⟨true,(e 5).toNat,e 8,(s.quo.fs (e 1).toNat).bu⟩,fns:=fset s.fns (e 1).toNat (newFn s e) }
def funBad(e:P16.Evt):Prop:=e 1≥64∨e 5≥16∨e 8 > 1000∨e 9 > 1000∨e 6 < 1∨e 6 > 4096∨e 7 < 1∨e 7 > 1000
def funSum(s:St)(e:P16.Evt):Prop:=P11.rs s.quo.fs (e 5).toNat 64 - (s.quo.fs (e 1).toNat).res+e 8 > (s.quo.ac (e 5).toNat).lim
instance (e:P16.Evt):Decidable (funBad e):=by unfold funBad;exact inferInstance
instance (s:St) (e:P16.Evt):Decidable (funSum s e):=by unfold funSum;exact inferInstance
theorem functionS_eq(s:St)(e:P16.Evt):functionS s e=if funBad e then (s,1) else if s.tok (e 5).toNat=none then (s,2) else if clash s e=true then (s,3) else if e 8 > 0∧e 9 > e 8 then (s,4) else if funSum s e then (s,4) else (keepS (e 1).toNat (funT s e),0):=by
 unfold functionS funBad funSum funT;rfl
theorem Inv.funT_{N:Nat}(h:Inv s N none_)(hr:∀ j,0≤e j)(hb:¬ funBad e)(ht:s.tok (e 5).toNat≠none)(hc:clash s e=false):Inv (funT s e) N none_:=by
 have hr1:=hr 1;have hr5:=hr 5;have hr6:=hr 6;have hr7:=hr 7;have hr8:=hr 8;have hr9:=hr 9;unfold funBad at hb;have hf:(e 1).toNat < 64:=by omega
 have hts:(s.tok (e 5).toNat).isSome=true:=by cases e':s.tok (e 5).toNat;exact absurd e' ht;rfl
 have hold:∀ y,s.fns (e 1).toNat=some y→y.account=(e 5).toNat∧y.mem=(e 6).toNat:=fun y hy=>by
  unfold clash at hc;rw[hy] at hc;simp at hc;omega
 have hnew:FnOk (funT s e) N (e 1).toNat (newFn s e):=by
  have hq:((funT s e).quo.fs (e 1).toNat).acc=(e 5).toNat:=by
   show (P11.put s.quo.fs _ _ _).acc=_;rw[P11.put_same]
  unfold newFn;cases hy:s.fns (e 1).toNat with
  | none=>
   simp only;have:=h.now;exact⟨hf,by show (e 5).toNat < 16;omega,hts,by show 1≤(e 6).toNat∧(e 6).toNat≤4096;omega,by show 1≤(e 7).toNat∧(e 7).toNat≤1000;omega,by show (e 9).toNat≤1000;omega,Nat.zero_le _,⟨Int.le_refl _,by show (-1:Int)≤s.now;omega⟩,hq,hgood0.mono (Nat.zero_le _)⟩
  | some y=>
   simp only;obtain⟨o1,o2⟩:=hold y hy;have hfo:=h.fn _ y hy;exact⟨hf,hfo.acc,hfo.tok,hfo.mem,by show 1≤(e 7).toNat∧(e 7).toNat≤1000;omega,by show (e 9).toNat≤1000;omega,hfo.often,hfo.last,hq.trans o1.symm,hfo.his⟩
 refine { h with box:=?_,fn:=?_,fnq:=?_,quo:=⟨?_,h.quo.2⟩,qb:=?_,timI:=?_ }
 ·intro j b hj
  refine(h.box j b hj).of rfl (fun g y hy=>?_);show ∃ y',fset s.fns _ _ g=some y'∧_;unfold fset;by_cases eg:g=(e 1).toNat
  ·subst eg
   rw[if_pos rfl];refine⟨_,rfl,?_⟩;unfold newFn;rw[hy]
  ·rw[if_neg eg];exact⟨y,hy,rfl⟩
 ·intro g y hg
  have hg':fset s.fns (e 1).toNat (newFn s e) g=some y:=hg;unfold fset at hg';by_cases eg:g=(e 1).toNat
  ·rw[if_pos eg] at hg';cases hg';subst eg;exact hnew
  ·rw[if_neg eg] at hg'
   refine(h.fn g y hg').of (fun _ e=>e) (Int.le_refl _) ?_;show (P11.put s.quo.fs _ _ g).acc=_;rw[P11.put_ne _ _ _ _ eg]
 ·intro g hg
  show (P11.put s.quo.fs _ _ g).th=(fset s.fns _ _ g).isSome;unfold fset;by_cases eg:g=(e 1).toNat
  ·subst eg;rw[P11.put_same,if_pos rfl];rfl
  ·rw[P11.put_ne _ _ _ _ eg,if_neg eg];exact h.fnq g hg
 ·intro g hg
  show P11.goodf (P11.put s.quo.fs _ _ g);by_cases eg:g=(e 1).toNat
  ·subst eg
   rw[P11.put_same];obtain⟨-,-,-,a4,a5⟩:=h.quo.1 _ hg;exact⟨by show (e 5).toNat < 16;omega,by show 0≤e 8;omega,by show e 8≤1000;omega,a4,a5⟩
  ·rw[P11.put_ne _ _ _ _ eg];exact h.quo.1 g hg
 ·intro g hg
  show (P11.put s.quo.fs _ _ g).bu=busyOn s g∧(P11.put s.quo.fs _ _ g).bu≤1000;by_cases eg:g=(e 1).toNat
  ·subst eg;rw[P11.put_same];exact h.qb _ hg
  ·rw[P11.put_ne _ _ _ _ eg];exact h.qb g hg
 ·intro q u hq
  rcases h.timI q u hq with h0|⟨h0,g,h3,h4⟩
  ·exact .inl h0
  ·refine .inr ⟨h0,g,h3,?_⟩
   show (fset s.fns _ _ g).isSome=true;unfold fset;split
   ·rfl
   ·exact h4
theorem Inv.function_{N:Nat}(h:Inv s N none_)(ho:s.out.isSome=true)(hL:s.boxes.length≤997000000)(hr:∀ j,0≤e j):Inv (functionS s e).1 N none_∧(functionS s e).1.out.isSome=true∧s.boxes.length≤(functionS s e).1.boxes.length∧(functionS s e).1.boxes.length≤s.boxes.length+1000:=by
 have hs:Inv s N none_∧s.out.isSome=true∧s.boxes.length≤s.boxes.length∧s.boxes.length≤s.boxes.length+1000:=⟨h,ho,Nat.le_refl _,by omega⟩;rw[functionS_eq];by_cases h1:funBad e
 ·rw[if_pos h1];exact hs
 rw[if_neg h1];by_cases h2:s.tok (e 5).toNat=none
 ·rw[if_pos h2];exact hs
 rw[if_neg h2];by_cases h3:clash s e=true
 ·rw[if_pos h3];exact hs
 rw[if_neg h3];by_cases h4:e 8 > 0∧e 9 > e 8
 ·rw[if_pos h4];exact hs
 rw[if_neg h4];by_cases h5:funSum s e
 ·rw[if_pos h5];exact hs
 rw[if_neg h5];have g:=h.funT_ hr h1 h2 (by cases e':clash s e;rfl;exact absurd e' h3);obtain⟨k1,k2,k3,k4⟩:=g.keep_ (f:=(e 1).toNat) (y:=newFn s e) ho (by show s.boxes.length≤_;omega) (fset_same _ _ _);exact⟨k1,k2.out,k3,k4⟩
def hostT(s:St)(e:P16.Evt):St:={ s with hosts:=P13.put s.hosts (e 1).toNat ⟨true,false,e 3,0⟩,cac:=fun j=>if j=(e 1).toNat then none else s.cac j }
theorem hostS_arg(h:e 1≥32∨e 3 < 1∨e 3 > 4096):hostS s e=(s,1):=by unfold hostS;rw[if_pos h]
theorem hostS_st(h:¬ (e 1≥32∨e 3 < 1∨e 3 > 4096))(h1:(s.hosts (e 1).toNat).th=true):hostS s e=(s,3):=by unfold hostS;rw[if_neg h,if_pos h1]
theorem hostS_yes(h:¬ (e 1≥32∨e 3 < 1∨e 3 > 4096))(h1:¬ (s.hosts (e 1).toNat).th=true):hostS s e=(keepAllS (hostT s e),0):=by unfold hostS;rw[if_neg h,if_neg h1];rfl
theorem no_box{N:Nat}(h:Inv s N none_){k:Nat}(hk:k < 32)(ht:¬ (s.hosts k).th=true){i:Nat}{x:P12.Bx}(hx:s.boxes[i]?=some x)(hl:x.st≠3):x.host≠(k:Int):=fun e=>ht (host_there h hx hl hk e).1
theorem Inv.hostT_{N:Nat}(h:Inv s N none_)(hk:(e 1).toNat < 32)(h3:1≤e 3∧e 3≤4096)(ht:¬ (s.hosts (e 1).toNat).th=true):Inv (hostT s e) N none_:=by
 obtain⟨k,hkk⟩:∃ k,(e 1).toNat=k:=⟨_,rfl⟩;have hT:hostT s e={ s with hosts:=P13.put s.hosts k ⟨true,false,e 3,0⟩,cac:=fun j=>if j=k then none else s.cac j }:=by unfold hostT;rw[hkk]
 rw[hkk] at hk ht;rw[hT];have hm0:memOn s k=0:=by
  rw[← (h.host k hk).2,(h.host k hk).1.out (by cases e':(s.hosts k).th;rfl;exact absurd e' ht)]
 have cl:∀ g,cacL ({ s with hosts:=P13.put s.hosts k ⟨true,false,e 3,0⟩,cac:=fun j=>if j=k then none else s.cac j }:St) g=if g=k then [] else cacL s g:=fun g=>by
  unfold cacL;simp only;by_cases eg:g=k <;> simp[eg]
 have cc:∀ g,cacC ({ s with hosts:=P13.put s.hosts k ⟨true,false,e 3,0⟩,cac:=fun j=>if j=k then none else s.cac j }:St) g=if g=k then 0 else cacC s g:=fun g=>by
  unfold cacC;simp only;by_cases eg:g=k <;> simp[eg]
 refine { h with box:=fun j b hj=>(h.box j b hj).of rfl (fun f y e=>⟨y,e,rfl⟩),fn:=fun g u hu=>(h.fn g u hu).of (fun _ e=>e) (Int.le_refl _) rfl,host:=?_,cacLt:=?_,cacG:=?_,cacK:=?_,cacV:=?_,cacI:=?_,cacS:=?_ }
 ·intro g hg
  show HostOk (P13.put s.hosts k _ g)∧(P13.put s.hosts k _ g).us=memOn s g;by_cases eg:g=k
  ·subst eg
   rw[P13.put_same,hm0];exact⟨⟨⟨Int.le_refl _,by show (0:Int)≤e 3;omega,h3.2⟩,fun e'=>Bool.noConfusion e',fun e'=>Bool.noConfusion e'⟩,rfl⟩
  ·rw[P13.put_ne _ _ _ _ eg];exact h.host g hg
 ·intro g c hc
  have hc':(if g=k then none else s.cac g)=some c:=hc;by_cases eg:g=k
  ·rw[if_pos eg] at hc';cases hc'
  ·rw[if_neg eg] at hc';exact h.cacLt g c hc'
 ·intro g;rw[cl];split
  ·exact Good.nil
  ·exact h.cacG g
 ·intro g;rw[cc];split
  ·have:=(dead_bd s).1
   show ((0:Nat):Int)≤1000000*dead s;omega
  ·exact h.cacK g
 ·intro g id m hm
  rw[cl] at hm;rw[cc];by_cases eg:g=k
  ·rw[if_pos eg] at hm;exact absurd hm (not_has_nil _ _)
  ·rw[if_neg eg] at hm ⊢;exact h.cacV g id m hm
 ·intro g id m hm
  rw[cl] at hm;by_cases eg:g=k
  ·rw[if_pos eg] at hm;exact absurd hm (not_has_nil _ _)
  ·rw[if_neg eg] at hm;exact h.cacI g id m hm
 ·intro i x hx hn hlo
  have hx':s.boxes[i]?=some x:=hx;obtain⟨m,hm⟩:=h.cacS i x hx hn hlo;refine⟨m,?_⟩;rw[cl];by_cases eg:x.host.toNat=k
  ·obtain⟨j,hj,hxj⟩:=(h.box i x hx).host
   exact absurd (by omega) (no_box h hk ht hx (by rw[hlo.1];decide))
  ·rw[if_neg eg];exact hm
theorem Inv.host_{N:Nat}(h:Inv s N none_)(ho:s.out.isSome=true)(hL:s.boxes.length≤997000000)(hr:∀ j,0≤e j):Inv (hostS s e).1 N none_∧(hostS s e).1.out.isSome=true∧s.boxes.length≤(hostS s e).1.boxes.length∧(hostS s e).1.boxes.length≤s.boxes.length+64000:=by
 have hs:Inv s N none_∧s.out.isSome=true∧s.boxes.length≤s.boxes.length∧s.boxes.length≤s.boxes.length+64000:=⟨h,ho,Nat.le_refl _,by omega⟩;by_cases h1:e 1≥32∨e 3 < 1∨e 3 > 4096
 ·rw[hostS_arg h1];exact hs
 by_cases h2:(s.hosts (e 1).toNat).th=true
 ·rw[hostS_st h1 h2];exact hs
 rw[hostS_yes h1 h2];have hr1:=hr 1;obtain⟨k1,k2,k3,k4⟩:=(h.hostT_ (e:=e) (by omega) (by omega) h2).keepAll_ ho hL;exact⟨k1,k2.out,k3,k4⟩
end
end Go.Proofs.YtigeldkbfbcpmaaGreat
