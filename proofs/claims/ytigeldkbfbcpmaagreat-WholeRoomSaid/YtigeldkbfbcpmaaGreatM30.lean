/- A part of the proof: what the functions of the program come to, and what holds at all times. -/
import Derived.Deep.RegionHeld3
import Derived.Test.YtigeldkbfbcpmaaGreatM29
import Derived.Test.YtigeldkbfbcpmaaGreatM23
import Derived.Test.YtigeldkbfbcpmaaGreatM20
import Derived.Test.YtigeldkbfbcpmaaGreatM28
import Derived.Test.YtigeldkbfbcpmaaGreatM25
set_option linter.unusedVariables false
set_option linter.unusedSectionVars false
set_option linter.unusedSimpArgs false
set_option maxRecDepth 100000
set_option maxHeartbeats 8000000
namespace Go.Proofs.YtigeldkbfbcpmaaGreat
open Go.RowKit Go.Kpt Go.Shelf HeapPure
def boots(l:List (P14.Ke×P14.Tm)):Nat:=(List.range 64).countP (fun f:Nat=>(HeapPure.get l ((1:Int),(f:Int))).isSome)
theorem boots_le(l:List (P14.Ke×P14.Tm)):boots l≤64:=by
 have:=List.countP_le_length (p:=fun f:Nat=>(HeapPure.get l ((1:Int),(f:Int))).isSome) (l:=List.range 64);rw[List.length_range] at this;exact this
theorem boots_drop{l:List (P14.Ke×P14.Tm)}(h:HeapPure.Good P14.lt l)(k:P14.Ke):boots (drop P14.lt l k)≤boots l:=by
 unfold boots;refine List.countP_mono_left fun f _ hf=>?_;rw[drop_get P14.ord_lt h] at hf;split at hf
 ·cases hf
 ·exact hf
theorem countP_lt{p q:Nat→Bool}:∀ (l:List Nat),(∀ x ∈ l,p x=true→q x=true)→(∃ x ∈ l,p x=false∧q x=true)→l.countP p < l.countP q:=by
 intro l
 induction l with
 | nil=>rintro _ ⟨x,hx,-⟩;cases hx
 | cons a l ih=>
  rintro h ⟨x,hx,h1,h2⟩;have hm:l.countP p≤l.countP q:=List.countP_mono_left fun y hy=>h y (List.mem_cons_of_mem _ hy);rw[List.countP_cons,List.countP_cons];rcases List.mem_cons.1 hx with rfl|hx
  ·rw[h1,h2];simp only[Bool.false_eq_true,if_false,if_true];omega
  ·have:=ih (fun y hy=>h y (List.mem_cons_of_mem _ hy)) ⟨x,hx,h1,h2⟩
   have h3:=h a (List.mem_cons_self ..);by_cases ha:p a=true
   ·rw[ha,h3 ha];simp only[if_true];omega
   ·rw[if_neg ha];split <;> omega
theorem boots_drop1{l:List (P14.Ke×P14.Tm)}(h:HeapPure.Good P14.lt l){f:Nat}(hf:f < 64){v:P14.Tm}(hv:Has l ((1:Int),(f:Int)) v):boots (drop P14.lt l ((1:Int),(f:Int)))+1≤boots l:=by
 unfold boots;refine countP_lt _ (fun x _ hx=>?_) ⟨f,List.mem_range.2 hf,?_,?_⟩
 ·rw[drop_get P14.ord_lt h] at hx
  split at hx
  ·cases hx
  ·exact hx
 ·skip
  rw[drop_get P14.ord_lt h,if_pos rfl];rfl
 ·rw[(get_eq_some h.inj).2 hv]
  rfl
theorem tim_has{l:List (P14.Ke×P14.Tm)}(h:0 < l.length):Has l (kk l 0) (vv l 0):=by
 refine⟨0,?_⟩;unfold kk vv;cases l with
 | nil=>simp at h
 | cons a l=>rfl
theorem drop_less{l:List (P14.Ke×P14.Tm)}(h:HeapPure.Good P14.lt l){k:P14.Ke}{v:P14.Tm}(hv:Has l k v):(drop P14.lt l k).length+1=l.length:=by
 rw[drop_length];have:(idx l k).isSome=true:=by rw[← get_isSome,(get_eq_some h.inj).2 hv];rfl
 rw[if_pos this];obtain⟨i,hi⟩:=hv;have:0 < l.length:=by
  cases l with
  | nil=>simp at hi
  | cons a l=>simp
 omega
theorem drop_le{l:List (P14.Ke×P14.Tm)}(k:P14.Ke):(drop P14.lt l k).length≤l.length:=by
 rw[drop_length];split <;> omega
theorem goneS_tim(s:St)(i:Nat):(goneS s i).tim=s.tim∨∃ k,(goneS s i).tim=drop P14.lt s.tim k:=by
 unfold goneS;split
 ·exact .inl rfl
 ·exact .inr ⟨_,rfl⟩
theorem killS_tim(s:St)(i:Nat):(killS s i).tim=s.tim∨∃ k,(killS s i).tim=drop P14.lt s.tim k:=by
 unfold killS;split
 ·exact .inl rfl
 ·exact goneS_tim s i
theorem killS_mild(s:St)(i:Nat)(ho:s.out.isSome=true):(killS s i).now=s.now∧(killS s i).tok=s.tok∧(killS s i).out.isSome=true:=by
 unfold killS;split
 ·exact⟨rfl,rfl,ho⟩
 ·unfold goneS;split <;> exact⟨rfl,rfl,rfl⟩
theorem aheadS_tim(s:St)(f:Nat):(aheadS s f).tim=s.tim:=by
 unfold aheadS;split
 ·rfl
 ·split
  ·rfl
  ·split
   ·rfl
   ·unfold startS;split <;> rfl
def due(s:St):Prop:=0 < s.tim.length∧(HeapPure.vv s.tim 0).at_≤s.now
instance (s:St):Decidable (due s):=by unfold due;exact inferInstance
def dropT(s:St):St:={ s with tim:=HeapPure.drop P14.lt s.tim (HeapPure.kk s.tim 0) }
theorem time1_eq(s:St):time1 s=if (HeapPure.kk s.tim 0).1=0 then killS (dropT s) ((HeapPure.kk s.tim 0).2.toNat - 1) else aheadS (dropT s) (HeapPure.kk s.tim 0).2.toNat:=rfl
theorem Inv.due_{s:St}{N:Nat}(h:Inv s N none_)(hl:0 < s.tim.length):
  ((HeapPure.kk s.tim 0).1=0∧∃ (i:Nat) (x:P12.Bx),(HeapPure.kk s.tim 0).2=(i:Int)+1∧s.boxes[i]?=some x∧loose x∧s.live ((i:Int)+1)=true∧Inv (dropT s) N (only i)) ∨
  ((HeapPure.kk s.tim 0).1=1∧∃ (f:Nat) (y:Fnc),(HeapPure.kk s.tim 0).2=(f:Int)∧f < 64∧s.fns f=some y∧Inv (dropT s) N none_):=by
 have hh:=tim_has hl;rcases h.timI _ _ hh with ⟨h0,i,x,h1,h2,h3,h4⟩|⟨h0,f,h1,h2⟩
 ·have hlo:=h4 (fun e=>e)
  refine .inl ⟨h0,i,x,h1,h2,hlo,(h.box i x h2).live.2 (by rw[hlo.1];decide),?_⟩;have:=h.timend_ (i:=i);unfold dropT;rw[show HeapPure.kk s.tim 0=(0,(i:Int)+1) from Prod.ext h0 h1];exact this
 ·obtain⟨y,hy⟩:=Option.isSome_iff_exists.1 h2
  refine .inr ⟨h0,f,y,h1,(h.fn f y hy).lt,hy,?_⟩;unfold dropT;rw[show HeapPure.kk s.tim 0=(1,(f:Int)) from Prod.ext h0 h1];exact h.timdrop_
structure Timed (s t:St) (N:Nat):Prop where
 inv:Inv t N none_
 now:t.now=s.now
 tok:t.tok=s.tok
 out:t.out.isSome=true
 len:s.boxes.length≤t.boxes.length
 pot:t.boxes.length+boots t.tim≤s.boxes.length+boots s.tim
theorem Inv.time1_{s:St}{N:Nat}(h:Inv s N none_)(ho:s.out.isSome=true)(hl:0 < s.tim.length):Timed s (time1 s) N∧(time1 s).tim.length+1≤s.tim.length:=by
 have hh:=tim_has hl;rw[time1_eq];have hdl:(dropT s).tim.length+1=s.tim.length:=drop_less h.timG hh;have hg:HeapPure.Good P14.lt (dropT s).tim:=drop_good P14.ord_lt h.timG _;rcases h.due_ hl with ⟨h0,i,x,h1,h2,h3,h4,h5⟩|⟨h0,f,y,h1,h2,h3,h4⟩
 ·rw[if_pos h0,h1,show ((i:Int)+1).toNat - 1=i by omega]
  obtain⟨k1,k2,k3⟩:=h5.kill (fun j e=>e) (show (dropT s).boxes[i]?=some x from h2) (by rw[h3.1];decide);obtain⟨m1,m2,m3⟩:=killS_mild (dropT s) i ho;have kt:(killS (dropT s) i).tim.length≤(dropT s).tim.length∧boots (killS (dropT s) i).tim≤boots (dropT s).tim:=by
   rcases killS_tim (dropT s) i with e|⟨k,e⟩
   ·rw[e];exact⟨Nat.le_refl _,Nat.le_refl _⟩
   ·rw[e];exact⟨drop_le k,boots_drop hg k⟩
  have kb:boots (dropT s).tim≤boots s.tim:=boots_drop h.timG _;exact⟨⟨k1,m1,m2,m3,by rw[k3];exact Nat.le_refl _,by rw[k3];show s.boxes.length+_≤_;omega⟩,by omega⟩
 ·rw[if_neg (by omega),h1,Int.toNat_natCast]
  obtain⟨k1,k2,k3,k4⟩:=h4.ahead_ ho (show (dropT s).fns f=some y from h3);have kb:boots (dropT s).tim+1≤boots s.tim:=by
   have e:HeapPure.kk s.tim 0=(1,(f:Int)):=Prod.ext h0 h1;unfold dropT;rw[e] at hh ⊢;exact boots_drop1 h.timG h2 hh
  have hs:(dropT s).boxes.length=s.boxes.length:=rfl;exact⟨⟨k1,k2.now,k2.tok,k2.out,by omega,by rw[aheadS_tim];omega⟩,by rw[aheadS_tim];omega⟩
theorem Timed.refl{s:St}{N:Nat}(h:Inv s N none_)(ho:s.out.isSome=true):Timed s s N:=⟨h,rfl,rfl,ho,Nat.le_refl _,Nat.le_refl _⟩
theorem Timed.trans{s t u:St}{N:Nat}(h:Timed s t N)(k:Timed t u N):Timed s u N:=
 ⟨k.inv,k.now.trans h.now,k.tok.trans h.tok,k.out,Nat.le_trans h.len k.len,Nat.le_trans k.pot h.pot⟩
theorem timesS_no{s:St}(h:¬ due s)(n:Nat):timesS n s=s:=by
 cases n with
 | zero=>rfl
 | succ n=>exact if_neg h
theorem timesS_yes{s:St}(h:due s)(n:Nat):timesS (n+1) s=timesS n (time1 s):=if_pos h
theorem timesS_more{N:Nat}:∀ (n:Nat) (s:St),Inv s N none_→s.out.isSome=true→s.tim.length≤n→∀ m,n≤m→timesS m s=timesS n s∧¬ due (timesS n s)∧Timed s (timesS n s) N:=by
 intro n
 induction n with
 | zero=>
  intro s h ho hl m hm;have hd:¬ due s:=fun e=>by have:=e.1;omega
  exact⟨by rw[timesS_no hd,timesS_no hd],by rw[timesS_no hd];exact hd,by rw[timesS_no hd];exact Timed.refl h ho⟩
 | succ n ih=>
  intro s h ho hl m hm;obtain⟨m,rfl⟩:∃ k,m=k+1:=⟨m - 1,by omega⟩;by_cases hd:due s
  ·rw[timesS_yes hd,timesS_yes hd]
   obtain⟨k1,k2⟩:=h.time1_ ho hd.1;obtain⟨a,b,c⟩:=ih (time1 s) k1.inv k1.out (by omega) m (by omega);exact⟨a,b,k1.trans c⟩
  ·rw[timesS_no hd,timesS_no hd]
   exact⟨rfl,hd,Timed.refl h ho⟩
def tickH(s:St):St:={ s with now:=s.now+1,tok:=fun a=>(s.tok a).map bktTick }
theorem tickS_max{s:St}(h:s.now=1099511627776):tickS s=s:=by unfold tickS;rw[if_pos h]
theorem tickS_eq{s:St}(h:s.now≠1099511627776):tickS s=keepAllS (timesS s.tim.length (tickH s)):=by unfold tickS;rw[if_neg h];rfl
theorem Inv.tickH_{s:St}{N:Nat}(h:Inv s N none_)(hn:s.now≠1099511627776):Inv (tickH s) N none_:=by
 have hnw:=h.now;refine { h with now:=⟨by show 0≤s.now+1;omega,by show s.now+1≤_;omega⟩,box:=fun j b hj=>(h.box j b hj).of rfl (fun f y e=>⟨y,e,rfl⟩),fn:=?_,qa:=?_,tok:=?_ }
 ·intro f y hf
  refine(h.fn f y hf).of (fun a hs=>?_) (by show s.now≤s.now+1;omega) rfl;show ((s.tok a).map bktTick).isSome=true;rw[Option.isSome_map];exact hs
 ·intro a ha
  show _=((s.tok a).map bktTick).isSome;rw[Option.isSome_map];exact h.qa a ha
 ·intro a t ht
  have ht':(s.tok a).map bktTick=some t:=ht;cases hk:s.tok a with
  | none=>rw[hk] at ht';cases ht'
  | some u=>
   rw[hk] at ht';simp only[Option.map_some,Option.some.injEq] at ht';subst ht';have g:=h.tok a u hk;have g1:=g.tt;have g2:=g.tr;refine⟨g.lt,?_,g.ts,g.tr⟩;unfold bktTick;simp only;split <;> omega
theorem Inv.tick_{s:St}{N:Nat}(h:Inv s N none_)(ho:s.out.isSome=true)(hL:s.boxes.length≤996000000):Inv (tickS s) N none_∧(tickS s).out.isSome=true∧s.boxes.length≤(tickS s).boxes.length∧(tickS s).boxes.length≤s.boxes.length+64064:=by
 by_cases hn:s.now=1099511627776
 ·rw[tickS_max hn];exact⟨h,ho,Nat.le_refl _,by omega⟩
 rw[tickS_eq hn];obtain⟨-,-,c⟩:=timesS_more s.tim.length (tickH s) (h.tickH_ hn) ho (Nat.le_refl _) _ (Nat.le_refl _);have hp:=c.pot;have hl:=c.len;have hb:=boots_le (tickH s).tim;have hs:(tickH s).boxes.length=s.boxes.length:=rfl;obtain⟨k1,k2,k3,k4⟩:=c.inv.keepAll_ c.out (by omega);exact⟨k1,k2.out,by omega,by omega⟩
end Go.Proofs.YtigeldkbfbcpmaaGreat
namespace Go.Proofs.YtigeldkbfbcpmaaGreat
open Go.RowKit Go.Kpt Go.Maps
theorem mTok_new(s:St)(A:Adr)(a:Nat)(ha:a < 16)(t:Bkt)(bb:Nat):gput (mTok s A) (a:Int) (some bb)=mTok { s with tok:=tset s.tok a t } { A with tok:=aput A.tok a bb }:=by
 funext k
 unfold gput mTok tset aput;by_cases e:k=(a:Int)
 ·subst e
  simp;omega
 ·rw[if_neg e]
  by_cases h:0≤k∧k < 16
  ·rw[if_pos h,if_pos h]
   simp only;rw[if_neg (by omega),if_neg (by omega)]
  ·rw[if_neg h,if_neg h]
theorem mFn_new(s:St)(A:Adr)(f:Nat)(hf:f < 64)(x:Fnc)(fb hb rb:Nat):gput (mFn s A) (f:Int) (some fb)=mFn { s with fns:=fset s.fns f x } { A with fn:=aput A.fn f fb,his:=aput A.his f hb,rng:=aput A.rng f rb }:=by
 funext k
 unfold gput mFn fset aput;by_cases e:k=(f:Int)
 ·subst e
  simp;omega
 ·rw[if_neg e]
  by_cases h:0≤k∧k < 64
  ·rw[if_pos h,if_pos h]
   simp only;rw[if_neg (by omega),if_neg (by omega)]
  ·rw[if_neg h,if_neg h]
theorem Sys.newTok{w:World}{s:St}{A:Adr}{F:Nat→Prop}(h:Sys w s A F)(a:Nat)(ha:a < 16)(hn:s.tok a=none)(bb:Nat)(t:Bkt)(hb:P10.Bk w bb t.s t.r t.t)(hF:¬ F bb):
  ∃ c,Pm w A.tokM c (mTok s A)∧c < maxLen∧∀ w' c',Pm w' A.tokM c' (mTok { s with tok:=tset s.tok a t } { A with tok:=aput A.tok a bb })→Kept (fun b=>b=A.tokM) w w' →
   Sys w' { s with tok:=tset s.tok a t } { A with tok:=aput A.tok a bb } (fun y=>Grow F w w' y∨y=bb)∧Kept F w w':=by
 obtain⟨own,hS,hFo⟩:=h;obtain⟨h1,c,h2⟩:=hS.at_ .tokM;have hc:c≤16:=Gm.count h2 16 (fun k hk=>by
  unfold mTok at hk;split at hk
  ·omega
  ·cases hk)
 refine⟨c,h2,by unfold maxLen;omega,fun w' c' hy k=>?_⟩;have hKF:Kept F w w':=k.mono (fun b _ e=>by rw[e];exact hFo _ _ h1);have hbM:bb≠A.tokM:=fun e=>hF (by rw[e];exact hFo _ _ h1);have hlt:bb < w.heap.size:=hb.lt;refine⟨⟨fun q=>if q=.tok a then (fun y=>y=bb) else own q,⟨fun q=>?_,fun q x hx=>?_,fun q r x hx hy=>?_⟩,fun q x hx=>?_⟩,hKF⟩
 ·by_cases e:q=.tok a
  ·subst e
   rw[if_pos rfl];intro u hu;have e1:u=t:=by
    have hu':tset s.tok a t a=some u:=hu;simp[tset] at hu';exact hu'.symm
   subst e1;have e2:({ A with tok:=aput A.tok a bb }:Adr).tok a=bb:=by simp[aput]
   rw[e2];exact⟨rfl,hb.kept k hbM⟩
  ·rw[if_neg e]
   by_cases e3:q=.tokM
   ·subst e3
    exact⟨h1,c',hy⟩
   ·have h4:=(hS.at_ q).frame k (fun x hx e5=>e3 (hS.sep q .tokM x hx (by rw[e5];exact h1)))
    cases q with
    | tok j=>
     have hj:j≠a:=fun e5=>e (by rw[e5]);intro u hu;have hu':tset s.tok a t j=some u:=hu;have e2:({ A with tok:=aput A.tok a bb }:Adr).tok j=A.tok j:=by simp[aput,hj]
     rw[e2];exact h4 u (by simpa[tset,hj] using hu')
    | tokM=>exact absurd rfl e3
    | _=>exact h4
 ·split at hx
  ·rw[hx];exact Nat.lt_of_lt_of_le hlt k.size
  ·exact Nat.lt_of_lt_of_le (hS.lt q x hx) k.size
 ·split at hx <;> split at hy
  ·rename_i e1 e2;rw[e1,e2]
  ·rw[hx] at hy;exact absurd (hFo r _ hy) hF
  ·rw[hy] at hx;exact absurd (hFo q _ hx) hF
  ·exact hS.sep q r x hx hy
 ·dsimp only at hx
  split at hx
  ·exact .inr hx
  ·exact .inl (.inl (hFo q x hx))
theorem Sys.newFn{w:World}{s:St}{A:Adr}{F:Nat→Prop}(h:Sys w s A F)(f:Nat)(hf:f < 64)(hn:s.fns f=none)(x:Fnc)(fb hb rb:Nat)(h1:w.heap[fb]?=some (.cells (fcells x hb rb) 133 (0,0)))(h2:Hh w hb x.his)(h3:P05.Rg w rb x.ring)
  (hF1:¬ F fb) (hF2:¬ F hb) (hF3:¬ F rb) (n12:fb≠hb) (n13:fb≠rb) (n23:hb≠rb) (l2:hb < w.heap.size) (l3:rb < w.heap.size):
  ∃ c,Pm w A.fnM c (mFn s A)∧c < maxLen∧∀ w' c',Pm w' A.fnM c' (mFn { s with fns:=fset s.fns f x } { A with fn:=aput A.fn f fb,his:=aput A.his f hb,rng:=aput A.rng f rb })→Kept (fun b=>b=A.fnM) w w' →
   Sys w' { s with fns:=fset s.fns f x } { A with fn:=aput A.fn f fb,his:=aput A.his f hb,rng:=aput A.rng f rb } (fun y=>Grow F w w' y∨y=fb∨y=hb∨y=rb)∧Kept F w w':=by
 obtain⟨own,hS,hFo⟩:=h;obtain⟨g1,c,g2⟩:=hS.at_ .fnM;have hc:c≤64:=Gm.count g2 64 (fun k hk=>by
  unfold mFn at hk;split at hk
  ·omega
  ·cases hk)
 refine⟨c,g2,by unfold maxLen;omega,fun w' c' hy k=>?_⟩;have hKF:Kept F w w':=k.mono (fun b _ e=>by rw[e];exact hFo _ _ g1);have m1:fb≠A.fnM:=fun e=>hF1 (by rw[e];exact hFo _ _ g1);have m2:hb≠A.fnM:=fun e=>hF2 (by rw[e];exact hFo _ _ g1);have m3:rb≠A.fnM:=fun e=>hF3 (by rw[e];exact hFo _ _ g1);have l1:fb < w.heap.size:=lt_of h1;refine⟨⟨fun q=>if q=.fn f then (fun y=>y=fb) else if q=.his f then (fun y=>y=hb) else if q=.rng f then (fun y=>y=rb) else own q,⟨fun q=>?_,fun q y hx=>?_,fun q r y hx hy=>?_⟩,fun q y hx=>?_⟩,hKF⟩
 ·by_cases e1:q=.fn f
  ·subst e1
   rw[if_pos rfl];intro u hu;have eu:u=x:=by
    have hu':fset s.fns f x f=some u:=hu;simp[fset] at hu';exact hu'.symm
   subst eu;refine⟨by simp[aput],?_⟩;have e2:w'.heap[fb]?=some (.cells (fcells u hb rb) 133 (0,0)):=(k.block _ l1 m1).trans h1;simpa[aput] using e2
  rw[if_neg e1];by_cases e2:q=.his f
  ·subst e2
   rw[if_pos rfl];intro u hu;have eu:u=x:=by
    have hu':fset s.fns f x f=some u:=hu;simp[fset] at hu';exact hu'.symm
   subst eu;refine⟨by simp[aput],?_⟩;have:=h2.kept k m2;simpa[aput] using this
  rw[if_neg e2];by_cases e3:q=.rng f
  ·subst e3
   rw[if_pos rfl];intro u hu;have eu:u=x:=by
    have hu':fset s.fns f x f=some u:=hu;simp[fset] at hu';exact hu'.symm
   subst eu;refine⟨by simp[aput],?_⟩;have:=h3.kept k m3;simpa[aput] using this
  rw[if_neg e3];by_cases e4:q=.fnM
  ·subst e4
   exact⟨g1,c',hy⟩
  have h4:=(hS.at_ q).frame k (fun y hx e5=>e4 (hS.sep q .fnM y hx (by rw[e5];exact g1)));cases q with
  | fn j=>
   have hj:j≠f:=fun e5=>e1 (by rw[e5]);intro u hu;have hu':fset s.fns f x j=some u:=hu;have h5:=h4 u (by simpa[fset,hj] using hu');simpa[aput,hj] using h5
  | his j=>
   have hj:j≠f:=fun e5=>e2 (by rw[e5]);intro u hu;have hu':fset s.fns f x j=some u:=hu;have h5:=h4 u (by simpa[fset,hj] using hu');simpa[aput,hj] using h5
  | rng j=>
   have hj:j≠f:=fun e5=>e3 (by rw[e5]);intro u hu;have hu':fset s.fns f x j=some u:=hu;have h5:=h4 u (by simpa[fset,hj] using hu');simpa[aput,hj] using h5
  | fnM=>exact absurd rfl e4
  | _=>exact h4
 ·have key:y < w.heap.size:=by
   split at hx
   ·rw[hx];exact l1
   ·split at hx
    ·rw[hx];exact l2
    ·split at hx
     ·rw[hx];exact l3
     ·exact hS.lt q y hx
  exact Nat.lt_of_lt_of_le key k.size
 ·have key:∀ q,(if q=.fn f then (fun y=>y=fb) else if q=.his f then (fun y=>y=hb) else if q=.rng f then (fun y=>y=rb) else own q:Nat→Prop) y→(q=.fn f∧y=fb)∨(q=.his f∧y=hb)∨(q=.rng f∧y=rb)∨own q y:=fun q hx=>by
   split at hx
   ·rename_i e;exact .inl ⟨e,hx⟩
   ·split at hx
    ·rename_i e;exact .inr (.inl ⟨e,hx⟩)
    ·split at hx
     ·rename_i e;exact .inr (.inr (.inl ⟨e,hx⟩))
     ·exact .inr (.inr (.inr hx))
  have no:∀ q,own q y→y≠fb∧y≠hb∧y≠rb:=fun q ho=>⟨fun e=>hF1 (e ▸ hFo q y ho),fun e=>hF2 (e ▸ hFo q y ho),fun e=>hF3 (e ▸ hFo q y ho)⟩;rcases key q hx with ⟨a1,b1⟩|⟨a1,b1⟩|⟨a1,b1⟩|a1 <;> rcases key r hy with ⟨a2,b2⟩ | ⟨a2,b2⟩ | ⟨a2,b2⟩ | a2
  all_goals first
   | exact a1.trans a2.symm
   | exact absurd (b1.symm.trans b2) n12
   | exact absurd (b1.symm.trans b2) n13
   | exact absurd (b1.symm.trans b2) n23
   | exact absurd (b2.symm.trans b1) n12
   | exact absurd (b2.symm.trans b1) n13
   | exact absurd (b2.symm.trans b1) n23
   | exact absurd b1 (no r a2).1
   | exact absurd b1 (no r a2).2.1
   | exact absurd b1 (no r a2).2.2
   | exact absurd b2 (no q a1).1
   | exact absurd b2 (no q a1).2.1
   | exact absurd b2 (no q a1).2.2
   | exact hS.sep q r y a1 a2
 ·dsimp only at hx
  split at hx
  ·exact .inr (.inl hx)
  ·split at hx
   ·exact .inr (.inr (.inl hx))
   ·split at hx
    ·exact .inr (.inr (.inr hx))
    ·exact .inl (.inl (hFo q y hx))
end Go.Proofs.YtigeldkbfbcpmaaGreat
namespace Go.Proofs.YtigeldkbfbcpmaaGreat
open Go.RowKit Go.Kpt
def UntOk(s:St):Prop:=∀ k,(s.unt k).isSome=true→1≤k∧k≤s.boxes.length
structure Ebb (s t:St):Prop where
 len:s.boxes.length≤t.boxes.length
 unt:∀ k,(t.unt k).isSome=true→(s.unt k).isSome=true
theorem Ebb.refl(s:St):Ebb s s:=⟨Nat.le_refl _,fun _ h=>h⟩
theorem Ebb.trans{s t u:St}(h:Ebb s t)(k:Ebb t u):Ebb s u:=⟨Nat.le_trans h.len k.len,fun i e=>h.unt i (k.unt i e)⟩
theorem Ebb.pre{s t u:St}(k:Ebb t u)(hl:s.boxes.length≤t.boxes.length)(hu:∀ i,(t.unt i).isSome=true→(s.unt i).isSome=true):Ebb s u:=⟨Nat.le_trans hl k.len,fun i e=>hu i (k.unt i e)⟩
theorem UntOk.ebb{s t:St}(h:UntOk s)(e:Ebb s t):UntOk t:=fun k hk=>by
 have:=h k (e.unt k hk);have:=e.len;omega
theorem gdel_some{m:Int→Option Int}{k i:Int}(h:(gdel m k i).isSome=true):(m i).isSome=true:=by
 unfold gdel at h;split at h
 ·cases h
 ·exact h
theorem ebb_gone(s:St)(i:Nat):Ebb s (goneS s i):=by
 unfold goneS;split
 ·exact Ebb.refl s
 ·exact⟨by show _≤(s.boxes.set i _).length;rw[List.length_set];exact Nat.le_refl _,fun k h=>gdel_some h⟩
theorem ebb_kill(s:St)(i:Nat):Ebb s (killS s i):=by
 unfold killS;split
 ·exact Ebb.refl s
 ·exact⟨(ebb_gone s i).len,(ebb_gone s i).unt⟩
theorem ebb_idle(s:St)(i:Nat)(e:Int):Ebb s (idleS s i e):=by
 unfold idleS;split
 ·exact Ebb.refl s
 ·split
  ·exact ebb_kill s i
  ·split
   ·exact Ebb.refl s
   ·exact⟨Nat.le_refl _,fun _ h=>h⟩
theorem ebb_start(s:St)(f h:Nat):Ebb s (startS s f h):=by
 unfold startS;split
 ·exact Ebb.refl s
 ·exact⟨by show _≤(s.boxes++_).length;rw[List.length_append];omega,fun k h=>h⟩
theorem ebb_take(s:St)(k:Nat)(id:Int):Ebb s (takeS s k id):=⟨Nat.le_refl _,fun _ h=>h⟩
theorem ebb_takeB(s:St)(i:Nat):Ebb s (takeB s i):=by unfold takeB;split;exact ebb_take _ _ _;exact Ebb.refl s
theorem ebb_pinB(s:St)(i:Nat)(v:Bool):Ebb s (pinB s i v):=by
 unfold pinB;split
 ·exact⟨by show _≤(s.boxes.set i _).length;rw[List.length_set];exact Nat.le_refl _,fun k h=>h⟩
 ·exact Ebb.refl s
theorem ebb_evict1(s:St)(h:Nat):Ebb s (evict1 s h):=by
 unfold evict1;exact(ebb_kill _ _).pre (Nat.le_refl _) (fun _ h=>h)
theorem ebb_evictS(mem:Int)(h:Nat):∀ (n:Nat) (s:St),Ebb s (evictS mem h n s):=by
 intro n
 induction n with
 | zero=>intro s;exact Ebb.refl s
 | succ n ih=>
  intro s;unfold evictS;split
  ·exact(ebb_evict1 s h).trans (ih _)
  ·exact Ebb.refl s
theorem ebb_roomFrom(mem:Int):∀ (n h:Nat) (s:St),Ebb s (roomFrom mem n h s).1:=by
 intro n
 induction n with
 | zero=>intro h s;exact Ebb.refl s
 | succ n ih=>
  intro h s;unfold roomFrom;split
  ·exact ebb_evictS mem h 4097 s
  ·exact ih (h+1) s
theorem ebb_room(s:St)(mem:Int):Ebb s (roomS s mem).1:=by
 unfold roomS;split
 ·exact Ebb.refl s
 ·exact ebb_roomFrom mem 32 0 s
theorem ebb_roomE{s r:St}{m:Int}{k:Option Nat}(e:roomS s m=(r,k)):Ebb s r:=by
 have:=ebb_room s m;rw[e] at this;exact this
theorem ebb_unpin(f:Nat)(s:St)(id:Int):Ebb s (unpin f s id):=by
 unfold unpin;split
 ·exact(ebb_pinB s _ _).trans (ebb_idle _ _ _)
 ·exact ebb_pinB s _ _
theorem ebb_pin1(s:St)(i:Nat):Ebb s (pin1 s i):=(ebb_takeB s i).trans (ebb_pinB _ _ _)
theorem ebb_pinMore(s:St)(f:Nat):Ebb s (pinMore s f).1:=by
 unfold pinMore;split
 ·exact ebb_pin1 s _
 ·have h:=ebb_room s (memF s f)
  split
  ·rename_i e;rw[e] at h;exact h
  ·rename_i e;rw[e] at h;exact(h.trans (ebb_start _ _ _)).trans (ebb_pin1 _ _)
theorem ebb_pinUp(f:Nat):∀ (n:Nat) (s:St),Ebb s (pinUp f n s):=by
 intro n
 induction n with
 | zero=>intro s;exact Ebb.refl s
 | succ n ih=>
  intro s;unfold pinUp;split
  ·exact(ebb_pinMore s f).trans (ih _)
  ·exact ebb_pinMore s f
theorem ebb_fold(g:St→Int→St)(hg:∀ s x,Ebb s (g s x)):∀ (l:List Int) (s:St),Ebb s (l.foldl g s):=by
 intro l
 induction l with
 | nil=>intro s;exact Ebb.refl s
 | cons a l ih=>intro s;exact(hg s a).trans (ih _)
theorem ebb_keep(f:Nat)(s:St):Ebb s (keepS f s):=by
 unfold keepS;split
 ·exact Ebb.refl s
 ·exact(ebb_fold _ (ebb_unpin f) _ s).trans (ebb_pinUp f _ _)
theorem ebb_keepAll(s:St):Ebb s (keepAllS s):=ebb_fold _ (fun s x=>ebb_keep x.toNat s) _ s
theorem ebb_begin(s:St)(f i:Nat):Ebb s (beginS s f i):=by
 unfold beginS;split
 ·exact⟨by show _≤(List.set _ _ _).length;rw[List.length_set];exact Nat.le_refl _,fun k h=>h⟩
 ·exact Ebb.refl s
theorem ebb_call(s:St)(n:Int):Ebb s (callS s n).1:=by
 unfold callS;split
 ·exact Ebb.refl s
 ·split
  ·exact Ebb.refl s
  ·split
   ·exact Ebb.refl s
   ·split
    ·exact Ebb.refl s
    ·split
     ·exact ebb_begin _ _ _
     ·split
      ·exact Ebb.refl s
      ·split
       ·exact Ebb.refl s
       ·split
        ·rename_i e
         exact ebb_roomE e
        ·rename_i e
         have h:=ebb_roomE e;refine(h.trans ?_).trans (ebb_begin _ _ _);exact(ebb_start _ _ _).pre (Nat.le_refl _) (fun _ h=>h)
theorem ebb_account(s:St)(e:P16.Evt):Ebb s (accountS s e).1:=by
 unfold accountS;split
 ·exact Ebb.refl s
 ·split
  ·exact Ebb.refl s
  ·exact⟨Nat.le_refl _,fun _ h=>h⟩
theorem ebb_function(s:St)(e:P16.Evt):Ebb s (functionS s e).1:=by
 unfold functionS;split
 ·exact Ebb.refl s
 split
 ·exact Ebb.refl s
 split
 ·exact Ebb.refl s
 split
 ·exact Ebb.refl s
 split
 ·exact Ebb.refl s
 ·exact(ebb_keep _ _).pre (Nat.le_refl _) (fun _ h=>h)
theorem ebb_host(s:St)(e:P16.Evt):Ebb s (hostS s e).1:=by
 unfold hostS;split
 ·exact Ebb.refl s
 split
 ·exact Ebb.refl s
 ·exact(ebb_keepAll _).pre (Nat.le_refl _) (fun _ h=>h)
theorem ebb_drain1(s:St)(x:Int):Ebb s (drain1 s x):=by unfold drain1;split;exact ebb_pinB _ _ _;exact ebb_kill _ _
theorem ebb_drain(s:St)(n:Int):Ebb s (drainS s n).1:=by
 unfold drainS;split
 ·exact Ebb.refl s
 split
 ·exact Ebb.refl s
 ·show Ebb s (keepAllS (List.foldl drain1 { s with hosts:=P13.put s.hosts n.toNat (P13.swept { s.hosts n.toNat with dr:=true }) } _))
  refine Ebb.trans ?_ (ebb_keepAll _);exact(ebb_fold drain1 ebb_drain1 _ _).pre (Nat.le_refl _) (fun _ h=>h)
theorem ebb_fail(s:St)(n:Int):Ebb s (failS s n).1:=by
 unfold failS;split
 ·exact Ebb.refl s
 ·exact(ebb_fold (fun s id=>goneS s (id.toNat - 1)) (fun s x=>ebb_gone s _) _ s).trans ((ebb_keepAll _).pre (Nat.le_refl _) (fun _ h=>h))
theorem ebb_booted(s:St)(n:Int):Ebb s (bootedS s n).1:=by
 unfold bootedS;split
 ·exact Ebb.refl s
 split
 ·exact Ebb.refl s
 split
 ·exact Ebb.refl s
 ·have h:∀ b q,Ebb s { s with boxes:=s.boxes.set b q,unt:=gdel s.unt n }:=fun b q=>⟨by show _≤(s.boxes.set _ _).length;rw[List.length_set];exact Nat.le_refl _,fun k h=>gdel_some h⟩
  show Ebb s (if _ then _ else _);split
  ·exact(h _ _).trans (ebb_idle _ _ _)
  ·exact h _ _
theorem ebb_broke(s:St)(n:Int):Ebb s (brokeS s n).1:=by
 unfold brokeS;split
 ·exact Ebb.refl s
 split
 ·exact Ebb.refl s
 ·exact(ebb_gone _ _).trans (ebb_keep _ _)
theorem ebb_done(s:St)(n:Int):Ebb s (doneS s n).1:=by
 unfold doneS;split
 ·exact Ebb.refl s
 split
 ·exact Ebb.refl s
 split
 ·exact Ebb.refl s
 ·have h:∀ b q c,Ebb s { s with boxes:=s.boxes.set b q,quo:=c,fns:=lastF s.fns b s.now }:=fun b q c=>⟨by show _≤(s.boxes.set _ _).length;rw[List.length_set];exact Nat.le_refl _,fun k h=>h⟩
  have hl:∀ b q,s.boxes.length≤(s.boxes.set b q).length:=fun b q=>by rw[List.length_set];exact Nat.le_refl _
  show Ebb s (if _ then _ else if _ then _ else if _ then _ else _);split
  ·exact(ebb_kill _ _).pre (hl _ _) (fun _ h=>h)
  split
  ·exact⟨hl _ _,fun _ h=>h⟩
  split
  ·exact(ebb_kill _ _).pre (hl _ _) (fun _ h=>h)
  ·exact(ebb_idle _ _ _).pre (hl _ _) (fun _ h=>h)
theorem UntOk.ahead{s:St}(h:UntOk s)(hn:s.next=(s.boxes.length:Int)+1)(f:Nat):UntOk (aheadS s f):=by
 unfold aheadS;cases hx:s.fns f with
 | none=>exact h
 | some x=>
  simp only;split
  ·exact h
  ·split
   ·exact h
   ·rename_i k _ _
    intro i hi;have hl:(startS s f k).boxes.length=s.boxes.length+1:=by unfold startS;rw[hx];simp
    show 1≤i∧i≤((startS s f k).boxes.length:Int);rw[hl];have hi':(gput s.unt s.next x.fin i).isSome=true:=hi;unfold gput at hi';split at hi'
    ·omega
    ·have:=h i hi';omega
end Go.Proofs.YtigeldkbfbcpmaaGreat
namespace Go.Proofs.YtigeldkbfbcpmaaGreat
open Go.RowKit Go.Kpt Go.Shelf
theorem ahead_yes(s:St)(N:Nat)(hI:Inv s N none_)(hL:s.boxes.length≤997000000)(hout:s.out.isSome=true)(hU:UntOk s)(A:Adr)(w0:World)(F0:Nat→Prop)(f:Nat)(y:Fnc)(hy:s.fns f=some y)(hb:¬ 0 < (ofFn s f).length)(k:Nat)(hfk:P13.fitK s.hosts y.mem 32=some k)(w:World)(h:Rs w0 F0 w s A):
  Calls Tryz.prog 71 #[.pointer (some ⟨A.core,0,none⟩),.int .i64 f] w fun e w'=>e=.returned (.tuple #[])∧Rx w0 F0 w' (aheadS s f) A s.boxes.length:=by
 have hfo:=hI.fn f y hy;have hf:=hfo.lt;obtain⟨wa,hwa⟩:∃ wa,w.alloc (.cells #[.int .i64 f] 3)=wa:=⟨_,rfl⟩;have hBa:Below w.heap.size w wa:=by subst hwa;exact(Below.refl _ w).alloc (Nat.le_refl _) _
 have hza:wa.heap.size=w.heap.size+1:=by subst hwa;simp
 have hca:wa.heap[w.heap.size]?=some (.cells #[.int .i64 f] 3 (0,0)):=by subst hwa;exact heap_alloc_new _ _
 have ca:wa.cell? ⟨w.heap.size,0,none⟩=some (.int .i64 f):=(cell_of hca).trans rfl;have ha:=h.below hBa;have hw:=where_any s A _ (by omega) 123 #[.pointer (some ⟨w.heap.size,0,none⟩)] (bp s fun b=>b.fn == (f:Int)) eg123 wa ha.1
  (asks_of ha.1 ca (by omega) fun i x W _ hq hc=>fn123_any _ x _ f W hq hc)
 rw[show (ids s).filter (bp s fun b=>b.fn == (f:Int))=ofFn s f from rfl] at hw;simp only[ptr] at hw;have hmm:1≤y.mem:=hfo.mem.1;have hlen:(ofFn s f).length≤s.boxes.length:=Nat.le_trans (List.length_filter_le _ _) (ids_len s);have hST:Hid (∀ W,Below w.heap.size w W→W.cell? ⟨w.heap.size,0,none⟩=some (.int .i64 f)→(W.cell? ⟨A.core,5,none⟩=some (.pointer (some ⟨A.hosts,0,none⟩))∧W.cell? ⟨w.heap.size,0,none⟩=some (.int .i64 f)∧W.cell? ⟨A.core,4,none⟩=some (.map (some A.fnM))∧W.cell? ⟨A.fn f,1,none⟩=some (.int .i64 y.mem) ∧
   (Instr.lookup 81 (.map (some A.fnM)) (.int .i64 f) false).run Tryz.prog W=.ok (.pointer (some ⟨A.fn f,0,none⟩)) W)):=by
  intro W hB hc;have hr:=h.below hB;refine⟨hr.cc.2.2.2.2.2.1,hc,hr.cc.2.2.2.2.1,(cell_of (hr.1.fn hy).1).trans rfl,?_⟩;exact hr.1.look_fn (f:Int) (WalkArith.wf_i64 (by omega)) (some (A.fn f)) (by unfold mFn;rw[if_pos (by omega),show (f:Int).toNat=f by omega,hy];rfl)
 have hfit:Hid (∀ W,Below w.heap.size w W→Calls Tryz.prog 124 #[.pointer (some ⟨A.hosts,0,none⟩),.int .i64 y.mem] W fun e w'=>e=.returned (.tuple #[.int .i64 (max (P13.bi (P13.fitK s.hosts y.mem 32)) 0),.bool (P13.fitK s.hosts y.mem 32).isSome])∧Below W.heap.size W w'):=by
  intro W hB;refine(P13.fit_any A.hosts s.hosts (fun k hk=>(hI.host k hk).1.us) y.mem (by omega) W (h.below hB).1.hostsAt.1).mono ?_;rintro e w' ⟨rfl,-,hB2⟩;exact⟨rfl,hB2⟩
 have H:=Lib.hid (And.intro h (And.intro hBa (And.intro hza (And.intro ca hb))));have HF:=Lib.hid hfo;clear h hBa hca ha hza ca hfo hb;go_enter Tryz.func71,Tryz.ntmps71
 go_wp2_with fail
 refine hw.mono ?_;clear hw;rintro e wb ⟨v,rfl,hrd,hBb⟩;obtain⟨a,cap,rfl,-⟩:=hrd.any;have hBw:Below w.heap.size w wb:=H.out.2.1.trans (hBb.mono (by have:=H.out.2.2.1;omega));have hcb:wb.cell? ⟨w.heap.size,0,none⟩=some (.int .i64 f):=by
  rw[World.cell?_of_block (show wb.heap[w.heap.size]?=wa.heap[w.heap.size]? from hBb.block _ (by have:=H.out.2.2.1;omega))];exact H.out.2.2.2.1
 have hlt:w.heap.size < wb.heap.size:=by have:=hBb.size;have:=H.out.2.2.1;omega
 obtain⟨z5,zc,z4,z1,zl⟩:=hST.out wb.drew (hBw.trans (Below.refl _ _).drew |>.mono (Nat.le_refl _)) hcb;have hfi:=hfit.out wb.drew (hBw.trans (Below.refl _ _).drew |>.mono (Nat.le_refl _));have hBd0:Below w.heap.size w wb.drew:=hBw.trans (Below.refl _ _).drew;have hltd:w.heap.size≤wb.drew.heap.size:=Nat.le_of_lt hlt;have hltd2:w.heap.size < wb.drew.heap.size:=hlt;have hcd:wb.drew.cell? ⟨w.heap.size,0,none⟩=some (.int .i64 f):=hcb;have HB:=Lib.hid (And.intro hBd0 (And.intro hcb (And.intro hlt hBw)));have HD:=Lib.hid (And.intro hltd (And.intro hltd2 hcd));clear hltd hltd2 hcd;clear hBw hcb hlt hrd hBb hBd0;obtain⟨mx,hmx⟩:∃ m:Int,max (P13.bi (P13.fitK s.hosts y.mem 32)) 0=m:=⟨_,rfl⟩;obtain⟨ok,hok⟩:∃ b,(P13.fitK s.hosts y.mem 32).isSome=b:=⟨_,rfl⟩;obtain⟨len,hlq⟩:∃ len,(ofFn s f).length=len:=⟨_,rfl⟩;rw[hmx,hok] at hfi;rw[hlq] at hlen ⊢;have HK:=Lib.hid (And.intro hmx (And.intro hok hlq));clear hmx hok hlq;go_wp2_with fail
 go_region_held3 (fun W=>W.cell? ⟨A.core,5,none⟩=some (.pointer (some ⟨A.hosts,0,none⟩))∧W.cell? ⟨w.heap.size,0,none⟩=some (.int .i64 f)∧W.cell? ⟨A.core,4,none⟩=some (.map (some A.fnM))∧W.cell? ⟨A.fn f,1,none⟩=some (.int .i64 y.mem) ∧
   (Instr.lookup 81 (.map (some A.fnM)) (.int .i64 f) false).run Tryz.prog W=.ok (.pointer (some ⟨A.fn f,0,none⟩)) W) (first | exact⟨z5,zc,z4,z1,zl⟩ | exact⟨y5,yc,y4,y1,yl⟩)
  (first | (go_at_call 124;with_reducible refine hfi.mono ?_;rintro e wd ⟨rfl,hBd⟩;obtain⟨y5,yc,y4,y1,yl⟩:=hST.out wd (HB.out.1.trans (hBd.mono HD.out.1)) ((World.cell?_of_block (hBd.block _ HD.out.2.1)).trans HD.out.2.2)))
 have hBz:Below w.heap.size w wd:=HB.out.1.trans (hBd.mono (by have:=HB.out.2.2.1;show w.heap.size≤wb.heap.size;omega));have hcz:wd.cell? ⟨w.heap.size,0,none⟩=some (.int .i64 f):=yc;have hwlt:w.heap.size < wd.heap.size:=by have:=hBd.size;have:=HD.out.2.1;omega
 have hr0:=H.out.1.fresh hBz;have hk:=P13.fitK_lt s.hosts y.mem 32 k hfk;have hlen0:len=0:=by have:=H.out.2.2.2.2;rw[HK.out.2.2] at this;omega
 have hmxk:mx=(k:Int):=by rw[← HK.out.1,hfk];simp[P13.bi]
 have hokk:ok=true:=by rw[← HK.out.2.1,hfk];rfl
 have HZ:=Lib.hid (And.intro hcz (And.intro hwlt hBz));clear z5 zc z4 z1 zl y5 yc y4 y1 yl hfi hBd hBz hcz hwlt;have HI:=Lib.hid (And.intro hI (And.intro hU (And.intro hlen0 (And.intro hmxk hokk))));clear hI hU HK;subst hlen0 hmxk hokk;obtain⟨Fx,hFx⟩:∃ Fx:Nat→Prop,(fun x=>Grow F0 w0 w x∧x < w.heap.size)=Fx:=⟨_,rfl⟩;rw[hFx] at hr0;have hbox:(startS s f k).boxes[s.boxes.length]?=some ⟨s.next,f,k,y.mem,0,false,false,s.now⟩:=start_box hy;have hnx:s.next=(s.boxes.length:Int)+1:=HI.out.1.next;have hwn:(Lit.int .i64 s.next).wf=true:=by rw[hnx];exact WalkArith.wf_i64 (by omega)
 have hHS:Hid (∀ (W:World) (s':St) (bx:Nat→Nat),s'.fns=s.fns→Rs wd Fx W s' { A with box:=bx }→(W.cell? ⟨A.core,8,none⟩=some (.map (some A.untM))∧W.cell? ⟨w.heap.size,0,none⟩=some (.int .i64 f)∧W.cell? ⟨A.core,4,none⟩=some (.map (some A.fnM))∧W.cell? ⟨A.fn f,6,none⟩=some (.int .i64 y.fin) ∧
   (Instr.lookup 81 (.map (some A.fnM)) (.int .i64 f) false).run Tryz.prog W=.ok (.pointer (some ⟨A.fn f,0,none⟩)) W)):=by
  intro W s' bx e hr;have hc:W.cell? ⟨w.heap.size,0,none⟩=some (.int .i64 f):=by
   rw[World.cell?_of_block (show W.heap[w.heap.size]?=wd.heap[w.heap.size]? from hr.2.block _ HZ.out.2.1 (by rw[← hFx];exact fun e=>by have:=e.2;omega))];exact HZ.out.1
  refine⟨hr.cc.2.2.2.2.2.2.2.2.1,hc,hr.cc.2.2.2.2.1,(cell_of (hr.1.fn (by rw[e];exact hy)).1).trans rfl,?_⟩;exact hr.1.look_fn (f:Int) (WalkArith.wf_i64 (by omega)) (some (A.fn f)) (by unfold mFn;rw[if_pos (by omega),show (f:Int).toNat=f by omega,show ({ A with box:=bx }:Adr).fn=A.fn from rfl];simp only[e];rw[hy];rfl)
 have hPU:Hid (∀ (W:World) (bb:Nat),Rs wd Fx W (startS s f k) { A with box:=bxput A.box s.boxes.length bb }→W.cell? ⟨bb,0,none⟩=some (.int .i64 s.next) ∧
   ∃ w',(Instr.mapUpdate 85 (.map (some A.untM)) (.int .i64 s.next) (.int .i64 y.fin)).run Tryz.prog W=.ok () w'∧Rs wd Fx w' { startS s f k with unt:=gput s.unt s.next y.fin } { A with box:=bxput A.box s.boxes.length bb }):=by
  intro W bb hr;refine⟨?_,?_⟩
  ·obtain⟨b0,-⟩:=(hr.bq hbox).cells
   simpa[bxput] using b0
  ·obtain⟨c,hum,hn⟩:=hr.1.untTurn
   have hun:(startS s f k).unt=s.unt:=by unfold startS;split <;> rfl
   have hc:c≤s.boxes.length+2:=Gm.count hum (s.boxes.length+2) (fun i hi=>by
    rw[hun] at hi;have:=HI.out.2.1 i hi;omega)
   obtain⟨w',r1,r2,r3⟩:=um_put hum (by unfold maxLen;omega) Tryz.underlying85 s.next hwn y.fin;rw[hun] at r2;obtain⟨n1,n2⟩:=hn w' _ _ r2 r3;exact⟨w',r1,hr.next n1 n2⟩
 have hst:=start_any s N HI.out.1.low HI.out.1.next (by omega) (outl s) (out_some hout) (out_len HI.out.1 (by omega)) A wd Fx f y hy k hk wd.drew hr0.drew;have hfns:Hid ((startS s f k).fns=s.fns):=by show _=_;unfold startS;split <;> rfl
 obtain⟨z8,zc,z4,z6,zl⟩:=hHS.out wd.drew s A.box rfl hr0.drew;have hT:=aheadS_yes hy (by have:=H.out.2.2.2.2;exact this) hfk;have HT:=Lib.hid hT;have HN:=Lib.hid (And.intro hr0 hFx);clear hr0 hFx hbox hnx hwn hT;obtain⟨fin,hfin⟩:∃ n,y.fin=n:=⟨_,rfl⟩;rw[hfin] at z6 hHS hPU;go_wp2_with fail
 refine wp_region_held_drew (S:=fun W=>W.cell? ⟨A.core,8,none⟩=some (.map (some A.untM))∧W.cell? ⟨w.heap.size,0,none⟩=some (.int .i64 f)∧W.cell? ⟨A.core,4,none⟩=some (.map (some A.fnM))∧W.cell? ⟨A.fn f,6,none⟩=some (.int .i64 fin)∧(Instr.lookup 81 (.map (some A.fnM)) (.int .i64 f) false).run Tryz.prog W=.ok (.pointer (some ⟨A.fn f,0,none⟩)) W) (by kernel_rfl) ⟨z8,zc,z4,z6,zl⟩ (fun hHeld=>?_);refine tkH 0 (v:=?v0) rfl ?hy0 ?rest0
 case hy0=>intro w hSw;(try dsimp only at hSw);go_simp;try with_reducible rfl
 simp only[Act.put,List.setIfInBounds_toArray,List.set_cons_zero,List.set_cons_succ];refine tkH 1 (v:=?v1) rfl ?hy1 ?rest1
 case hy1=>intro w hSw;(try dsimp only at hSw);go_simp;try with_reducible rfl
 simp only[Act.put,List.setIfInBounds_toArray,List.set_cons_zero,List.set_cons_succ];refine tkH 2 (v:=?v2) rfl ?hy2 ?rest2
 case hy2=>intro w hSw;(try dsimp only at hSw);go_simp;try with_reducible rfl
 simp only[Act.put,List.setIfInBounds_toArray,List.set_cons_zero,List.set_cons_succ];refine tkH 3 (v:=?v3) rfl ?hy3 ?rest3
 case hy3=>intro w hSw;(try dsimp only at hSw);go_simp;try with_reducible rfl
 simp only[Act.put,List.setIfInBounds_toArray,List.set_cons_zero,List.set_cons_succ];refine tkH 4 (v:=?v4) rfl ?hy4 ?rest4
 case hy4=>intro w hSw;(try dsimp only at hSw);go_simp;try with_reducible rfl
 simp only[Act.put,List.setIfInBounds_toArray,List.set_cons_zero,List.set_cons_succ];refine tkH 5 (v:=?v5) rfl ?hy5 ?rest5
 case hy5=>intro w hSw;(try dsimp only at hSw);go_simp;try with_reducible rfl
 simp only[Act.put,List.setIfInBounds_toArray,List.set_cons_zero,List.set_cons_succ];refine tkH 6 (v:=?v6) rfl ?hy6 ?rest6
 case hy6=>intro w hSw;(try dsimp only at hSw);go_simp;try with_reducible rfl
 simp only[Act.put,List.setIfInBounds_toArray,List.set_cons_zero,List.set_cons_succ];refine tkH 11 (v:=?v11) rfl ?hy11 ?rest11
 case hy11=>intro w hSw;(try dsimp only at hSw);go_simp;try with_reducible rfl
 simp only[Act.put,List.setIfInBounds_toArray,List.set_cons_zero,List.set_cons_succ];refine tkH 12 (v:=?v12) rfl ?hy12 ?rest12
 case hy12=>intro w hSw;(try dsimp only at hSw);go_simp;try with_reducible rfl
 simp only[Act.put,List.setIfInBounds_toArray,List.set_cons_zero,List.set_cons_succ];refine tkH 13 (v:=?v13) rfl ?hy13 ?rest13
 case hy13=>intro w hSw;(try dsimp only at hSw);go_simp;try with_reducible rfl
 simp only[Act.put,List.setIfInBounds_toArray,List.set_cons_zero,List.set_cons_succ];refine tkH 14 (v:=?v14) rfl ?hy14 ?rest14
 case hy14=>intro w hSw;(try dsimp only at hSw);go_simp;try with_reducible rfl
 simp only[Act.put,List.setIfInBounds_toArray,List.set_cons_zero,List.set_cons_succ];refine tkH 15 (v:=?v15) rfl ?hy15 ?rest15
 case hy15=>intro w hSw;(try dsimp only at hSw);go_simp;try with_reducible rfl
 simp only[Act.put,List.setIfInBounds_toArray,List.set_cons_zero,List.set_cons_succ];refine tkH 16 (v:=?v16) rfl ?hy16 ?rest16
 case hy16=>intro w hSw;(try dsimp only at hSw);go_simp;try with_reducible rfl
 simp only[Act.put,List.setIfInBounds_toArray,List.set_cons_zero,List.set_cons_succ];refine tkH 17 (v:=?v17) rfl ?hy17 ?rest17
 case hy17=>intro w hSw;(try dsimp only at hSw);go_simp;try with_reducible rfl
 simp only[Act.put,List.setIfInBounds_toArray,List.set_cons_zero,List.set_cons_succ];refine tkH 18 (v:=?v18) rfl ?hy18 ?rest18
 case hy18=>intro w hSw;(try dsimp only at hSw);go_simp;try with_reducible rfl
 simp only[Act.put,List.setIfInBounds_toArray,List.set_cons_zero,List.set_cons_succ];refine tkH 19 (v:=?v19) rfl ?hy19 ?rest19
 case hy19=>intro w hSw;(try dsimp only at hSw);go_simp;try with_reducible rfl
 simp only[Act.put,List.setIfInBounds_toArray,List.set_cons_zero,List.set_cons_succ];refine wpAnyH_ready (rs:=[7]) (by kernel_rfl) (by simp) ?_;refine AllReadyH.cons (o:=_) rfl (fun K hK=>?_) AllReadyH.nil;go_simp
 refine hst.mono ?_;rintro e w3 ⟨bb,rfl,h3⟩;have hY:=hHS.out w3 _ _ hfns.out h3;obtain⟨yb,w4,hrun,h4⟩:=hPU.out w3 bb h3;refine hK.out _ _ hY (fun hHeld=>?_);clear hK K;refine tkH 8 (v:=?v8) rfl ?hy8 ?rest8
 case hy8=>intro w hSw;(try dsimp only at hSw);go_simp;try with_reducible rfl
 simp only[Act.put,List.setIfInBounds_toArray,List.set_cons_zero,List.set_cons_succ];refine tkH 9 (v:=?v9) rfl ?hy9 ?rest9
 case hy9=>intro w hSw;(try dsimp only at hSw);go_simp;try with_reducible rfl
 simp only[Act.put,List.setIfInBounds_toArray,List.set_cons_zero,List.set_cons_succ];refine wpAnyH_ready (rs:=[10]) (by kernel_rfl) (by simp) ?_;refine AllReadyH.cons (o:=_) rfl (fun K hK=>?_) AllReadyH.nil;go_simp
 refine hK.out _ _ hY (fun hHeld=>?_);clear hK K;refine wpAnyH_ready (rs:=[20]) (by kernel_rfl) (by simp) ?_;refine AllReadyH.cons (o:=_) rfl (fun K hK=>?_) AllReadyH.nil;go_simp
 refine hK.out _ _ (hHS.out w4 { startS s f k with unt:=gput s.unt s.next fin } _ hfns.out h4) (fun hHeld=>?_);clear hK K;refine wpAnyH_done (by kernel_rfl) ?_ _
 first | go_end0 | refine bodyPost_ret (results_none rfl _ _ _) rfl ?_
 refine⟨rfl,?_⟩;rw[HT.out,hfin];exact⟨A.cac,_,fun i hi=>by unfold bxput;rw[if_neg (by omega)],Rs.nest H.out.1.2 HZ.out.2.2 h4 (fun x hx=>by rw[← HN.out.2] at hx;exact hx.1)⟩
end Go.Proofs.YtigeldkbfbcpmaaGreat
