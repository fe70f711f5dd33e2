/- A part of the proof: what the functions of the program come to, and what holds at all times. -/
import Derived.BigQuiet
import Derived.Test.YtigeldkbfbcpmaaGreatM22
import Derived.Test.YtigeldkbfbcpmaaGreatM20
set_option linter.unusedVariables false
set_option linter.unusedSectionVars false
set_option linter.unusedSimpArgs false
set_option maxRecDepth 100000
set_option maxHeartbeats 8000000
namespace Go.Proofs.YtigeldkbfbcpmaaGreat
open Go.RowKit Go.Kpt HeapPure
theorem sum_where(s:St)(p:P12.Bx→Bool)(g:P12.Bx→Int)(f:Int→Int)(hf:∀ (i:Nat) (x:P12.Bx),s.boxes[i]?=some x→f ((i:Int)+1)=g x)(hl:∀ (i:Nat) (x:P12.Bx),s.boxes[i]?=some x→(s.live ((i:Int)+1)=true↔x.st≠3)):
  (((ids s).filter (bp s p)).map f).sum=sumB (fun x=>if x.st≠3∧p x=true then g x else 0) s.boxes:=by
 have key:∀ n,n≤s.boxes.length→(((((List.range n).map fun i:Nat=>(i:Int)+1).filter s.live).filter (bp s p)).map f).sum=sumB (fun x=>if x.st≠3∧p x=true then g x else 0) (s.boxes.take n):=by
  intro n
  induction n with
  | zero=>intro _;simp[sumB]
  | succ n ih=>
   intro hn;have hx:s.boxes[n]?=some (s.boxes[n]'(by omega)):=List.getElem?_eq_getElem (by omega);obtain⟨x,hxe⟩:∃ x,s.boxes[n]'(by omega)=x:=⟨_,rfl⟩;rw[hxe] at hx;rw[List.range_succ,List.map_append,List.filter_append,List.filter_append,List.map_append,List.sum_append,ih (by omega),List.take_add_one,hx];simp only[Option.toList_some];rw[sumB_snoc];have h1:=hl n x hx;have h2:=bp_at (s:=s) (p:=p) hx;have h3:=hf n x hx;by_cases hc:x.st≠3
   ·have h4:=h1.2 hc
    cases hp:p x <;> rw[hp] at h2 <;> simp[h4,h2,hc,h3]
   ·have h4:s.live ((n:Int)+1)=false:=by
     cases e:s.live ((n:Int)+1)
     ·rfl
     ·exact absurd (h1.1 e) hc
    simp[h4,hc]
 have:=key s.boxes.length (Nat.le_refl _);rw[List.take_length] at this;exact this
def looseG(h:Nat)(x:P12.Bx):Int:=if x.st≠3∧idleOn h x=true then x.mem else 0
theorem idleOn_iff{h:Nat}{x:P12.Bx}:idleOn h x=true↔x.host=(h:Int)∧loose x:=by
 unfold idleOn loose P12.idle;cases x.pin <;> simp
theorem freeAll_eq{s:St}{N:Nat}{X:Nat→Prop}(h:Inv s N X)(k:Nat):freeAll s k=P13.free (s.hosts k)+sumB (looseG k) s.boxes:=by
 unfold freeAll;rw[sum_where s (idleOn k) (fun x=>x.mem) (memOf s) (fun i x hx=>by unfold memOf;rw[show ((i:Int)+1).toNat - 1=i by omega,hx]) (fun i x hx=>(h.box i x hx).live)];rfl
theorem sumB_pos{g:P12.Bx→Int}:∀ {l:List P12.Bx},0 < sumB g l→∃ (i:Nat) (x:P12.Bx),l[i]?=some x∧0 < g x:=by
 intro l
 induction l with
 | nil=>intro h;simp[sumB] at h
 | cons a l ih=>
  intro h;by_cases h0:0 < g a
  ·exact⟨0,a,rfl,h0⟩
  ·obtain⟨i,x,h1,h2⟩:=ih (by simp only[sumB,List.map_cons,List.sum_cons] at h ⊢;omega)
   exact⟨i+1,x,by simpa using h1,h2⟩
theorem cac_some{s:St}{N:Nat}(h:Inv s N none_)(k:Nat)(hs:0 < sumB (looseG k) s.boxes):0 < (cacL s k).length:=by
 obtain⟨i,x,h1,h2⟩:=sumB_pos hs;unfold looseG at h2;split at h2
 ·rename_i hc
  obtain⟨hh,hlo⟩:=idleOn_iff.1 hc.2;obtain⟨m,j,hj⟩:=h.cacS i x h1 (fun e=>e) hlo;rw[hh,Int.toNat_natCast] at hj;rcases Nat.eq_zero_or_pos (cacL s k).length with h0|h0
  ·rw[List.length_eq_zero_iff.1 h0] at hj;simp at hj
  ·exact h0
 ·omega
theorem kk_has{l:List (Int×P09.Mk)}(h:0 < l.length):Has l (kk l 0) (vv l 0):=by
 refine⟨0,?_⟩;unfold kk vv;rw[List.getD_eq_getElem?_getD,List.getElem?_eq_getElem h];rfl
theorem drop_drop(l:List (Int×P09.Mk))(h:HeapPure.Good P09.lt l)(k:Int):drop P09.lt (drop P09.lt l k) k=drop P09.lt l k:=by
 have hn:idx (drop P09.lt l k) k=none:=by
  cases e:idx (drop P09.lt l k) k with
  | none=>rfl
  | some j=>
   obtain⟨-,h2⟩:=idx_some e;exact absurd ((drop_has h.inj k k _).1 ⟨j,h2⟩).1 (fun e=>e rfl)
 generalize drop P09.lt l k=l2 at hn ⊢;unfold drop;rw[hn]
theorem cset_cset(c:Nat→Option Cac)(k:Nat)(x y:Cac):cset (cset c k x) k y=cset c k y:=by
 funext j
 unfold cset;by_cases e:j=k <;> simp[e]
theorem Inv.clock{s:St}{N:Nat}{X:Nat→Prop}(h:Inv s N X)(k:Nat)(hk:k < 32)(c:Nat)(h1:cacC s k≤c)(h2:(c:Int)≤1000000*dead s):Inv { s with cac:=cset s.cac k (cacL s k,c) } N X:=by
 have tcl:∀ j,cacL ({ s with cac:=cset s.cac k (cacL s k,c) }:St) j=cacL s j:=fun j=>by
  unfold cacL cset;by_cases e:j=k <;> simp[e]
 have tcc:∀ j,cacC ({ s with cac:=cset s.cac k (cacL s k,c) }:St) j=if j=k then c else cacC s j:=fun j=>by
  unfold cacC cset;by_cases e:j=k <;> simp[e]
 have hge:∀ j,cacC s j≤cacC ({ s with cac:=cset s.cac k (cacL s k,c) }:St) j:=fun j=>by
  rw[tcc];split
  ·rename_i e;rw[e];exact h1
  ·exact Nat.le_refl _
 refine { h with box:=fun i x hx=>(h.box i x hx).of rfl (fun f y e=>⟨y,e,rfl⟩),fn:=fun f y hy=>(h.fn f y hy).of (fun _ e=>e) (Int.le_refl _) rfl,cacLt:=?_,cacG:=?_,cacK:=?_,cacV:=?_,cacI:=?_,cacS:=?_ }
 ·intro g z hz
  have hz:cset s.cac k (cacL s k,c) g=some z:=hz;unfold cset at hz;split at hz
  ·rename_i e;rw[e];exact hk
  ·exact h.cacLt g z hz
 ·intro g;rw[tcl];exact h.cacG g
 ·intro g
  rw[tcc];split
  ·exact h2
  ·exact h.cacK g
 ·intro g id m hm
  rw[tcl] at hm;have h3:=h.cacV g id m hm;have h4:m.d*(cacC s g+1000000)≤m.d*(cacC ({ s with cac:=cset s.cac k (cacL s k,c) }:St) g+1000000):=Nat.mul_le_mul (Nat.le_refl _) (by have:=hge g;exact Nat.add_le_add_right this _);exact Nat.le_trans h3 h4
 ·intro g id m hm
  rw[tcl] at hm;exact h.cacI g id m hm
 ·intro i x hx hn hlo
  rw[tcl];exact h.cacS i x hx hn hlo
theorem evict_is{s:St}{N:Nat}(h:Inv s N none_)(k:Nat)(hl:0 < (cacL s k).length):
  ∃ (i:Nat) (x:P12.Bx),s.boxes[i]?=some x∧kk (cacL s k) 0=(i:Int)+1∧x.host=(k:Int)∧loose x:=by
 obtain⟨i,x,h1,h2,h3,h4,h5⟩:=h.cacI k _ _ (kk_has hl);exact⟨i,x,h2,h1,h3,h5 (fun e=>e)⟩
theorem Inv.evict{s:St}{N:Nat}(h:Inv s N none_)(k:Nat)(hk:k < 32)(hl:0 < (cacL s k).length)(i:Nat)(x:P12.Bx)(hx:s.boxes[i]?=some x)(hkk:kk (cacL s k) 0=(i:Int)+1)(hh:x.host=(k:Int))(hlo:loose x):
  Inv (evict1 s k) N none_∧(evict1 s k).boxes.length=s.boxes.length ∧
   (s.hosts k).us - ((evict1 s k).hosts k).us=x.mem∧1≤x.mem∧(upH s.hosts k=true→upH (evict1 s k).hosts k=true∧freeAll (evict1 s k) k=freeAll s k):=by
 have hst:x.st≠3:=by rw[hlo.1];decide
 obtain⟨g1,g2,g3⟩:=h.kill (fun j e=>e.elim) hx hst;have hid:=(h.box i x hx).id;obtain⟨c,hc⟩:∃ c,max (cacC s k) ((vv (cacL s k) 0).n / (vv (cacL s k) 0).d)=c:=⟨_,rfl⟩;have hv:=h.cacV k _ _ (kk_has hl);have hpos:=(vv (cacL s k) 0).pos;have hdiv:(vv (cacL s k) 0).n / (vv (cacL s k) 0).d≤cacC s k+1000000:=by
  have:=Nat.div_le_div_right (c:=(vv (cacL s k) 0).d) hv;rw[Nat.mul_div_cancel_left _ hpos] at this;exact this
 have hcl1:cacL (killS s i) k=drop P09.lt (cacL s k) ((i:Int)+1):=by
  unfold killS goneS cacL;rw[hx];simp only[hh,hid,Int.toNat_natCast,cset,if_true,Option.getD_some]
 have hcc1:cacC (killS s i) k=cacC s k:=by
  unfold killS goneS cacC;rw[hx];simp only[hh,Int.toNat_natCast,cset,if_true,Option.getD_some]
 have he:evict1 s k={ killS s i with cac:=cset (killS s i).cac k (cacL (killS s i) k,c) }:=by
  rw[hcl1];unfold evict1;have e1:kk ((s.cac k).getD ([],0)).1 0=(i:Int)+1:=hkk;rw[e1,show ((i:Int)+1).toNat - 1=i by omega];have hcap:max ((s.cac k).getD ([],0)).2 ((vv ((s.cac k).getD ([],0)).1 0).n / (vv ((s.cac k).getD ([],0)).1 0).d)=c:=hc;rw[hcap];unfold killS goneS;simp only[hx,hh,hid,Int.toNat_natCast];rw[cset_cset];have e2:((cset s.cac k (drop P09.lt ((s.cac k).getD ([],0)).1 ((i:Int)+1),c) k).getD ([],0))=(drop P09.lt ((s.cac k).getD ([],0)).1 ((i:Int)+1),c):=by simp[cset]
  rw[e2];simp only[outl];have e3:drop P09.lt (drop P09.lt ((s.cac k).getD ([],0)).1 ((i:Int)+1)) ((i:Int)+1)=drop P09.lt ((s.cac k).getD ([],0)).1 ((i:Int)+1):=drop_drop _ (h.cacG k) _;rw[e3,cset_cset];rfl
 have hkc:=h.cacK k;have hbx:(killS s i).boxes=s.boxes.set i (P12.kill x s.now).1:=by unfold killS goneS;rw[hx]
 have hho:(killS s i).hosts=P13.put s.hosts k (P13.gave (s.hosts k) x.mem):=by
  unfold killS goneS;rw[hx];simp only[hh,Int.toNat_natCast]
 have hmp:=(mem_pos h hx).1;have hth:=host_there h hx hst hk hh;have hgv:P13.gave (s.hosts k) x.mem=P13.swept { s.hosts k with us:=(s.hosts k).us - x.mem }:=by
  unfold P13.gave P13.mayGive;rw[if_pos (by simp[hth.1,hth.2])]
 have hI2:Inv (evict1 s k) N none_:=by
  rw[he];refine g1.clock k hk c (by rw[hcc1];omega) ?_;rw[g2];omega
 refine⟨hI2,by rw[he];exact g3,?_,hmp,fun hu=>?_⟩
 ·rw[he]
  show (s.hosts k).us - ((killS s i).hosts k).us=x.mem;rw[hho,P13.put_same,hgv];unfold P13.swept;simp only;split
  ·rename_i hcn
   simp only;have:=hcn.2;omega
  ·simp only;omega
 ·have hup:(s.hosts k).th=true∧(s.hosts k).dr=false:=by simpa[upH] using hu
  have hsw:P13.swept { s.hosts k with us:=(s.hosts k).us - x.mem }={ s.hosts k with us:=(s.hosts k).us - x.mem }:=by
   unfold P13.swept;rw[if_neg (fun e=>by have:=e.1;simp only[hup.2] at this;cases this)]
  have hho2:(evict1 s k).hosts k={ s.hosts k with us:=(s.hosts k).us - x.mem }:=by
   rw[he];show (killS s i).hosts k=_;rw[hho,P13.put_same,hgv,hsw]
  refine⟨by unfold upH;rw[hho2];simp[hup.1,hup.2],?_⟩;rw[freeAll_eq hI2,freeAll_eq h,hho2];have hb2:(evict1 s k).boxes=s.boxes.set i (P12.kill x s.now).1:=by rw[he];exact hbx
  rw[hb2,sumB_set (looseG k) _ i x _ hx];have l1:looseG k x=x.mem:=by unfold looseG;rw[if_pos ⟨hst,idleOn_iff.2 ⟨hh,hlo⟩⟩]
  have l2:looseG k (P12.kill x s.now).1=0:=by
   unfold looseG;rw[if_neg (fun e=>e.1 (by simp[P12.kill,hst]))]
  rw[l1,l2];unfold P13.free;simp only[hup.1,if_true];omega
end Go.Proofs.YtigeldkbfbcpmaaGreat
namespace Go.Proofs.YtigeldkbfbcpmaaGreat
open Go.RowKit Go.Kpt
theorem Rs.nest{w0 w1 wa w2:World}{F0 F1:Nat→Prop}{s:St}{A:Adr}(h:Kept F0 w0 w1)(hB:Below w1.heap.size w1 wa)(h2:Rs wa F1 w2 s A)(hF:∀ x,F1 x→Grow F0 w0 w1 x):Rs w0 F0 w2 s A:=by
 have a1:=h.size;have a2:=hB.size;have a3:=h2.2.size;refine⟨h2.1.mono (fun x hx=>?_),(h.trans (Kept.of_below (F:=fun _=>False) hB) (fun _ _ h=>h.elim)).trans h2.2 (fun x hx h1=>?_)⟩
 ·rcases hx with hx | hx
  ·rcases hF x hx with hx | hx
   ·exact .inl hx
   ·exact .inr ⟨hx.1,by omega⟩
  ·exact .inr ⟨by omega,hx.2⟩
 ·rcases hF x h1 with h1 | h1
  ·exact h1
  ·omega
theorem Rs.fresh{w0 w wa:World}{F0:Nat→Prop}{s:St}{A:Adr}(h:Rs w0 F0 w s A)(hB:Below w.heap.size w wa):Rs wa (fun x=>Grow F0 w0 w x∧x < w.heap.size) wa s A:=Rs.start (h.1.lt.below hB)
theorem roomFrom_succ(mem:Int)(n k:Nat)(s:St):roomFrom mem (n+1) k s=if upH s.hosts k=true∧mem≤freeAll s k then (evictS mem k 4097 s,some k) else roomFrom mem n (k+1) s:=rfl
theorem evictS_succ(mem:Int)(k n:Nat)(s:St):evictS mem k (n+1) s=if P13.free (s.hosts k) < mem then evictS mem k n (evict1 s k) else s:=rfl
theorem evict1_out(s:St)(k:Nat)(h:s.out.isSome=true):(evict1 s k).out.isSome=true:=by
 unfold evict1 killS;split
 ·exact h
 ·rfl
theorem out_some{s:St}(h:s.out.isSome=true):s.out=some (outl s):=by
 unfold outl;cases e:s.out with
 | none=>rw[e] at h;cases h
 | some l=>rfl
theorem out_len{s:St}{N:Nat}{X:Nat→Prop}(h:Inv s N X)(hL:s.boxes.length≤999000000):(outl s).length≤2000000000:=by
 have h1:=h.out;have h2:=(dead_bd s).2;omega
theorem evict1_at{s:St}{k i:Nat}(h:HeapPure.kk (cacL s k) 0=(i:Int)+1):evict1 s k=killS { s with cac:=cset s.cac k (HeapPure.drop P09.lt (cacL s k) ((i:Int)+1),max (cacC s k) ((HeapPure.vv (cacL s k) 0).n / (HeapPure.vv (cacL s k) 0).d)) } i:=by
 have e1:HeapPure.kk ((s.cac k).getD ([],0)).1 0=(i:Int)+1:=h;unfold evict1;rw[e1,show ((i:Int)+1).toNat - 1=i by omega];rfl
theorem eg143:∀ args w,(callFunc 143 args).run Tryz.prog w=.ok (.enter 143 args) w:=by intro args w;rfl
theorem fold_sum(f:Int→Int)(l:List Int)(j:Nat)(hj:j < l.length):((l.take (j+1)).map f).sum=((l.take j).map f).sum+f (l.getD j 0):=by
 rw[List.take_add_one,List.getElem?_eq_getElem hj,List.getD_eq_getElem?_getD,List.getElem?_eq_getElem hj];simp only[Option.toList_some,List.map_append,List.sum_append,List.map_cons,List.map_nil,List.sum_cons,List.sum_nil,Option.getD_some];omega
theorem sum_bd(f:Int→Int):∀ (l:List Int),(∀ x ∈ l,0≤f x∧f x≤4096)→0≤(l.map f).sum∧(l.map f).sum≤4096*(l.length:Int):=by
 intro l
 induction l with
 | nil=>intro _;simp
 | cons a l ih=>
  intro h;have h1:=h a (by simp);have h2:=ih (fun x hx=>h x (by simp[hx]));simp only[List.map_cons,List.sum_cons,List.length_cons];push_cast;omega
theorem room_any(s:St)(N:Nat)(hI:Inv s N none_)(hL:s.boxes.length≤999000000)(hout:s.out.isSome=true)(A:Adr)(w0:World)(F0:Nat→Prop)(mem:Int)(hm:1≤mem∧mem≤4096)(w:World)(h:Rs w0 F0 w s A):
  Calls Tryz.prog 92 #[.pointer (some ⟨A.core,0,none⟩),.int .i64 mem] w fun e w'=>e=.returned (.tuple #[.int .i64 (((roomS s mem).2.getD 0:Nat):Int),.bool (roomS s mem).2.isSome])∧∃ cac:Nat→Nat,Rs w0 F0 w' (roomS s mem).1 { A with cac:=cac }:=by
 have hgood:∀ k,k < 32→P13.good (s.hosts k):=fun k hk=>(hI.host k hk).1.us;have hfit:=P13.fit_any A.hosts s.hosts hgood mem (by omega) w h.1.hostsAt.1;have c5:=h.cc.2.2.2.2.2.1;cases hf:P13.fitK s.hosts mem 32 with
 | some b=>
  have hr:roomS s mem=(s,some b):=by unfold roomS;rw[hf]
  rw[hr];rw[hf] at hfit;have hb0:max (P13.bi (some b)) 0=(b:Int):=by show max ((b:Nat):Int) 0=b;omega
  rw[hb0] at hfit;simp only[Option.isSome_some] at hfit;clear hr hgood hI hb0;go_enter Tryz.func92,Tryz.ntmps92
  go_wp2_with (go_at_call 124;refine hfit.mono ?_;rintro e w1 ⟨rfl,-,hB⟩)
  go_returns
  exact⟨rfl,A.cac,h.below hB⟩
 | none=>
  obtain⟨R,hR⟩:∃ R,roomFrom mem 32 0 s=R:=⟨_,rfl⟩;have hr:roomS s mem=R:=by unfold roomS;rw[hf];exact hR
  rw[hr];rw[hf] at hfit;have hb0:max (P13.bi none) 0=0:=by decide
  rw[hb0] at hfit;simp only[Option.isSome_none] at hfit;clear hr hb0;go_enter Tryz.func92,Tryz.ntmps92
  go_wp2_with (go_at_call 124;refine hfit.mono ?_;rintro e w1 ⟨rfl,-,hB⟩)
  have h1:=h.below hB;clear hfit hB h c5;have hgR:∀ k sk,roomFrom mem (32 - k) k sk=R→k=32→R=(sk,none):=fun k sk h1 h2=>by subst h2;rw[← h1];rfl
  have HI:=Lib.hid hI;have HGd:=Lib.hid hgood;have HR:=Lib.hid hR;have HE:=Lib.hid hgR;clear hI hgood hR hgR;go_loopw [25] (fun x wr=>∃ k:Nat,x=.int .i64 k∧k≤32∧Rs w0 F0 wr s A∧roomFrom mem (32 - k) k s=R) (fun x _=>32 - (intOf x).toNat)
  case atStart=>exact⟨0,rfl,by omega,h1,HR.out⟩
  case round=>
   obtain⟨k,rfl,hk,hr,hrf⟩:=hrel;rename World=>W0
   by_cases hlt:k < 32
   ·have j1:(k:Int) < 32:=by omega
    have hstep:(if upH s.hosts k=true∧mem≤freeAll s k then (evictS mem k 4097 s,some k) else roomFrom mem (32 - (k+1)) (k+1) s)=R:=by
     rw[show 32 - k=(32 - (k+1))+1 by omega,roomFrom_succ] at hrf;exact hrf
    have HST:=Lib.hid hstep;clear hstep hrf;obtain⟨wa,hwa⟩:∃ wa,W0.alloc (.cells #[.int .i64 k] 3)=wa:=⟨_,rfl⟩;have hBa:Below W0.heap.size W0 wa:=by subst hwa;exact(Below.refl _ W0).alloc (Nat.le_refl _) _
    have hca:wa.heap[W0.heap.size]?=some (.cells #[.int .i64 k] 3 (0,0)):=by subst hwa;exact heap_alloc_new _ _
    have ha:=hr.below hBa;have ca:wa.cell? ⟨W0.heap.size,0,none⟩=some (.int .i64 k):=(cell_of hca).trans rfl;have c5:=ha.cc.2.2.2.2.2.1;have hup:=fun n=>P13.up_any A.hosts s.hosts k hlt (wa.drewN n) (show P13.Hq (wa.drewN n) A.hosts s.hosts from ha.1.hostsAt.1);have hfr:=fun n=>P13.free_any A.hosts s.hosts k hlt (HGd.out k hlt) (wa.drewN n) (show P13.Hq (wa.drewN n) A.hosts s.hosts from ha.1.hostsAt.1);have HH:=Lib.hid (And.intro hr ha);clear hr ha;cases hu:upH s.hosts k
    ·have hu':((s.hosts k).th && !(s.hosts k).dr)=false:=hu
     rw[hu'] at hup;go_wp2_with fail
     go_quiet ((go_at_call 100;exact Calls.quiet_of_same ((hup _).mono fun e w' ⟨h1,h2⟩=>⟨h1,h2.symm⟩)))
     go_wp2_with fail
     go_roundw
     case rel=>exact⟨k+1,by go_num,by omega,HH.out.2.drewN _,by have:=HST.out;rw[if_neg (fun e=>by rw[hu] at e;cases e.1)] at this;exact this⟩
     case measure=>simp[intOf];omega
    ·have hu':((s.hosts k).th && !(s.hosts k).dr)=true:=hu
     rw[hu'] at hup;go_wp2_with fail
     go_quiet ((go_at_call 100;exact Calls.quiet_of_same ((hup _).mono fun e w' ⟨h1,h2⟩=>⟨h1,h2.symm⟩)))
     go_wp2_with fail
     have hB1:Below W0.heap.size W0 (wa.drewN nq):=below_drewN hBa nq;have hb:=HH.out.2.drewN nq;have cb:(wa.drewN nq).cell? ⟨W0.heap.size,0,none⟩=some (.int .i64 k):=ca;have c5b:(wa.drewN nq).cell? ⟨A.core,5,none⟩=some (.pointer (some ⟨A.hosts,0,none⟩)):=c5;have hlb:W0.heap.size < (wa.drewN nq).heap.size:=lt_of hca;clear hup hca ca c5 hBa hwa hfr;generalize wa.drewN nq=wb at *;have hfr:=fun n=>P13.free_any A.hosts s.hosts k hlt (HGd.out k hlt) (wb.drewN n) (show P13.Hq (wb.drewN n) A.hosts s.hosts from hb.1.hostsAt.1);go_quiet ((go_at_call 37;exact Calls.quiet_of (hfr _)))
     go_wp2_with fail
     have hB2:Below W0.heap.size W0 (wb.drewN nq):=below_drewN hB1 nq;have hc:=hb.drewN nq;have cc:(wb.drewN nq).cell? ⟨W0.heap.size,0,none⟩=some (.int .i64 k):=cb;have hlc:W0.heap.size < (wb.drewN nq).heap.size:=hlb;clear hfr hb cb c5b hlb hB1;generalize wb.drewN nq=wc at *;have hw:=where_any s A _ (by omega) 143 #[.pointer (some ⟨W0.heap.size,0,none⟩)] (bp s (idleOn k)) eg143 wc hc.1
      (asks_of hc.1 cc hlc fun i x W hx hq hcell=>room143_any _ x _ k W hq hcell ((HI.out.box i x hx).st))
     have hmem:∀ x,x ∈ (ids s).filter (bp s (idleOn k))→∃ i:Nat,i < s.boxes.length∧x=(i:Int)+1∧s.live ((i:Int)+1)=true:=fun x hx=>ids_is (List.mem_filter.1 hx).1;have hlen:((ids s).filter (bp s (idleOn k))).length≤1000000000:=by
      have:=List.length_filter_le (bp s (idleOn k)) (ids s);have:=ids_len s;omega
     have hfa:freeAll s k=P13.free (s.hosts k)+(((ids s).filter (bp s (idleOn k))).map (memOf s)).sum:=rfl;obtain⟨l,hl⟩:∃ l,(ids s).filter (bp s (idleOn k))=l:=⟨_,rfl⟩;rw[hl] at hw hmem hlen hfa;obtain⟨n,hn⟩:∃ n,l.length=n:=⟨_,rfl⟩;have hmo:∀ x ∈ l,0≤memOf s x∧memOf s x≤4096:=fun x hx=>by
      obtain⟨i,h1,rfl,h3⟩:=hmem x hx;have hbx:s.boxes[i]?=some (s.boxes[i]'h1):=List.getElem?_eq_getElem h1;have:=mem_pos HI.out hbx;unfold memOf;rw[show ((i:Int)+1).toNat - 1=i by omega,hbx];simp only;omega
     have hbd:∀ j,0≤((l.take j).map (memOf s)).sum∧((l.take j).map (memOf s)).sum≤4096*(n:Int):=fun j=>by
      have h1:=sum_bd (memOf s) (l.take j) (fun x hx=>hmo x (List.mem_of_mem_take hx));have h2:(l.take j).length≤n:=by rw[List.length_take];omega
      omega
     have hfb:=P13.free_bd (HGd.out k hlt);have hfs:=fold_sum (memOf s) l;rw[hn] at hfs hlen;have HFS:=Lib.hid (And.intro hfs (And.intro hmo hbd));have HM:=Lib.hid hmem;have HFA:=Lib.hid hfa;clear hfs hmo hbd hl hfa;simp only[ptr] at hw;go_wp2_with fail
     refine hw.mono ?_;clear hw;rintro e wd ⟨v,rfl,hrd0,hBd⟩;obtain⟨a,cap,rfl,hrd⟩:=hrd0.any;rw[hn] at hrd;have HRD:=Lib.hid hrd;have hd:=hc.below hBd;have cd:wd.cell? ⟨W0.heap.size,0,none⟩=some (.int .i64 k):=by
      rw[World.cell?_of_block (show wd.heap[W0.heap.size]?=wc.heap[W0.heap.size]? from hBd.block _ hlc)];exact cc
     have hBw:Below W0.heap.size W0 wd:=hB2.trans (hBd.mono (by omega));have hlw:W0.heap.size < wd.heap.size:=by have:=hBd.size;omega
     have d7:=hd.cc.2.2.2.2.2.2.2.1;rw[hn];clear hrd hrd0 hc cc hlc hB2 hBd hmem;obtain⟨F,hF⟩:∃ F,P13.free (s.hosts k)=F:=⟨_,rfl⟩;rw[hF] at hfb ⊢;have HF:=Lib.hid hF;have HD:=Lib.hid hd;clear hF hd;go_wp2_with fail
     go_loopw [9,45] (fun y x wr2=>∃ j:Nat,x=.int .i64 j∧j≤n∧y=.int .i64 (F+((l.take j).map (memOf s)).sum)∧wr2=wd) (fun _ x _=>n - (intOf x).toNat)
     case atStart=>exact⟨0,rfl,by omega,by simp,rfl⟩
     case round=>
      obtain⟨j,rfl,hj,rfl,hwr⟩:=hrel;rename World=>W2
      subst hwr;by_cases hjn:j < n
      ·obtain⟨g,rfl,hg1,hg2,hcell⟩:=HRD.out j hjn
       have hs:=HFS.out.1 j hjn;have hb1:=HFS.out.2.2 j;have hb2:=HFS.out.2.2 (j+1);obtain⟨i,hi,hx,hlv⟩:=HM.out (l.getD j 0) (by rw[List.getD_eq_getElem?_getD,List.getElem?_eq_getElem (by omega)];exact List.getElem_mem _);rw[hx] at hcell hs;obtain⟨x,hbx⟩:∃ x,s.boxes[i]?=some x:=⟨_,List.getElem?_eq_getElem hi⟩;have hlk:=HD.out.1.look_box ((i:Int)+1) (WalkArith.wf_i64 (by omega)) (some (A.box i)) (by unfold mBox;rw[if_pos ⟨by omega,by omega,hlv⟩,show ((i:Int)+1).toNat - 1=i by omega];rfl);obtain⟨-,-,-,b3,-⟩:=(HD.out.bq hbx).cells;have hmo:memOf s ((i:Int)+1)=x.mem:=by unfold memOf;rw[show ((i:Int)+1).toNat - 1=i by omega,hbx]
       rw[hmo] at hs;have j2:(j:Int) < (n:Int):=by omega
       obtain⟨z,hz⟩:∃ z,(i:Int)+1=z:=⟨_,rfl⟩;obtain⟨mm,hmm⟩:∃ z,x.mem=z:=⟨_,rfl⟩;obtain⟨S,hS⟩:∃ S,((l.take j).map (memOf s)).sum=S:=⟨_,rfl⟩;rw[hz] at hcell hlk;rw[hmm] at b3 hs;rw[hS] at hs hb1 ⊢;rw[hs] at hb2;simp only[pv] at hlk;have hq1:IntKind.i64.wrap (F+S+mm)=F+S+mm:=IntWalk.i64_in _ ⟨by omega,by omega⟩;have hq2:wrap64 (F+S+mm)=F+S+mm:=IntWalk.wrap64_in _ ⟨by omega,by omega⟩;have HS:=Lib.hid hs;clear hs hb1 hb2 hz hmm hS hx hmo hbx;go_wp2_with fail
       go_roundw
       case rel=>
        refine⟨j+1,by go_num,by omega,?_,by first | rfl | trivial⟩;rw[HS.out];congr 1
        omega
       case measure=>simp[intOf];omega
      ·obtain rfl:j=n:=by omega
       have hall:l.take j=l:=List.take_of_length_le (by omega);rw[hall];have hfa2:=HFA.out;rw[HF.out] at hfa2;obtain⟨S,hS⟩:∃ S,F+(l.map (memOf s)).sum=S:=⟨_,rfl⟩;rw[hS] at hfa2 ⊢;by_cases hsm:S < mem
       ·go_wp2_with fail
        go_roundw
        case rel=>exact⟨k+1,by go_num,by omega,HD.out,by have:=HST.out;rw[if_neg (fun e=>by have:=e.2;omega)] at this;exact this⟩
        case measure=>simp[intOf];omega
       ·have hsm':¬ S < mem:=hsm
        have hR2:R=(evictS mem k 4097 s,some k):=by
         have:=HST.out;rw[if_pos ⟨hu,by omega⟩] at this;exact this.symm
        have HR2:=Lib.hid hR2;have hus:=(HI.out.host k hlt).1.us;have hd3:=Rs.fresh HH.out.1 hBw;have hinit:∃ (sj:St) (cj:Nat→Nat) (m:Nat),Inv sj N none_∧sj.boxes.length=s.boxes.length∧upH sj.hosts k=true∧mem≤freeAll sj k∧sj.out.isSome=true∧evictS mem k m sj=evictS mem k 4097 s∧(sj.hosts k).us < m∧Rs W2 (fun x=>Grow F0 w0 W0 x∧x < W0.heap.size) W2 sj { A with cac:=cj }:=
         ⟨s,A.cac,4097,HI.out,rfl,hu,by omega,hout,rfl,by omega,hd3⟩
        have HB8:=Lib.hid (And.intro hlw (And.intro cd hBw));have HIN:=Lib.hid hinit;clear hR2 hd3 hinit hlw hBw hus hfa2 hall HRD HFS HFA HM hfb d7;go_wp2_with fail
        go_loopw [12] (fun _ w3=>∃ (sj:St) (cj:Nat→Nat) (m:Nat),Inv sj N none_∧sj.boxes.length=s.boxes.length∧upH sj.hosts k=true∧mem≤freeAll sj k∧sj.out.isSome=true∧evictS mem k m sj=evictS mem k 4097 s∧(sj.hosts k).us < m∧Rs W2 (fun x=>Grow F0 w0 W0 x∧x < W0.heap.size) w3 sj { A with cac:=cj }) (fun _ w3=>(intOf ((w3.cell? ⟨A.hosts,k*4+3,none⟩).getD undef)).toNat)
        case atStart=>exact HIN.out
        case round=>
         obtain⟨sj,cj,m,g1,g2,g3,g4,g5,g6,g7,g8⟩:=hrel;rename World=>W3
         have cd3:W3.cell? ⟨W0.heap.size,0,none⟩=some (.int .i64 k):=by
          rw[World.cell?_of_block (show W3.heap[W0.heap.size]?=W2.heap[W0.heap.size]? from g8.2.block _ HB8.out.1 (fun e=>by have:=e.2;omega))];exact HB8.out.2.1
         have c5:=g8.cc.2.2.2.2.2.1;have hgj:=(g1.host k hlt).1.us;have hfr:=fun n=>P13.free_any A.hosts sj.hosts k hlt hgj (W3.drewN n) (show P13.Hq (W3.drewN n) A.hosts sj.hosts from g8.1.hostsAt.1);have hLj:sj.boxes.length≤999000000:=by omega
         obtain⟨m',rfl⟩:∃ m',m=m'+1:=⟨m - 1,by omega⟩;rw[evictS_succ] at g6;obtain⟨Fj,hFj⟩:∃ F,P13.free (sj.hosts k)=F:=⟨_,rfl⟩;rw[hFj] at g6 hfr;have H8:=Lib.hid g8;have H1j:=Lib.hid g1;clear g8 g1 hgj;dsimp only at c5;by_cases hc:Fj < mem
         ·rw[if_pos hc] at g6
          have H6:=Lib.hid g6;clear g6;go_wp2_with fail
          go_quiet ((go_at_call 37;exact Calls.quiet_of (hfr _)))
          have cd4:(W3.drewN nq).cell? ⟨W0.heap.size,0,none⟩=some (.int .i64 k):=cd3;have hsum:0 < sumB (looseG k) sj.boxes:=by
           have:=freeAll_eq H1j.out k;rw[hFj] at this;omega
          have hcl:=cac_some H1j.out k hsum;obtain⟨i,x,hx,hkk,hh,hlo⟩:=evict_is H1j.out k hcl;have hil:=get_lt hx;have hst3:x.st≠3:=by rw[hlo.1];decide
          have hlv:=(H1j.out.box i x hx).live.2 hst3;obtain⟨p1,p2,p3,p4,p5⟩:=H1j.out.evict k hlt hcl i x hx hkk hh hlo;obtain⟨p6,p7⟩:=p5 g3;have hE:=evict1_at hkk;have HP:=Lib.hid (And.intro p1 (And.intro p2 (And.intro p3 (And.intro p4 (And.intro p6 (And.intro p7 hE))))));have hca:=cache_rs (H8.out.drewN nq) k hlt;have hev:Hid (∀ (w':World) (c:Nat→Nat),Rs W2 (fun x=>Grow F0 w0 W0 x∧x < W0.heap.size) w' { sj with cac:=cput sj.cac k } { A with cac:=c }→Calls Tryz.prog 145 #[.pointer (some ⟨c k,0,none⟩)] w' fun e w''=>e=.returned (.tuple #[.int .i64 ((i:Int)+1),.bool true]) ∧
            Rs W2 (fun x=>Grow F0 w0 W0 x∧x < W0.heap.size) w'' { sj with cac:=cset sj.cac k (HeapPure.drop P09.lt (cacL sj k) ((i:Int)+1),max (cacC sj k) ((HeapPure.vv (cacL sj k) 0).n / (HeapPure.vv (cacL sj k) 0).d)) } { A with cac:=c }):=fun w' c h'=>by
           have:=evict_rs h' k _ (cput_at sj.cac k) hcl;have e1:HeapPure.kk ((sj.cac k).getD ([],0)).1 0=(i:Int)+1:=hkk;simp only[cset_cput,e1] at this;exact this
          obtain⟨sE,hsE⟩:∃ sE:St,{ sj with cac:=cset sj.cac k (HeapPure.drop P09.lt (cacL sj k) ((i:Int)+1),max (cacC sj k) ((HeapPure.vv (cacL sj k) 0).n / (HeapPure.vv (cacL sj k) 0).d)) }=sE:=⟨_,rfl⟩;rw[hsE] at hev;have hlk:Hid (∀ (w':World) (c:Nat→Nat),Rs W2 (fun x=>Grow F0 w0 W0 x∧x < W0.heap.size) w' sE { A with cac:=c }→(Instr.lookup 84 (.map (some A.boxM)) (.int .i64 ((i:Int)+1)) false).run Tryz.prog w'=.ok (.pointer (some ⟨A.box i,0,none⟩)) w'):=fun w' c h'=>by
           have:=h'.1.look_box ((i:Int)+1) (WalkArith.wf_i64 (by omega)) (some (A.box i)) (by
            unfold mBox;rw[← hsE];rw[if_pos ⟨by omega,by show (i:Int)+1≤(sj.boxes.length:Int);omega,hlv⟩,show ((i:Int)+1).toNat - 1=i by omega];rfl)
           exact this
          have hki:Hid (∀ (w':World) (c:Nat→Nat),Rs W2 (fun x=>Grow F0 w0 W0 x∧x < W0.heap.size) w' sE { A with cac:=c }→Calls Tryz.prog 70 #[.pointer (some ⟨A.core,0,none⟩),.pointer (some ⟨A.box i,0,none⟩)] w' fun e w''=>e=.returned (.tuple #[])∧∃ c2:Nat→Nat,Rs W2 (fun x=>Grow F0 w0 W0 x∧x < W0.heap.size) w'' (evict1 sj k) { A with cac:=c2 }):=fun w' c h'=>by
           rw[HP.out.2.2.2.2.2.2,hsE];exact kill_any sE N (by rw[← hsE];exact H1j.out.low.aside _ sj.tim) (outl sj) (by rw[← hsE];exact out_some g5) (out_len H1j.out hLj) { A with cac:=c } _ _ i (by omega) x (by rw[← hsE];exact hx) hst3 w' h'
          have hlt2:(i:Int)+1≤1000000000:=by omega
          have HU:=Lib.hid ((H8.out.1.hostsAt.1).cells k hlt).2.2.2;obtain⟨z,hz⟩:∃ z,(i:Int)+1=z:=⟨_,rfl⟩;rw[hz] at hev hlk;clear p1 p2 p3 p4 p5 p6 p7 hE hsum hkk hx hlo hlv hfr hcl hst3 hh hsE hlt2 hz;go_wp2_with fail
          refine hca.mono ?_;rintro e w4 ⟨c1,rfl,h4⟩;have hev4:=hev.out w4 c1 h4;clear hca;go_wp2_with fail
          refine hev4.mono ?_;rintro e w5 ⟨rfl,h5⟩;have d7:=h5.cc.2.2.2.2.2.2.2.1;have hlk5:=hlk.out w5 c1 h5;have hki5:=hki.out w5 c1 h5;dsimp only at d7;clear hev4 h4;go_wp2_with fail
          refine hki5.mono ?_;rintro e w6 ⟨rfl,c2,h6⟩;clear hki5 hlk5 d7 h5;go_wp2_with fail
          go_roundw
          case rel=>
           obtain⟨p1,p2,p3,p4,p6,p7,-⟩:=HP.out;exact⟨evict1 sj k,c2,m',p1,by omega,p6,by omega,evict1_out sj k g5,H6.out,by omega,h6⟩
          case measure=>
           obtain⟨p1,p2,p3,p4,p6,p7,-⟩:=HP.out;have hu1:=HU.out;have hu2:=((h6.1.hostsAt.1).cells k hlt).2.2.2;have hp0:=(p1.host k hlt).1.us.1;dsimp only at hu1 hu2;rw[hu1,hu2];simp only[Option.getD_some,intOf];omega
         ·have hc':¬ Fj < mem:=hc
          rw[if_neg hc] at g6;have H6:=Lib.hid g6;clear g6;go_wp2_with fail
          go_quiet ((go_at_call 37;exact Calls.quiet_of (hfr _)))
          have cd4:(W3.drewN nq).cell? ⟨W0.heap.size,0,none⟩=some (.int .i64 k):=cd3;go_wp2_with fail
          go_returns
          rw[HR2.out];refine⟨rfl,cj,?_⟩;show Rs w0 F0 _ (evictS mem k 4097 s) _;rw[← H6.out];exact Rs.nest HH.out.1.2 HB8.out.2.2 (H8.out.drewN nq) (fun x hx=>hx.1)
   ·obtain rfl:k=32:=by omega
    go_wp2_with fail
    go_returns
    rw[HE.out 32 s hrf rfl];exact⟨rfl,A.cac,hr⟩
end Go.Proofs.YtigeldkbfbcpmaaGreat
namespace Go.Proofs.YtigeldkbfbcpmaaGreat
open Go.RowKit Go.Kpt Go.Maps
def bxput(b:Nat→Nat)(n bb:Nat):Nat→Nat:=fun i=>if i=n then bb else b i
def withBox(s:St)(x:P12.Bx)(id:Int):St:={ s with boxes:=s.boxes++[x],live:=fun j=>if j=id then true else s.live j }
theorem snoc_get{l:List P12.Bx}{x b:P12.Bx}{j:Nat}(h:(l++[x])[j]?=some b):(j=l.length∧b=x)∨(j < l.length∧l[j]?=some b):=by
 rcases Nat.lt_or_ge j l.length with hlt|hge
 ·rw[List.getElem?_append_left hlt] at h
  exact .inr ⟨hlt,h⟩
 ·rw[List.getElem?_append_right hge] at h
  have h2:j - l.length=0:=by
   rcases Nat.eq_zero_or_pos (j - l.length) with h0|h0
   ·exact h0
   ·rw[List.getElem?_eq_none (by simp;omega)] at h;cases h
  rw[h2] at h;simp at h;exact .inl ⟨by omega,h.symm⟩
theorem mBox_new(s:St)(A:Adr)(x:P12.Bx)(bb:Nat):gput (mBox s A) ((s.boxes.length:Int)+1) (some bb)=mBox (withBox s x ((s.boxes.length:Int)+1)) { A with box:=bxput A.box s.boxes.length bb }:=by
 funext k
 unfold gput mBox withBox bxput;by_cases e:k=(s.boxes.length:Int)+1
 ·rw[if_pos e]
  simp only[List.length_append,List.length_cons,List.length_nil];rw[if_pos ⟨by omega,by omega,by rw[if_pos e]⟩,if_pos (by omega)]
 ·rw[if_neg e]
  simp only[List.length_append,List.length_cons,List.length_nil,if_neg e];by_cases h:1≤k∧k≤s.boxes.length∧s.live k=true
  ·rw[if_pos h,if_pos ⟨h.1,by omega,h.2.2⟩,if_neg (by omega)]
  ·rw[if_neg h,if_neg (fun h2=>h ⟨h2.1,by omega,h2.2.2⟩)]
theorem Sys.newBox{w:World}{s:St}{A:Adr}{F:Nat→Prop}(h:Sys w s A F)(bb:Nat)(x:P12.Bx)(hb:P12.Bq w bb x)(hF:¬ F bb):
  ∃ c,Pm w A.boxM c (mBox s A)∧F A.boxM∧(c:Int)≤s.boxes.length∧∀ w' c',Pm w' A.boxM c' (mBox (withBox s x ((s.boxes.length:Int)+1)) { A with box:=bxput A.box s.boxes.length bb })→Kept (fun b=>b=A.boxM) w w' →
   Sys w' (withBox s x ((s.boxes.length:Int)+1)) { A with box:=bxput A.box s.boxes.length bb } (fun y=>Grow F w w' y∨y=bb)∧Kept F w w':=by
 obtain⟨own,hS,hFo⟩:=h;have hblt:=lt_of hb;have hn:s.boxes[s.boxes.length]?=none:=List.getElem?_eq_none (Nat.le_refl _);have hS2:SysO w s A (fun q=>if q=.box s.boxes.length then (fun y=>y=bb) else own q):=by
  refine⟨fun q=>?_,fun q y hy=>?_,fun q r y h1 h2=>?_⟩
  ·by_cases e:q=.box s.boxes.length
   ·subst e
    rw[if_pos rfl];intro b hb2;rw[hn] at hb2;cases hb2
   ·rw[if_neg e];exact hS.at_ q
  ·skip
   split at hy
   ·rw[hy];exact hblt
   ·exact hS.lt q y hy
  ·skip
   split at h1 <;> split at h2
   ·rename_i e1 e2;rw[e1,e2]
   ·rw[h1] at h2;exact absurd (hFo r _ h2) hF
   ·rw[h2] at h1;exact absurd (hFo q _ h1) hF
   ·exact hS.sep q r y h1 h2
 obtain⟨h1,c,h2⟩:=hS2.at_ .boxM;have h1':own .boxM A.boxM:=h1;have hcl:(c:Int)≤s.boxes.length:=by
  obtain⟨D,d1,d2⟩:=h2;obtain⟨k1,k2,k3⟩:=keys_spec d1 d2;have:c≤s.boxes.length:=by
   rw[← k3];have h5:=nodup_le s.boxes.length ((intKeys D).map (fun z=>z - 1)) (by
    refine List.pairwise_map.2 (k1.imp ?_);intro a b hne e;omega) (fun z hz=>by
    obtain⟨y,hy,rfl⟩:=List.mem_map.1 hz;have:=((k2 y).1 hy).1;unfold mBox at this;split at this
    ·omega
    ·cases this)
   simpa using h5
  omega
 refine⟨c,h2,hFo _ _ h1',hcl,fun w' c' hy k=>?_⟩;have hne:(Part.boxM:Part)≠.box s.boxes.length:=fun e=>by cases e
 have hbM:bb≠A.boxM:=fun e=>hF (by rw[e];exact hFo _ _ h1');have hK:Kept (fun y=>own .boxM y∨y=bb) w w':=k.mono (fun b _ e=>by rw[e];exact .inl h1');have hT:=hS2.two .boxM (.box s.boxes.length) hne (w':=w') (s':=withBox s x ((s.boxes.length:Int)+1)) (A':={ A with box:=bxput A.box s.boxes.length bb })
  (by
   simp only[if_true];exact hK) (Grow (own .boxM) w w') (fun y=>y=bb)
  (fun y hy=>hy.elim (fun e=>.inl e) .inr) (fun y hy=>.inl (by rw[if_pos rfl];exact hy)) (fun y h1 h2=>by
   rw[h2] at h1;rcases h1 with h1|h1
   ·exact hF (hFo _ _ h1)
   ·omega)
  ⟨.inl h1',c',hy⟩ (by
   intro b hb2;have hb2:(s.boxes++[x])[s.boxes.length]?=some b:=hb2;rcases snoc_get hb2 with ⟨-,rfl⟩|⟨e,-⟩
   ·have e:({ A with box:=bxput A.box s.boxes.length bb }:Adr).box s.boxes.length=bb:=by simp[bxput]
    rw[e];exact⟨rfl,hb.kept k hbM⟩
   ·omega)
  (fun q h1 h2 W G hat=>by
   cases q with
   | box j=>
    have hj:j≠s.boxes.length:=fun e=>h2 (by rw[e]);intro b hb2;have hb2:(s.boxes++[x])[j]?=some b:=hb2;rcases snoc_get hb2 with ⟨e,-⟩|⟨-,e⟩
    ·exact absurd e hj
    ·have e2:({ A with box:=bxput A.box s.boxes.length bb }:Adr).box j=A.box j:=by simp[bxput,hj]
     rw[e2];exact hat b e
   | boxM=>exact absurd rfl h1
   | _=>exact hat)
 refine⟨⟨_,hT,fun q y hy=>?_⟩,k.mono (fun b _ e=>by rw[e];exact hFo _ _ h1')⟩;split at hy
 ·rcases hy with hy | hy
  ·exact .inl (.inl (hFo _ _ hy))
  ·exact .inl (.inr hy)
 ·split at hy
  ·exact .inr hy
  ·exact .inl (.inl (hFo _ _ hy))
theorem Rs.of{w0 w':World}{F0 F:Nat→Prop}{s:St}{A:Adr}(h:Sys w' s A F)(hF:∀ y,F y→Grow F0 w0 w' y)(k:Kept F0 w0 w'):Rs w0 F0 w' s A:=⟨h.mono hF,k⟩
end Go.Proofs.YtigeldkbfbcpmaaGreat
