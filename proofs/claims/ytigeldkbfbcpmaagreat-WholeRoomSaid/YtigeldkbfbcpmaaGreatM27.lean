/- A part of the proof: what the functions of the program come to, and what holds at all times. -/
import Derived.BigQuiet
import Derived.Test.YtigeldkbfbcpmaaGreatM26
import Derived.Test.YtigeldkbfbcpmaaGreatM21
import Derived.Test.YtigeldkbfbcpmaaGreatM18
import Derived.Test.YtigeldkbfbcpmaaGreatM08
set_option linter.unusedVariables false
set_option linter.unusedSectionVars false
set_option linter.unusedSimpArgs false
set_option maxRecDepth 100000
set_option maxHeartbeats 8000000
namespace Go.Proofs.YtigeldkbfbcpmaaGreat
open Go.RowKit Go.Kpt Go.Maps Go.Sort Go.Shelf
theorem fids_is{s:St}{x:Int}(hx:x ∈ fids s):∃ f:Nat,f < 64∧x=(f:Int)∧∃ y,s.fns f=some y:=by
 unfold fids at hx;rw[List.mem_filter,List.mem_map] at hx;obtain⟨⟨i,hi,rfl⟩,hl⟩:=hx;rw[List.mem_range] at hi;rw[Int.toNat_natCast] at hl;exact⟨i,hi,rfl,Option.isSome_iff_exists.1 hl⟩
def allTo(s:St)(j:Nat):St:=((fids s).take j).foldl (fun s f=>keepS f.toNat s) s
theorem allTo_succ(s:St)(j:Nat)(hj:j < (fids s).length):allTo s (j+1)=keepS ((fids s).getD j 0).toNat (allTo s j):=fold_snoc (fun (s:St) (f:Int)=>keepS f.toNat s) s (fids s) j hj
theorem allTo_all(s:St):allTo s (fids s).length=keepAllS s:=by unfold allTo keepAllS;rw[List.take_length]
theorem allTo_inv{s:St}{N:Nat}(h:Inv s N none_)(ho:s.out.isSome=true)(hL:s.boxes.length≤997000000):∀ j,j≤(fids s).length→Inv (allTo s j) N none_∧Mildly s (allTo s j)∧s.boxes.length≤(allTo s j).boxes.length∧(allTo s j).boxes.length≤s.boxes.length+1000*j:=by
 intro j
 induction j with
 | zero=>intro _;exact⟨h,⟨rfl,rfl,rfl,rfl,ho⟩,Nat.le_refl _,by show s.boxes.length≤_;omega⟩
 | succ j ih=>
  intro hj;have hl:=fids_len s;obtain⟨g1,g2,g3,g4⟩:=ih (by omega);obtain⟨f,hf,hx,y,hy⟩:=fids_is (getD_mem' (l:=fids s) (j:=j) (by omega));rw[allTo_succ s j (by omega),hx,Int.toNat_natCast];obtain⟨k1,k2,k3,k4⟩:=g1.keep_ g2.out (by omega) (by rw[g2.fns];exact hy);exact⟨k1,g2.trans k2,by omega,by omega⟩
theorem Inv.keepAll_{s:St}{N:Nat}(h:Inv s N none_)(ho:s.out.isSome=true)(hL:s.boxes.length≤997000000):Inv (keepAllS s) N none_∧Mildly s (keepAllS s)∧s.boxes.length≤(keepAllS s).boxes.length∧(keepAllS s).boxes.length≤s.boxes.length+64000:=by
 have:=allTo_inv h ho hL (fids s).length (Nat.le_refl _);rw[allTo_all] at this;have hl:=fids_len s;exact⟨this.1,this.2.1,this.2.2.1,by have:=this.2.2.2;omega⟩
theorem keepAll_any(s:St)(N:Nat)(hI:Inv s N none_)(hN:N < 4095)(hL:s.boxes.length≤997000000)(hout:s.out.isSome=true)(A:Adr)(w0:World)(F0:Nat→Prop)(w:World)(h:Rs w0 F0 w s A):
  Calls Tryz.prog 49 #[.pointer (some ⟨A.core,0,none⟩)] w fun e w'=>e=.returned (.tuple #[])∧Rx w0 F0 w' (keepAllS s) A s.boxes.length:=by
 have c4:=h.cc.2.2.2.2.1;have hfm:∃ c,Pm w A.fnM c (mFn s A):=by
  obtain⟨own,hS,-⟩:=h.1;exact(hS.at_ .fnM).2
 obtain⟨c,D,hown,hT⟩:=hfm;obtain⟨k1,k2,k3⟩:=keys_spec hown hT;have hcl:c≤64:=by
  rw[← k3];refine nodup_le _ _ k1 fun x hx=>?_;have:=((k2 x).1 hx).1;unfold mFn at this;split at this
  ·rename_i hh;exact hh
  ·cases this
 have hsz:Maps.size D=c:=hT.size;have hlen:=fids_len s;have hwf:∀ x ∈ fids s,(Lit.int .i64 x).wf=true:=fun x hx=>by
  obtain⟨f,hf,rfl,-⟩:=fids_is hx;exact WalkArith.wf_i64 (by omega)
 have hkeys:=fun (ss:List Int) (hp:ss.Perm (intKeys D))=>keys_are hown hT (fids s) (fids_sorted s) (fun x=>fids_mem s A x) hwf hp;refine(callsIn_wide (n:=6)).1 ?_;have cK:=fun W=>Tryz.keys79 (some A.fnM) W;have cS:=Tryz.sorted79 A.fnM c D ptrE.R w hown (by rw[hsz];unfold maxLen;omega) (by rw[hsz];omega);have hfK:Fence.wide.fn 79:=trivial;have hfS:Fence.wide.fn 60:=trivial;have H:=Lib.hid h;have HI:=Lib.hid hI;clear hown hT h k1 k2 k3 hI;refine callsIn_of_wp Tryz.func49 rfl trivial ?_ rfl;simp only[Tryz.ntmps49,List.size_toArray,List.length_cons,List.length_nil,Nat.reduceAdd,Nat.reduceSub,Array.replicate_succ,Array.replicate_zero,List.push_toArray,List.append_toArray,List.nil_append,List.cons_append]
 gi_wp2_with (first
  | (gi_at_call 79;refine(cK _).mono ?_;rintro e w' ⟨rfl,rfl⟩)
  | (gi_at_call 60;refine cS.mono ?_;rintro e w' ⟨v,ss,rfl,hS,hrow,hnil,hb⟩;obtain⟨e1,e2⟩:=hkeys ss hS;rw[e1,e2] at hrow;have hown:OwnI w' w.heap.size 3 .i64 v (fids s):=ownsRow_base_a hrow (by simp);have hrd:=OwnI.read hown;have hBw:Below w.heap.size w w':=((Below.refl _ w).alloc (Nat.le_refl _) _).trans (hb.mono (by simp));obtain⟨a,cap,rfl,-⟩:=hrd.any;have HR:=Lib.hid (And.intro hrd hBw);clear hrow hnil hb hS hown hrd hBw e1 e2))
 obtain⟨len,hlq⟩:∃ len,(fids s).length=len:=⟨_,rfl⟩;rw[hlq] at hlen
 try rw[hlq]
 have hf78:Fence.wide.fn 78:=trivial
 gi_loopw [11] (fun x wr=>∃ (j:Nat) (cac box:Nat→Nat),x=.int .i64 j∧j≤len∧(∀ i,i < s.boxes.length→box i=A.box i)∧Rs w' (fun x=>Grow F0 w0 w x∧x < w.heap.size) wr (allTo s j) { A with cac:=cac,box:=box }) (fun x _=>len - (intOf x).toNat)
 case atStart=>exact⟨0,A.cac,A.box,rfl,by omega,fun _ _=>rfl,Rs.fresh H.out HR.out.2⟩
 case round=>
  obtain⟨j,cac,box,rfl,hj,hbx,hR⟩:=hrel;rename World=>W0
  by_cases hlt:j < len
  ·have j1:(j:Int) < len:=by omega
   have hrd:ReadI W0 w.heap.size (.slice a (fids s).length cap) (fids s):=HR.out.1.kept hR.2 (fun x hx hlt e=>by omega);rw[hlq] at hrd;obtain⟨f,hf,hx,y,hy⟩:=fids_is (getD_mem' (l:=fids s) (j:=j) (by omega));obtain⟨g1,g2,g3,g4⟩:=allTo_inv HI.out hout hL j (by omega);obtain⟨g,cap2,hsl,-,-,-,hn⟩:∃ g cap2,Value.slice a len cap=.slice (some ⟨g,0,none⟩) len cap2∧True∧True∧True∧W0.cell? ⟨g,j,none⟩=some (.int .i64 (f:Int)):=by
    rcases hrd with ⟨-,e⟩|⟨g,cap2,e1,-,-,-,e5⟩
    ·rw[e] at hlq
     have:len=0:=hlq.symm;omega
    ·refine⟨g,cap2,by rw[hlq] at e1;exact e1,trivial,trivial,trivial,?_⟩
     have:=(e5 j (by omega)).1;simp only[hx] at this;exact this
   simp only[Value.slice.injEq,true_and] at hsl;obtain⟨rfl,rfl⟩:=hsl;have hk:=fun W h=>(callsIn_wide (n:=5)).2 (keep_any (allTo s j) N g1 hN (by omega) g2.out { A with cac:=cac,box:=box } w' (fun x=>Grow F0 w0 w x∧x < w.heap.size) f y (by rw[g2.fns];exact hy) W h);have HG:=Lib.hid (And.intro hbx (And.intro hR (And.intro g3 hx)));clear hbx hR hrd g1 g2 g3 g4 hy hx
   gi_wp2_with (gi_at_call 78;refine(hk _ HG.out.2.1).mono ?_;rintro e wn ⟨rfl,cac2,box2,hb2,hR2⟩)
   go_roundw
   case rel=>
    obtain⟨hbx,hR,g3,hx⟩:=HG.out;refine⟨j+1,cac2,box2,by go_num,by omega,fun i hi=>(hb2 i (by omega)).trans (hbx i hi),?_⟩;rw[allTo_succ s j (by omega),hx,Int.toNat_natCast];exact hR2
   case measure=>simp[intOf];omega
  ·have j1:¬ (j:Int) < len:=by omega
   have hjl:j=len:=by omega
   have HG:=Lib.hid (And.intro hbx hR);clear hbx hR
   gi_wp2_with fail
   go_end0
   obtain⟨hbx,hR⟩:=HG.out;refine⟨rfl,cac,box,hbx,?_⟩;rw[hjl,← hlq,allTo_all] at hR;exact Rs.nest H.out.2 HR.out.2 hR (fun x hx=>hx.1)
structure Lone (s t:St) (i:Nat):Prop where
 len:t.boxes.length=s.boxes.length
 box:∀ j,j≠i→t.boxes[j]?=s.boxes[j]?
 now:t.now=s.now
 out:s.out.isSome=true→t.out.isSome=true
 tok:t.tok=s.tok
theorem lone_gone(s:St)(i:Nat):Lone s (goneS s i) i:=by
 unfold goneS;split
 ·exact⟨rfl,fun _ _=>rfl,rfl,fun h=>h,rfl⟩
 ·exact⟨List.length_set,fun j hj=>List.getElem?_set_ne (fun e=>hj e.symm),rfl,fun h=>h,rfl⟩
theorem lone_kill(s:St)(i:Nat):Lone s (killS s i) i:=by
 have h:=lone_gone s i;unfold killS;split
 ·exact⟨rfl,fun _ _=>rfl,rfl,fun h=>h,rfl⟩
 ·exact⟨h.len,h.box,h.now,fun _=>rfl,h.tok⟩
theorem lone_pinB(s:St)(i:Nat)(v:Bool):Lone s (pinB s i v) i:=
 have h:=quiet_pinB s i v
 ⟨h.len,h.box,h.now,h.out,h.tok⟩
theorem onHost_is{s:St}{n:Nat}{id:Int}(h:id ∈ onHost s n):∃ (i:Nat) (x:P12.Bx),id=(i:Int)+1∧s.boxes[i]?=some x∧s.live ((i:Int)+1)=true∧x.host=(n:Int):=by
 unfold onHost at h;rw[List.mem_filter] at h;obtain⟨i,hi,rfl,hl⟩:=ids_is h.1;obtain⟨x,hx⟩:∃ x,s.boxes[i]?=some x:=⟨_,List.getElem?_eq_getElem hi⟩;have h2:=h.2;rw[bp_at hx] at h2;exact⟨i,x,rfl,hx,hl,beq_iff_eq.1 h2⟩
theorem onHost_len(s:St)(n:Nat):(onHost s n).length≤s.boxes.length:=Nat.le_trans (List.length_filter_le _ _) (ids_len s)
theorem onHost_ne(s:St)(n:Nat){r j:Nat}(h:r < j)(hj:j < (onHost s n).length):(onHost s n).getD r 0≠(onHost s n).getD j 0:=by
 have hp:(onHost s n).Pairwise (· < ·):=List.Pairwise.filter _ (ids_sorted s);have:=List.pairwise_iff_getElem.1 hp r j (by omega) hj h;rw[List.getD_eq_getElem?_getD,List.getD_eq_getElem?_getD,List.getElem?_eq_getElem hj,List.getElem?_eq_getElem (show r < (onHost s n).length by omega)];simp only[Option.getD_some];omega
def after(g:St→Int→St)(s:St)(l:List Int)(j:Nat):St:=(l.take j).foldl g s
theorem after_succ(g:St→Int→St)(s:St)(l:List Int)(j:Nat)(hj:j < l.length):after g s l (j+1)=g (after g s l j) (l.getD j 0):=fold_snoc g s l j hj
theorem after_all(g:St→Int→St)(s:St)(l:List Int):after g s l l.length=l.foldl g s:=by unfold after;rw[List.take_length]
structure Aft (s t:St) (N:Nat) (P:Nat→Prop):Prop where
 inv:Inv t N none_
 len:t.boxes.length=s.boxes.length
 out:t.out.isSome=true
 now:t.now=s.now
 tok:t.tok=s.tok
 box:∀ i,P i→t.boxes[i]?=s.boxes[i]?
theorem after_inv{s:St}{N:Nat}{n:Nat}(g:St→Int→St)(hg:∀ (t:St) (i:Nat) (x:P12.Bx),Inv t N none_→t.boxes[i]?=some x→x.st≠3→Inv (g t ((i:Int)+1)) N none_∧Lone t (g t ((i:Int)+1)) i)
  (h:Inv s N none_) (ho:s.out.isSome=true):∀ j,j≤(onHost s n).length→Aft s (after g s (onHost s n) j) N (fun i=>∀ r,r < j→(onHost s n).getD r 0≠(i:Int)+1):=by
 intro j
 induction j with
 | zero=>intro _;exact⟨h,rfl,ho,rfl,rfl,fun _ _=>rfl⟩
 | succ j ih=>
  intro hj;have a:=ih (by omega);obtain⟨i,x,hid,hx,hl,hh⟩:=onHost_is (getD_mem' (l:=onHost s n) (j:=j) (by omega));rw[after_succ g s _ j (by omega),hid];have hx2:(after g s (onHost s n) j).boxes[i]?=some x:=(a.box i (fun r hr=>by have:=onHost_ne s n hr (by omega);rw[hid] at this;exact this)).trans hx;obtain⟨g1,g2⟩:=hg _ i x a.inv hx2 ((h.box i x hx).live.1 hl);refine⟨g1,g2.len.trans a.len,g2.out a.out,g2.now.trans a.now,g2.tok.trans a.tok,fun k hk=>?_⟩;have hne:k≠i:=fun e=>hk j (by omega) (by rw[hid,e]);exact(g2.box k hne).trans (a.box k (fun r hr=>hk r (by omega)))
theorem Aft.turn{s:St}{N n j:Nat}{t:St}(a:Aft s t N (fun i=>∀ r,r < j→(onHost s n).getD r 0≠(i:Int)+1))(h:Inv s N none_)(hj:j < (onHost s n).length):
  ∃ (i:Nat) (x:P12.Bx),(onHost s n).getD j 0=(i:Int)+1∧i < s.boxes.length∧t.boxes[i]?=some x∧x.st≠3∧x.host=(n:Int)∧t.live ((i:Int)+1)=true:=by
 obtain⟨i,x,hid,hx,hl,hh⟩:=onHost_is (getD_mem' (l:=onHost s n) (j:=j) (by omega));have hx2:t.boxes[i]?=some x:=(a.box i (fun r hr=>by have:=onHost_ne s n hr (by omega);rw[hid] at this;exact this)).trans hx;have hst:=(h.box i x hx).live.1 hl;refine⟨i,x,hid,?_,hx2,hst,hh,(a.inv.box i x hx2).live.2 hst⟩;rcases Nat.lt_or_ge i s.boxes.length with h|h
 ·exact h
 ·rw[List.getElem?_eq_none h] at hx;cases hx
def goneI(s:St)(id:Int):St:=goneS s (id.toNat - 1)
theorem goneI_inv{N:Nat}:∀ (t:St) (i:Nat) (x:P12.Bx),Inv t N none_→t.boxes[i]?=some x→x.st≠3→Inv (goneI t ((i:Int)+1)) N none_∧Lone t (goneI t ((i:Int)+1)) i:=by
 intro t i x h hx hl;unfold goneI;rw[show ((i:Int)+1).toNat - 1=i by omega];exact⟨(h.gone (fun j e=>e.elim) hx hl).1,lone_gone t i⟩
theorem drain1_inv{N:Nat}:∀ (t:St) (i:Nat) (x:P12.Bx),Inv t N none_→t.boxes[i]?=some x→x.st≠3→Inv (drain1 t ((i:Int)+1)) N none_∧Lone t (drain1 t ((i:Int)+1)) i:=by
 intro t i x h hx hl;unfold drain1;rw[show ((i:Int)+1).toNat - 1=i by omega];have hr:runsB t i=P12.runs x:=by unfold runsB;rw[hx]
 rw[hr];split
 ·rename_i hr
  have hst:x.st≠1:=fun e=>by simp[P12.runs,e] at hr
  have hz:(pinB t i false).boxes[i]?=some { x with pin:=false }:=by rw[pinB_eq hx];exact set_same' hx
  have hb:=h.bare (fun e=>e) hx (fun e=>hst e.1);refine⟨(h.pinB_ (fun j e=>e.elim) hx hl false).settle (fun j e=>e) hz (fun e=>hst e.1) (fun m hm=>?_) (fun t' ht=>?_),lone_pinB t i false⟩
  ·rw[pinB_eq hx] at hm
   exact hb.1 _ m hm
  ·rw[pinB_eq hx] at ht
   exact hb.2 t' ht
 ·exact⟨(h.kill (fun j e=>e.elim) hx hl).1,lone_kill t i⟩
end Go.Proofs.YtigeldkbfbcpmaaGreat
namespace Go.Proofs.YtigeldkbfbcpmaaGreat
open Go.RowKit Go.Kpt Go.Shelf
theorem Inv.hostset_{s:St}{N k:Nat}(h:Inv s N none_)(hk:k < 32)(m:P13.Ma)(hm:HostOk m)(hu:m.us=memOn s k):Inv { s with hosts:=P13.put s.hosts k m } N none_:=
 { h with
  box:=fun i x hx=>(h.box i x hx).of rfl (fun f y e=>⟨y,e,rfl⟩)
  fn:=fun f y hy=>(h.fn f y hy).of (fun _ e=>e) (Int.le_refl _) rfl
  host:=fun j hj=>by
   by_cases e:j=k
   ·subst e
    show HostOk (P13.put s.hosts j m j)∧(P13.put s.hosts j m j).us=memOn s j;rw[P13.put_same];exact⟨hm,hu⟩
   ·show HostOk (P13.put s.hosts k m j)∧(P13.put s.hosts k m j).us=memOn s j
    rw[P13.put_ne _ _ _ _ e];exact h.host j hj }
theorem sumB_zero{g:P12.Bx→Int}:∀ {l:List P12.Bx},(∀ x ∈ l,g x=0)→sumB g l=0:=by
 intro l
 induction l with
 | nil=>intro _;simp[sumB]
 | cons x l ih=>
  intro h;have h1:=h x List.mem_cons_self;have h2:=ih (fun y hy=>h y (List.mem_cons_of_mem _ hy));simp only[sumB,List.map_cons,List.sum_cons] at h2 ⊢;omega
theorem goneI_dead{t:St}{i:Nat}{x z:P12.Bx}(hz:t.boxes[i]?=some z)(hzl:z.st≠3)(hx:(goneI t ((i:Int)+1)).boxes[i]?=some x):x.st=3:=by
 have e:goneI t ((i:Int)+1)=goneS t i:=by unfold goneI;rw[show ((i:Int)+1).toNat - 1=i by omega]
 rw[e] at hx;unfold goneS at hx;rw[hz] at hx;have hx2:(t.boxes.set i (P12.kill z t.now).1)[i]?=some x:=hx;rw[set_same' hz] at hx2;cases hx2
 unfold P12.kill;rw[if_neg hzl]
theorem gone_live{s:St}{N n:Nat}(h:Inv s N none_)(ho:s.out.isSome=true):∀ j,j≤(onHost s n).length→∀ (i:Nat) (x:P12.Bx),(after goneI s (onHost s n) j).boxes[i]?=some x→x.st≠3→∀ r,r < j→(onHost s n).getD r 0≠(i:Int)+1:=by
 intro j
 induction j with
 | zero=>intro _ i x _ _ r hr;omega
 | succ j ih=>
  intro hj i x hx hl r hr;have a:=after_inv (n:=n) goneI goneI_inv h ho j (by omega);obtain⟨k,z,hid,hk,hz,hzl,-,-⟩:=a.turn h (by omega);rw[after_succ goneI s _ j (by omega),hid] at hx;by_cases e:i=k
  ·subst e
   exact absurd (goneI_dead hz hzl hx) hl
  ·have hl2:=(goneI_inv _ k z a.inv hz hzl).2.box i e
   rw[hl2] at hx;rcases Nat.lt_or_ge r j with hh|hh
   ·exact ih (by omega) i x hx hl r hh
   ·obtain rfl:r=j:=by omega
    rw[hid];omega
theorem gone_mem{s:St}{N n:Nat}(h:Inv s N none_)(ho:s.out.isSome=true):memOn (after goneI s (onHost s n) (onHost s n).length) n=0:=by
 have a:=after_inv (n:=n) goneI goneI_inv h ho _ (Nat.le_refl _);refine sumB_zero fun x hm=>?_;unfold memG;split
 ·rename_i hc
  exfalso;obtain⟨i,hi,hx⟩:=List.getElem_of_mem hm;have hx:(after goneI s (onHost s n) (onHost s n).length).boxes[i]?=some x:=by rw[List.getElem?_eq_getElem hi,hx]
  have hg:=gone_live h ho _ (Nat.le_refl _) i x hx hc.1;have hx2:s.boxes[i]?=some x:=(a.box i hg).symm.trans hx;have hl:=(h.box i x hx2).live.2 hc.1;have hin:((i:Int)+1) ∈ onHost s n:=by
   unfold onHost ids;rw[List.mem_filter,List.mem_filter,List.mem_map];rw[a.len] at hi;exact⟨⟨⟨i,List.mem_range.2 hi,rfl⟩,hl⟩,by rw[bp_at hx2];exact beq_iff_eq.2 hc.2⟩
  obtain⟨r,hr,he⟩:=List.getElem_of_mem hin;refine hg r hr ?_;rw[List.getD_eq_getElem?_getD,List.getElem?_eq_getElem hr,he];rfl
 ·rfl
def failH(s:St)(n:Nat):St:={ s with hosts:=P13.put s.hosts n (if (s.hosts n).th=true then ⟨false,false,0,0⟩ else s.hosts n) }
theorem failS_eq(s:St)(n:Nat)(hn:n < 32)(ht:(s.hosts n).th=true):failS s n=(keepAllS (failH (after goneI s (onHost s n) (onHost s n).length) n),0):=by
 unfold failS;rw[if_neg (fun e=>by
             rcases e with e|e;· omega
             ·rw[Int.toNat_natCast,ht] at e;cases e)]
 rw[after_all];simp only[Int.toNat_natCast];rfl
theorem failS_bad(s:St)(n:Nat)(hb:32≤n∨(s.hosts n).th=false):failS s n=(s,2):=by
 unfold failS;rw[if_pos];rw[Int.toNat_natCast];rcases hb with e|e
 ·left;omega
 ·exact .inr e
theorem failH_inv{s:St}{N n:Nat}(h:Inv s N none_)(hn:n < 32)(hz:memOn s n=0):Inv (failH s n) N none_:=by
 unfold failH;split
 ·exact h.hostset_ hn _ ⟨by decide,fun _=>rfl,fun e=>by cases e⟩ hz.symm
 ·rw[P13.put_self]
  exact h
theorem Inv.fail_{s:St}{N n:Nat}(h:Inv s N none_)(ho:s.out.isSome=true)(hL:s.boxes.length≤997000000):Inv (failS s n).1 N none_∧(failS s n).1.out.isSome=true∧(failS s n).1.now=s.now∧(failS s n).1.tok=s.tok∧s.boxes.length≤(failS s n).1.boxes.length∧(failS s n).1.boxes.length≤s.boxes.length+64000:=by
 by_cases hb:32≤n∨(s.hosts n).th=false
 ·rw[failS_bad s n hb]
  exact⟨h,ho,rfl,rfl,Nat.le_refl _,Nat.le_add_right _ _⟩
 ·have hn:n < 32:=by omega
  have ht:(s.hosts n).th=true:=by
   cases e:(s.hosts n).th
   ·exact absurd (.inr e) hb
   ·rfl
  rw[failS_eq s n hn ht];have a:=after_inv (n:=n) goneI goneI_inv h ho _ (Nat.le_refl _);have hi:=failH_inv a.inv hn (gone_mem h ho);obtain⟨k1,k2,k3,k4⟩:=hi.keepAll_ a.out (by show (after goneI s (onHost s n) (onHost s n).length).boxes.length≤_;rw[a.len];exact hL);have hl:(failH (after goneI s (onHost s n) (onHost s n).length) n).boxes.length=s.boxes.length:=a.len;exact⟨k1,k2.out,k2.now.trans a.now,k2.tok.trans a.tok,by show s.boxes.length≤(keepAllS _).boxes.length;omega,by show (keepAllS _).boxes.length≤_;omega⟩
namespace P13
theorem fail_none(b:Nat)(f:Nat→Ma)(h:Nat)(hl:h < 32)(hx:(f h).th=false)(w:World)(q:Hq w b f):
  Calls Tryz.prog 87 #[.pointer (some ⟨b,0,none⟩),.int .i64 h] w fun e w'=>(∃ v,e=.returned (.int .i64 v))∧w=w':=by
 have ht:=there_any b f h hl w q;rw[hx] at ht;go_enter Tryz.func87,Tryz.ntmps87
 go_wp2_with fail
 refine ht.mono ?_;rintro e w1 ⟨rfl,rfl⟩;go_wp2_with fail
 go_ret
 exact⟨⟨_,rfl⟩,rfl⟩
end P13
theorem failH_rs{w0 w:World}{F0:Nat→Prop}{s:St}{A:Adr}(h:Rs w0 F0 w s A)(k:Nat)(hk:k < 32):
  Calls Tryz.prog 87 #[.pointer (some ⟨A.hosts,0,none⟩),.int .i64 k] w fun e w'=>(∃ v,e=.returned (.int .i64 v))∧Rs w0 F0 w' (failH s k) A:=by
 obtain⟨hq,hnx⟩:=h.1.hostsTurn;cases ht:(s.hosts k).th
 ·refine(P13.fail_none A.hosts s.hosts k hk ht w hq).mono ?_
  rintro e w' ⟨he,rfl⟩;refine⟨he,?_⟩;unfold failH;rw[if_neg (by rw[ht];exact Bool.false_ne_true),P13.put_self];exact h
 ·refine(P13.fail_any A.hosts s.hosts k hk ht w hq).mono ?_
  rintro e w' ⟨rfl,h1,h2⟩;obtain⟨h3,h4⟩:=hnx w' _ h1 h2;refine⟨⟨_,rfl⟩,?_⟩;unfold failH;rw[if_pos ht];exact h.next h3 h4
theorem eg85:∀ args w,(callFunc 85 args).run Tryz.prog w=.ok (.enter 85 args) w:=by intro args w;rfl
theorem fail_bad(s:St)(A:Adr)(w0:World)(F0:Nat→Prop)(n:Nat)(hb:32≤n∨(s.hosts n).th=false)(w:World)(h:Rs w0 F0 w s A):
  Calls Tryz.prog 51 #[.pointer (some ⟨A.core,0,none⟩),.int .i64 n] w fun e w'=>e=.returned (.int .i64 2)∧Rs w0 F0 w' s A:=by
 obtain⟨wa,hwa⟩:∃ wa,w.alloc (.cells #[.int .i64 n] 3)=wa:=⟨_,rfl⟩;have hBa:Below w.heap.size w wa:=by subst hwa;exact(Below.refl _ w).alloc (Nat.le_refl _) _
 have hca:wa.heap[w.heap.size]?=some (.cells #[.int .i64 n] 3 (0,0)):=by subst hwa;exact heap_alloc_new _ _
 have ca:wa.cell? ⟨w.heap.size,0,none⟩=some (.int .i64 n):=(cell_of hca).trans rfl;have ha:=h.below hBa;have c5:=ha.cc.2.2.2.2.2.1;have hth:Calls Tryz.prog 84 #[.pointer (some ⟨A.hosts,0,none⟩),.int .i64 n] wa.drew fun e w'=>e=.returned (.bool false)∧wa.drew=w':=by
  by_cases hn:32≤n
  ·exact P13.isThere_far A.hosts n hn wa.drew
  ·have:=P13.isThere_any A.hosts s.hosts n (by omega) wa.drew ha.drew.1.hostsAt.1
   rw[hb.resolve_left hn] at this;exact this
 have HA:=Lib.hid ha;clear hBa hca ha h;go_enter Tryz.func51,Tryz.ntmps51
 go_wp2_with fail
 go_region_held3 (fun W=>W.cell? ⟨A.core,5,none⟩=some (.pointer (some ⟨A.hosts,0,none⟩))∧W.cell? ⟨w.heap.size,0,none⟩=some (.int .i64 n)) (exact⟨by assumption,by assumption⟩)
  (first | (go_at_call 84;refine hth.mono ?_;rintro e w3 ⟨rfl,rfl⟩))
 go_wp2_with fail
 go_ret
 exact⟨rfl,HA.out.drewN _⟩
theorem fail_good(s:St)(N:Nat)(hI:Inv s N none_)(hN:N < 4095)(hL:s.boxes.length≤997000000)(hout:s.out.isSome=true)(A:Adr)(w0:World)(F0:Nat→Prop)(n:Nat)(hn:n < 32)(ht:(s.hosts n).th=true)(w:World)(h:Rs w0 F0 w s A):
  Calls Tryz.prog 51 #[.pointer (some ⟨A.core,0,none⟩),.int .i64 n] w fun e w'=>e=.returned (.int .i64 0)∧Rx w0 F0 w' (failS s n).1 A s.boxes.length:=by
 rw[failS_eq s n hn ht];obtain⟨wa,hwa⟩:∃ wa,w.alloc (.cells #[.int .i64 n] 3)=wa:=⟨_,rfl⟩;have hBa:Below w.heap.size w wa:=by subst hwa;exact(Below.refl _ w).alloc (Nat.le_refl _) _
 have hza:wa.heap.size=w.heap.size+1:=by subst hwa;simp
 have hca:wa.heap[w.heap.size]?=some (.cells #[.int .i64 n] 3 (0,0)):=by subst hwa;exact heap_alloc_new _ _
 have ca:wa.cell? ⟨w.heap.size,0,none⟩=some (.int .i64 n):=(cell_of hca).trans rfl;have ha:=h.below hBa;have c5:=ha.cc.2.2.2.2.2.1;have hth:Calls Tryz.prog 84 #[.pointer (some ⟨A.hosts,0,none⟩),.int .i64 n] wa.drew fun e w'=>e=.returned (.bool true)∧wa.drew=w':=by
  have:=P13.isThere_any A.hosts s.hosts n hn wa.drew ha.drew.1.hostsAt.1;rw[ht] at this;exact this
 have hw:∀ W,Below wa.heap.size wa W→Calls Tryz.prog 81 #[.pointer (some ⟨A.core,0,none⟩),.func (.func 85) #[] #[.pointer (some ⟨w.heap.size,0,none⟩)]] W fun e w'=>∃ v,e=.returned v∧ReadI w' W.heap.size v (onHost s n)∧Below W.heap.size W w':=fun W hB=>by
  have hS:=(ha.below hB).1;have hc:W.cell? ⟨w.heap.size,0,none⟩=some (.int .i64 n):=by rw[World.cell?_of_block (show W.heap[w.heap.size]?=wa.heap[w.heap.size]? from hB.block _ (by omega))];exact ca
  exact where_any s A _ (by omega) 85 #[.pointer (some ⟨w.heap.size,0,none⟩)] (bp s fun b=>b.host == (n:Int)) eg85 W hS
   (asks_of hS hc (by have:=hB.size;omega) fun i x W _ hq hc=>host85_any _ x _ n W hq hc)
 have HA:=Lib.hid (And.intro hBa (And.intro hza (And.intro ha h)));have HI:=Lib.hid hI;have ca0:=Lib.hid ca;clear hBa hca ha h hI hza;go_enter Tryz.func51,Tryz.ntmps51
 go_wp2_with fail
 go_region_held3 (fun W=>W.cell? ⟨A.core,5,none⟩=some (.pointer (some ⟨A.hosts,0,none⟩))∧W.cell? ⟨w.heap.size,0,none⟩=some (.int .i64 n)) (exact⟨by assumption,by assumption⟩)
  (first | (go_at_call 84;refine hth.mono ?_;rintro e w3 ⟨rfl,rfl⟩))
 clear hth c5 ca;go_wp2_with fail
 refine(hw _ (Below.refl _ _).drew).mono ?_;clear hw;rintro e we ⟨v,rfl,hrd,hBe⟩;obtain⟨a,cap,rfl,-⟩:=hrd.any;have hBw:Below w.heap.size w we:=HA.out.1.trans (((Below.refl wa.heap.size wa).drew.mono (by have:=HA.out.2.1;omega)).trans (hBe.mono (by have:=HA.out.2.1;show w.heap.size≤wa.heap.size;omega)));have hce:we.cell? ⟨w.heap.size,0,none⟩=some (.int .i64 n):=by
  rw[World.cell?_of_block (show we.heap[w.heap.size]?=wa.heap[w.heap.size]? from hBe.block _ (by have:=HA.out.2.1;show w.heap.size < wa.heap.size;omega))];exact ca0.out
 have hlt0:w.heap.size < we.heap.size:=by have:=hBe.size;have:=HA.out.2.1;have:wa.heap.size≤we.heap.size:=hBe.size;omega
 have hrd:ReadI we w.heap.size (.slice a (onHost s n).length cap) (onHost s n):=by
  rcases hrd with e|⟨g,cap',e1,e2,e3,e4⟩
  ·exact .inl e
  ·exact .inr ⟨g,cap',e1,e2,by have:=HA.out.2.1;have:wa.heap.size≤g:=e3;omega,e4⟩
 have hlen:=onHost_len s n;have HW:=Lib.hid (And.intro hBw (And.intro hce (And.intro hlt0 hrd)));clear hBw hce hlt0 hrd hBe;obtain⟨len,hlq⟩:∃ len,(onHost s n).length=len:=⟨_,rfl⟩;rw[hlq] at hlen ⊢;go_wp2_with fail
 go_loopw [18] (fun x wr=>∃ (j:Nat) (cac:Nat→Nat),x=.int .i64 j∧j≤len∧Rs we (fun x=>Grow F0 w0 w x∧x < w.heap.size) wr (after goneI s (onHost s n) j) { A with cac:=cac }) (fun x _=>len - (intOf x).toNat)
 case atStart=>exact⟨0,A.cac,rfl,by omega,Rs.fresh HA.out.2.2.2 HW.out.1⟩
 case round=>
  obtain⟨j,cac,rfl,hj,hR⟩:=hrel;rename World=>W0
  by_cases hlt:j < len
  ·have j1:(j:Int) < len:=by omega
   have hrd:ReadI W0 w.heap.size (.slice a (onHost s n).length cap) (onHost s n):=HW.out.2.2.2.kept hR.2 (fun x hx hlt e=>by omega);rw[hlq] at hrd;have af:=after_inv (n:=n) goneI goneI_inv HI.out hout j (by omega);obtain⟨i,x,hid,hi,hx,hst,-,hlv⟩:=af.turn HI.out (by omega);obtain⟨g,cap2,hsl,hn⟩:∃ g cap2,Value.slice a len cap=.slice (some ⟨g,0,none⟩) len cap2∧W0.cell? ⟨g,j,none⟩=some (.int .i64 ((i:Int)+1)):=by
    rcases hrd with ⟨-,e⟩|⟨g,cap2,e1,-,-,-,e5⟩
    ·rw[e] at hlq
     have:len=0:=hlq.symm;omega
    ·refine⟨g,cap2,by rw[hlq] at e1;exact e1,?_⟩
     have:=(e5 j (by omega)).1;simp only[hid] at this;exact this
   simp only[Value.slice.injEq,true_and] at hsl;obtain⟨rfl,rfl⟩:=hsl;have hlk:=hR.1.look_box ((i:Int)+1) (WalkArith.wf_i64 (by omega)) (some (A.box i)) (by unfold mBox;rw[if_pos ⟨by omega,by rw[af.len];omega,hlv⟩,show ((i:Int)+1).toNat - 1=i by omega];rfl);simp only[pv] at hlk;have c7:=hR.cc.2.2.2.2.2.2.2.1;dsimp only at c7 hlk;have hgo:=gone_any (after goneI s (onHost s n) j) N af.inv.low { A with cac:=cac } we (fun x=>Grow F0 w0 w x∧x < w.heap.size) i (by omega) x hx hst W0 hR;have hgi:goneI (after goneI s (onHost s n) j) ((i:Int)+1)=goneS (after goneI s (onHost s n) j) i:=by unfold goneI;rw[show ((i:Int)+1).toNat - 1=i by omega]
   have HG:=Lib.hid (And.intro hid hgi);clear hR hrd af hid hx hst hlv hgi;dsimp only at hgo;go_wp2_with (go_at_call 86;refine hgo.mono ?_;rintro e wn ⟨rfl,cac2,hR2⟩)
   go_roundw
   case rel=>
    obtain⟨hid,hgi⟩:=HG.out;refine⟨j+1,cac2,by go_num,by omega,?_⟩;rw[after_succ goneI s _ j (by omega),hid,hgi];exact hR2
   case measure=>simp[intOf];omega
  ·have j1:¬ (j:Int) < len:=by omega
   have hjl:j=len:=by omega
   rw[hjl] at hR;have af:=after_inv (n:=n) goneI goneI_inv HI.out hout len (by omega);have hz:=gone_mem (n:=n) HI.out hout;rw[hlq] at hz;obtain⟨t,htq⟩:∃ t,after goneI s (onHost s n) len=t:=⟨_,rfl⟩;rw[htq] at hR af hz;have HT:=Lib.hid htq;have hi2:=failH_inv af.inv hn hz;have c5:=hR.cc.2.2.2.2.2.1;dsimp only at c5;have ct:W0.cell? ⟨w.heap.size,0,none⟩=some (.int .i64 n):=by
    rw[World.cell?_of_block (show W0.heap[w.heap.size]?=we.heap[w.heap.size]? from hR.2.block _ HW.out.2.2.1 (fun e=>by omega))];exact HW.out.2.1
   have hfa:=failH_rs hR.drew n hn;dsimp only at hfa;have hkp:=fun W h=>keepAll_any (failH t n) N hi2 hN (by show t.boxes.length≤_;rw[af.len];exact hL) af.out { A with cac:=cac } we (fun x=>Grow F0 w0 w x∧x < w.heap.size) W h;dsimp only at hkp;have hfl:(failH t n).boxes.length=s.boxes.length:=af.len;rw[hfl] at hkp;clear hR af hz hi2 htq hjl hfl;go_wp2_with fail
   go_region_held3 (fun W=>W.cell? ⟨A.core,5,none⟩=some (.pointer (some ⟨A.hosts,0,none⟩))∧W.cell? ⟨w.heap.size,0,none⟩=some (.int .i64 n)) (exact⟨by assumption,by assumption⟩)
    (first | (go_at_call 87;refine hfa.mono ?_;rintro e w5 ⟨⟨v,rfl⟩,h5⟩;have d5:=h5.cc.2.2.2.2.2.1;dsimp only at d5;have dt:w5.cell? ⟨w.heap.size,0,none⟩=some (.int .i64 n):=by rw[World.cell?_of_block (show w5.heap[w.heap.size]?=we.heap[w.heap.size]? from h5.2.block _ HW.out.2.2.1 (fun e=>by omega))];exact HW.out.2.1))
   go_wp2_with fail
   refine(hkp _ h5).mono ?_;rintro e w6 ⟨rfl,h6⟩;go_wp2_with fail
   go_ret
   have e:=HT.out;rw[← e,← hlq] at h6;obtain⟨cac3,box3,hb3,h6⟩:=h6;exact⟨rfl,cac3,box3,hb3,Rs.nest HA.out.2.2.2.2 HW.out.1 h6 (fun x hx=>hx.1)⟩
theorem eg82:∀ args w,(callFunc 82 args).run Tryz.prog w=.ok (.enter 82 args) w:=by intro args w;rfl
def drainH(s:St)(n:Nat):St:={ s with hosts:=P13.put s.hosts n (P13.swept { s.hosts n with dr:=true }) }
theorem drainH_inv{s:St}{N n:Nat}(h:Inv s N none_)(hn:n < 32):Inv (drainH s n) N none_:=by
 obtain⟨h1,h2⟩:=h.host n hn;unfold drainH;refine h.hostset_ hn _ ?_ ?_
 ·unfold P13.swept
  split
  ·exact⟨by decide,fun _=>rfl,fun e=>by cases e⟩
  ·rename_i hc
   refine⟨h1.us,fun e=>?_,fun _=>?_⟩
   ·exfalso
    have:=h1.out e;refine hc ⟨rfl,?_⟩;show (s.hosts n).us=0;rw[this]
   ·have:=h1.us.1
    show 0 < (s.hosts n).us;have:(s.hosts n).us≠0:=fun e=>hc ⟨rfl,e⟩;omega
 ·rw[← h2]
  unfold P13.swept;split
  ·rename_i hc
   exact hc.2.symm
  ·rfl
theorem drainS_far(s:St)(n:Nat)(hb:32≤n∨(s.hosts n).th=false):drainS s n=(s,2):=by
 unfold drainS;rw[if_pos];rw[Int.toNat_natCast];rcases hb with e|e
 ·left;omega
 ·exact .inr e
theorem drainS_dr(s:St)(n:Nat)(hn:n < 32)(ht:(s.hosts n).th=true)(hd:(s.hosts n).dr=true):drainS s n=(s,3):=by
 unfold drainS;rw[if_neg (fun e=>by
             rcases e with e|e;· omega
             ·rw[Int.toNat_natCast,ht] at e;cases e),if_pos (by rw[Int.toNat_natCast];exact hd)]
theorem drainS_eq(s:St)(n:Nat)(hn:n < 32)(ht:(s.hosts n).th=true)(hd:(s.hosts n).dr=false):drainS s n=(keepAllS (after drain1 (drainH s n) (onHost (drainH s n) n) (onHost (drainH s n) n).length),0):=by
 unfold drainS;rw[if_neg (fun e=>by
             rcases e with e|e;· omega
             ·rw[Int.toNat_natCast,ht] at e;cases e),if_neg (by rw[Int.toNat_natCast,hd];exact Bool.false_ne_true)]
 rw[after_all];simp only[Int.toNat_natCast];rfl
theorem Inv.drain_{s:St}{N n:Nat}(h:Inv s N none_)(ho:s.out.isSome=true)(hL:s.boxes.length≤997000000):Inv (drainS s n).1 N none_∧(drainS s n).1.out.isSome=true∧(drainS s n).1.now=s.now∧(drainS s n).1.tok=s.tok∧s.boxes.length≤(drainS s n).1.boxes.length∧(drainS s n).1.boxes.length≤s.boxes.length+64000:=by
 by_cases hb:32≤n∨(s.hosts n).th=false
 ·rw[drainS_far s n hb]
  exact⟨h,ho,rfl,rfl,Nat.le_refl _,Nat.le_add_right _ _⟩
 ·have hn:n < 32:=by omega
  have ht:(s.hosts n).th=true:=by
   cases e:(s.hosts n).th
   ·exact absurd (.inr e) hb
   ·rfl
  cases hd:(s.hosts n).dr
  ·rw[drainS_eq s n hn ht hd]
   have a:=after_inv (n:=n) drain1 drain1_inv (drainH_inv h hn) ho _ (Nat.le_refl _);obtain⟨k1,k2,k3,k4⟩:=a.inv.keepAll_ a.out (by rw[a.len];exact hL);have hl:(after drain1 (drainH s n) (onHost (drainH s n) n) (onHost (drainH s n) n).length).boxes.length=s.boxes.length:=a.len;exact⟨k1,k2.out,k2.now.trans a.now,k2.tok.trans a.tok,by show s.boxes.length≤(keepAllS _).boxes.length;omega,by show (keepAllS _).boxes.length≤_;omega⟩
  ·rw[drainS_dr s n hn ht hd]
   exact⟨h,ho,rfl,rfl,Nat.le_refl _,Nat.le_add_right _ _⟩
theorem drain_bad(s:St)(A:Adr)(w0:World)(F0:Nat→Prop)(n:Nat)(hb:32≤n∨(s.hosts n).th=false∨(s.hosts n).dr=true)(w:World)(h:Rs w0 F0 w s A):
  Calls Tryz.prog 50 #[.pointer (some ⟨A.core,0,none⟩),.int .i64 n] w fun e w'=>e=.returned (.int .i64 (drainS s n).2)∧Rs w0 F0 w' (drainS s n).1 A:=by
 obtain⟨wa,hwa⟩:∃ wa,w.alloc (.cells #[.int .i64 n] 3)=wa:=⟨_,rfl⟩;have hBa:Below w.heap.size w wa:=by subst hwa;exact(Below.refl _ w).alloc (Nat.le_refl _) _
 have hca:wa.heap[w.heap.size]?=some (.cells #[.int .i64 n] 3 (0,0)):=by subst hwa;exact heap_alloc_new _ _
 have ca:wa.cell? ⟨w.heap.size,0,none⟩=some (.int .i64 n):=(cell_of hca).trans rfl;have ha:=h.below hBa;have c5:=ha.cc.2.2.2.2.2.1;obtain⟨r,hr,hr2,hth⟩:∃ r:Nat,drainS s n=(s,r)∧¬ ((r:Int)=0)∧Calls Tryz.prog 80 #[.pointer (some ⟨A.hosts,0,none⟩),.int .i64 n] wa.drew fun e w'=>e=.returned (.int .i64 r)∧wa.drew=w':=by
  by_cases hn:32≤n
  ·exact⟨2,drainS_far s n (.inl hn),by decide,P13.drain_far A.hosts n hn wa.drew⟩
  ·have hn:n < 32:=by omega
   cases ht:(s.hosts n).th
   ·exact⟨2,drainS_far s n (.inr ht),by decide,P13.drain_none A.hosts s.hosts n hn ht wa.drew ha.drew.1.hostsAt.1⟩
   ·have hd:(s.hosts n).dr=true:=by
     rcases hb with e|e|e
     ·omega
     ·rw[ht] at e;cases e
     ·exact e
    exact⟨3,drainS_dr s n hn ht hd,by decide,P13.drain_dr A.hosts s.hosts n hn ht hd wa.drew ha.drew.1.hostsAt.1⟩
 rw[hr];have HA:=Lib.hid ha;clear hBa hca ha h hr;go_enter Tryz.func50,Tryz.ntmps50
 go_wp2_with fail
 go_region_held3 (fun W=>W.cell? ⟨A.core,5,none⟩=some (.pointer (some ⟨A.hosts,0,none⟩))∧W.cell? ⟨w.heap.size,0,none⟩=some (.int .i64 n)) (exact⟨by assumption,by assumption⟩)
  (first | (go_at_call 80;refine hth.mono ?_;rintro e w3 ⟨rfl,rfl⟩))
 go_wp2_with fail
 go_ret
 exact⟨rfl,HA.out.drewN _⟩
theorem drainH_rs{w0 w:World}{F0:Nat→Prop}{s:St}{A:Adr}(h:Rs w0 F0 w s A)(k:Nat)(hk:k < 32)(ht:(s.hosts k).th=true)(hd:(s.hosts k).dr=false):
  Calls Tryz.prog 80 #[.pointer (some ⟨A.hosts,0,none⟩),.int .i64 k] w fun e w'=>e=.returned (.int .i64 0)∧Rs w0 F0 w' (drainH s k) A:=by
 obtain⟨hq,hnx⟩:=h.1.hostsTurn;refine(P13.drain_any A.hosts s.hosts k hk ht hd w hq).mono ?_;rintro e w' ⟨rfl,h1,h2⟩;obtain⟨h3,h4⟩:=hnx w' _ h1 h2;exact⟨rfl,h.next h3 h4⟩
theorem drain_good(s:St)(N:Nat)(hI:Inv s N none_)(hN:N < 4095)(hL:s.boxes.length≤997000000)(hout:s.out.isSome=true)(A:Adr)(w0:World)(F0:Nat→Prop)(n:Nat)(hn:n < 32)(ht:(s.hosts n).th=true)(hd:(s.hosts n).dr=false)(w:World)(h:Rs w0 F0 w s A):
  Calls Tryz.prog 50 #[.pointer (some ⟨A.core,0,none⟩),.int .i64 n] w fun e w'=>e=.returned (.int .i64 0)∧Rx w0 F0 w' (drainS s n).1 A s.boxes.length:=by
 rw[drainS_eq s n hn ht hd];obtain⟨wa,hwa⟩:∃ wa,w.alloc (.cells #[.int .i64 n] 3)=wa:=⟨_,rfl⟩;have hBa:Below w.heap.size w wa:=by subst hwa;exact(Below.refl _ w).alloc (Nat.le_refl _) _
 have hza:wa.heap.size=w.heap.size+1:=by subst hwa;simp
 have hca:wa.heap[w.heap.size]?=some (.cells #[.int .i64 n] 3 (0,0)):=by subst hwa;exact heap_alloc_new _ _
 have ca:wa.cell? ⟨w.heap.size,0,none⟩=some (.int .i64 n):=(cell_of hca).trans rfl;have ha:=h.fresh hBa;have c5:=ha.cc.2.2.2.2.2.1;have hdr:=drainH_rs ha.drew n hn ht hd;have hi1:=drainH_inv hI hn;obtain⟨s1,hs1⟩:∃ s1,drainH s n=s1:=⟨_,rfl⟩;have ho1:s1.out.isSome=true:=by rw[← hs1];exact hout
 have hl1:s1.boxes.length=s.boxes.length:=by rw[← hs1];rfl
 rw[hs1] at hdr hi1 ⊢;have hw:∀ W,Rs wa (fun x=>Grow F0 w0 w x∧x < w.heap.size) W s1 A→Calls Tryz.prog 81 #[.pointer (some ⟨A.core,0,none⟩),.func (.func 82) #[] #[.pointer (some ⟨w.heap.size,0,none⟩)]] W fun e w'=>∃ v,e=.returned v∧ReadI w' W.heap.size v (onHost s1 n)∧Below W.heap.size W w':=fun W hR=>by
  have hc:W.cell? ⟨w.heap.size,0,none⟩=some (.int .i64 n):=by rw[World.cell?_of_block (show W.heap[w.heap.size]?=wa.heap[w.heap.size]? from hR.2.block _ (by omega) (fun e=>by omega))];exact ca
  exact where_any s1 A _ (by omega) 82 #[.pointer (some ⟨w.heap.size,0,none⟩)] (bp s1 fun b=>b.host == (n:Int)) eg82 W hR.1
   (asks_of hR.1 hc (by have:=hR.2.size;omega) fun i x W _ hq hc=>host82_any _ x _ n W hq hc)
 have HA:=Lib.hid (And.intro hBa h);have HI:=Lib.hid hi1;have HZ:=Lib.hid hza;clear hBa hca ha h hI hza hi1;go_enter Tryz.func50,Tryz.ntmps50
 go_wp2_with fail
 go_region_held3 (fun W=>W.cell? ⟨A.core,5,none⟩=some (.pointer (some ⟨A.hosts,0,none⟩))∧W.cell? ⟨w.heap.size,0,none⟩=some (.int .i64 n)) (exact⟨by assumption,by assumption⟩)
  (first | (go_at_call 80;refine hdr.mono ?_;rintro e w3 ⟨rfl,h3⟩;have d5:=h3.cc.2.2.2.2.2.1;have dt:w3.cell? ⟨w.heap.size,0,none⟩=some (.int .i64 n):=by rw[World.cell?_of_block (show w3.heap[w.heap.size]?=wa.heap[w.heap.size]? from h3.2.block _ (by have:=HZ.out;omega) (fun e=>by omega))];exact ca))
 have hw:=hw _ h3;clear hdr c5 ca d5 dt;go_wp2_with fail
 refine hw.mono ?_;clear hw;rintro e we ⟨v,rfl,hrd,hBe⟩;obtain⟨a,cap,rfl,-⟩:=hrd.any;have hlen:=onHost_len s1 n;have HW:=Lib.hid (And.intro hBe (And.intro hrd h3));clear hBe hrd h3;obtain⟨len,hlq⟩:∃ len,(onHost s1 n).length=len:=⟨_,rfl⟩;rw[hlq] at hlen ⊢;go_wp2_with fail
 go_loopw [22] (fun x wr=>∃ (j:Nat) (cac:Nat→Nat),x=.int .i64 j∧j≤len∧Rs we (fun x=>Grow (fun x=>Grow F0 w0 w x∧x < w.heap.size) wa w3 x∧x < w3.heap.size) wr (after drain1 s1 (onHost s1 n) j) { A with cac:=cac }) (fun x _=>len - (intOf x).toNat)
 case atStart=>exact⟨0,A.cac,rfl,by omega,Rs.fresh HW.out.2.2 HW.out.1⟩
 case round=>
  obtain⟨j,cac,rfl,hj,hR⟩:=hrel;rename World=>W0
  by_cases hlt:j < len
  ·have j1:(j:Int) < len:=by omega
   have hrd:ReadI W0 w3.heap.size (.slice a (onHost s1 n).length cap) (onHost s1 n):=HW.out.2.1.kept hR.2 (fun x hx hlt e=>by omega);rw[hlq] at hrd;have af:=after_inv (n:=n) drain1 drain1_inv HI.out ho1 j (by omega);obtain⟨i,x,hid,hi,hx,hst,-,hlv⟩:=af.turn HI.out (by omega);obtain⟨g,cap2,hsl,hn⟩:∃ g cap2,Value.slice a len cap=.slice (some ⟨g,0,none⟩) len cap2∧W0.cell? ⟨g,j,none⟩=some (.int .i64 ((i:Int)+1)):=by
    rcases hrd with ⟨-,e⟩|⟨g,cap2,e1,-,-,-,e5⟩
    ·rw[e] at hlq
     have:len=0:=hlq.symm;omega
    ·refine⟨g,cap2,by rw[hlq] at e1;exact e1,?_⟩
     have:=(e5 j (by omega)).1;simp only[hid] at this;exact this
   simp only[Value.slice.injEq,true_and] at hsl;obtain⟨rfl,rfl⟩:=hsl;obtain⟨t,htq⟩:∃ t,after drain1 s1 (onHost s1 n) j=t:=⟨_,rfl⟩;rw[htq] at hR af hx hlv;have hlk:=hR.1.look_box ((i:Int)+1) (WalkArith.wf_i64 (by omega)) (some (A.box i)) (by unfold mBox;rw[if_pos ⟨by omega,by rw[af.len];omega,hlv⟩,show ((i:Int)+1).toNat - 1=i by omega];rfl);simp only[pv] at hlk;have c7:=hR.cc.2.2.2.2.2.2.2.1;dsimp only at c7 hlk;have hru:=runs_rs hR i x hx (af.inv.box i x hx).st;dsimp only at hru;have hdq:drain1 t ((i:Int)+1)=if P12.runs x=true then pinB t i false else killS t i:=by
    unfold drain1;rw[show ((i:Int)+1).toNat - 1=i by omega];have:runsB t i=P12.runs x:=by unfold runsB;rw[hx]
    rw[this]
   have HG:=Lib.hid (And.intro hid (And.intro hdq (And.intro af (And.intro hx (And.intro hst htq)))));clear hR hrd af hid hlv hdq htq;cases hr:P12.runs x
   ·rw[hr] at hru
    go_wp2_with fail
    refine hru.mono ?_;clear hru;rintro e w4 ⟨rfl,h4⟩;obtain⟨hid,hdq,af,hx,hst,htq⟩:=HG.out;rw[hr] at hdq;have hki:=kill_any t N af.inv.low _ (out_some af.out) (out_len af.inv (by rw[af.len];omega)) { A with cac:=cac } we _ i (by omega) x hx hst w4 h4;dsimp only at hki;have HG2:=Lib.hid (And.intro hid (And.intro hdq htq));clear hid hdq af htq h4;go_wp2_with fail
    refine hki.mono ?_;clear hki;rintro e w5 ⟨rfl,cac2,hR2⟩;go_wp2_with fail
    go_roundw
    case rel=>
     obtain⟨hid,hdq,htq⟩:=HG2.out;refine⟨j+1,cac2,by go_num,by omega,?_⟩;rw[after_succ drain1 s1 _ j (by omega),hid,htq,hdq];exact hR2
    case measure=>simp[intOf];omega
   ·rw[hr] at hru
    go_wp2_with fail
    refine hru.mono ?_;clear hru;rintro e w4 ⟨rfl,h4⟩;obtain⟨hid,hdq,af,hx,hst,htq⟩:=HG.out;rw[hr] at hdq;have hbq:=h4.bq hx;obtain⟨-,-,-,-,-,-,c6,-⟩:=hbq.cells;have f6:=hbq.frozen 6;dsimp only at c6 f6;have h5:=pinB_rs h4 i x hx false;dsimp only at h5;have HG2:=Lib.hid (And.intro hid (And.intro hdq (And.intro htq h5)));clear hid hdq af htq h4 hbq h5;go_wp2_with fail
    go_roundw
    case rel=>
     obtain⟨hid,hdq,htq,h5⟩:=HG2.out;refine⟨j+1,cac,by go_num,by omega,?_⟩;rw[after_succ drain1 s1 _ j (by omega),hid,htq,hdq];exact h5
    case measure=>simp[intOf];omega
  ·have j1:¬ (j:Int) < len:=by omega
   have hjl:j=len:=by omega
   rw[hjl] at hR;have af:=after_inv (n:=n) drain1 drain1_inv HI.out ho1 len (by omega);obtain⟨t,htq⟩:∃ t,after drain1 s1 (onHost s1 n) len=t:=⟨_,rfl⟩;rw[htq] at hR af;have HT:=Lib.hid htq;have hkp:=keepAll_any t N af.inv hN (by rw[af.len,hl1];exact hL) af.out { A with cac:=cac } we _ W0 hR;dsimp only at hkp;rw[af.len,hl1] at hkp;clear hR af htq hjl;go_wp2_with fail
   refine hkp.mono ?_;rintro e w6 ⟨rfl,h6⟩;go_wp2_with fail
   go_ret
   have e:=HT.out;rw[← e,← hlq] at h6;obtain⟨cac3,box3,hb3,h6⟩:=h6;exact⟨rfl,cac3,box3,hb3,Rs.nest HA.out.2.2 HA.out.1 (Rs.nest HW.out.2.2.2 HW.out.1 h6 (fun x hx=>hx.1)) (fun x hx=>hx.1)⟩
end Go.Proofs.YtigeldkbfbcpmaaGreat
