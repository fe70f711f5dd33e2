/- The walk of WholeRoom: the body of the law's function, step by step, returns true. -/
import Derived.BigRegion
import Derived.Deep.CutRange
import Derived.Test.YtigeldkbfbcpmaaGreatM44
import Derived.Test.YtigeldkbfbcpmaaGreatM25
import Derived.Test.YtigeldkbfbcpmaaGreatM01
import Derived.Test.YtigeldkbfbcpmaaGreatM30
import Derived.Test.YtigeldkbfbcpmaaGreatM29
import Derived.Test.YtigeldkbfbcpmaaGreatM41
import Derived.Test.YtigeldkbfbcpmaaGreatM19
import Derived.Test.YtigeldkbfbcpmaaGreatM27
import Derived.Test.YtigeldkbfbcpmaaGreatM31
set_option linter.unusedVariables false
set_option linter.unusedSectionVars false
set_option linter.unusedSimpArgs false
set_option maxRecDepth 100000
set_option maxHeartbeats 8000000
namespace Go.Kpt
theorem i64_and255(n:Int):bits .and .i64 n 255=n % 256:=i64_mask 8 (by omega) n
end Go.Kpt
namespace Go.Proofs.YtigeldkbfbcpmaaGreat.P16
open Go.RowKit Go.Kpt WirePure
theorem ecells_length(l:List Evt):(ecells l).length=l.length*10:=by
 induction l with
 | nil=>rfl
 | cons f l ih=>rw[ecells_cons,List.length_append,ih,List.length_cons,show (evc f).toList.length=10 from rfl];omega
section
variable {w w':World} {base:Nat} {v:Value} {l:List Evt}
end
end Go.Proofs.YtigeldkbfbcpmaaGreat.P16
namespace Go.Proofs.YtigeldkbfbcpmaaGreat
open Go.RowKit Go.Kpt
theorem busy21_any{w:World}{c:Nat}{s:St}{F:Nat→Prop}(h:Cr w c s F)(f:Nat)(hf:f < 64)(ht:(s.quo.fs f).th=true):
  Calls Tryz.prog 21 #[.pointer (some ⟨c,0,none⟩),.int .i64 f] w fun e w'=>e=.returned (.int .i64 (s.quo.fs f).bu)∧w'=w:=by
 obtain⟨A,rfl,hS,-⟩:=h;obtain⟨ov,hc,-⟩:=hS.core;have c2:w.cell? ⟨A.core,2,none⟩=some (.pointer (some ⟨A.quo,0,none⟩)):=(cell_of hc).trans rfl;obtain⟨own,hO,-⟩:=hS;have hq:=(hO.at_ .quo).2;have hb:=P11.busy_any A.quo s.quo f hf (fun e=>by rw[ht] at e;cases e) w hq;go_enter Tryz.func21,Tryz.ntmps21
 go_wp2_with fail
 refine hb.mono ?_;rintro e w' ⟨rfl,rfl⟩;go_wp2_with fail
 go_ret
 exact⟨rfl,rfl⟩
theorem free22_any{w:World}{c:Nat}{s:St}{N:Nat}{F:Nat→Prop}(h:Cr w c s F)(hI:Inv s N none_)(f:Nat)(hf:f < 32):
  Calls Tryz.prog 22 #[.pointer (some ⟨c,0,none⟩),.int .i64 f] w fun e w'=>e=.returned (.int .i64 (P13.free (s.hosts f)))∧∃ m,w'=w.drewN m:=by
 obtain⟨A,rfl,hS,-⟩:=h;obtain⟨ov,hc,-⟩:=hS.core;have c5:w.cell? ⟨A.core,5,none⟩=some (.pointer (some ⟨A.hosts,0,none⟩)):=(cell_of hc).trans rfl;obtain⟨own,hO,-⟩:=hS;have hq:=(hO.at_ .hosts).2;have hb:=P13.free_any A.hosts s.hosts f hf (hI.host f hf).1.us w hq;go_enter Tryz.func22,Tryz.ntmps22
 go_wp2_with fail
 refine hb.mono ?_;rintro e w' ⟨rfl,m,rfl⟩;go_wp2_with fail
 go_ret
 exact⟨rfl,m,rfl⟩
def boxesOf(s:St):List P12.Bx:=(ids s).map fun id=>s.boxes.getD (id.toNat - 1) ⟨0,0,0,0,0,false,false,0⟩
def bcells(l:List P12.Bx):List Value:=l.flatMap fun x=>(P12.bc x).toList
def evOf(f:Nat→Int):P16.Evt:=fun j=>f j.val
def evsOf(z:List (Nat→Int)):List P16.Evt:=z.map evOf
structure R15 (w:World) (b o:Nat) (x:Stp) (va:Option Addr) (vc:Nat):Prop where
 c0:w.cell? ⟨b,o,none⟩=some (.int .i64 (x.1 0))
 c1:w.cell? ⟨b,o+1,none⟩=some (.int .i64 (x.1 1))
 c2:w.cell? ⟨b,o+2,none⟩=some (.int .i64 (x.1 2))
 c3:w.cell? ⟨b,o+3,none⟩=some (.int .i64 (x.1 3))
 c4:w.cell? ⟨b,o+4,none⟩=some (.int .i64 (x.1 4))
 c5:w.cell? ⟨b,o+5,none⟩=some (.int .i64 (x.1 5))
 c6:w.cell? ⟨b,o+6,none⟩=some (.int .i64 (x.1 6))
 c7:w.cell? ⟨b,o+7,none⟩=some (.int .i64 (x.1 7))
 c8:w.cell? ⟨b,o+8,none⟩=some (.int .i64 (x.1 8))
 c9:w.cell? ⟨b,o+9,none⟩=some (.int .i64 (x.1 9))
 c10:w.cell? ⟨b,o+10,none⟩=some (.int .i64 x.2.1.1)
 c11:w.cell? ⟨b,o+11,none⟩=some (.int .i64 x.2.1.2.1)
 c12:w.cell? ⟨b,o+12,none⟩=some (.int .i64 x.2.1.2.2.1)
 c13:w.cell? ⟨b,o+13,none⟩=some (.int .i64 x.2.1.2.2.2)
 c14:w.cell? ⟨b,o+14,none⟩=some (.slice va x.2.2.length vc)
theorem Steps.rows{w:World}{P:Nat→Prop}{v:Value}{l:List Stp}(h:Steps w P v l):∃ a cap,v=.slice a l.length cap∧l.length≤cap ∧
  ∀ i,i < l.length→∃ b va vc,a=some ⟨b,0,none⟩∧P b∧b < w.heap.size∧Cmds w P (.slice va (l.getD i nstp).2.2.length vc) (l.getD i nstp).2.2∧R15 w b (i*15) (l.getD i nstp) va vc:=by
 obtain⟨a,cap,rfl,hcap,hs⟩:=h.shape;refine⟨a,cap,rfl,hcap,fun i hi=>?_⟩;obtain⟨b,v',hb,hP,hc,hr⟩:=hs i hi;obtain⟨-,va,vc,rfl⟩:=hc.one;have r0:=hr 0 (by omega);exact⟨b,va,vc,hb,hP,h.lt b (by rw[hb];rfl),hc,hr 0 (by omega),hr 1 (by omega),hr 2 (by omega),hr 3 (by omega),hr 4 (by omega),hr 5 (by omega),hr 6 (by omega),hr 7 (by omega),hr 8 (by omega),hr 9 (by omega),hr 10 (by omega),hr 11 (by omega),hr 12 (by omega),hr 13 (by omega),hr 14 (by omega)⟩
def c15(x:Stp)(va:Option Addr)(vc:Nat):Array Value:=#[.int .i64 (x.1 0),.int .i64 (x.1 1),.int .i64 (x.1 2),.int .i64 (x.1 3),.int .i64 (x.1 4),.int .i64 (x.1 5),.int .i64 (x.1 6),.int .i64 (x.1 7),.int .i64 (x.1 8),.int .i64 (x.1 9),.int .i64 x.2.1.1,.int .i64 x.2.1.2.1,.int .i64 x.2.1.2.2.1,.int .i64 x.2.1.2.2.2,.slice va x.2.2.length vc]
def QSame(q r:P11.Lg):Prop:=r.ac=q.ac∧∀ f,(r.fs f).th=(q.fs f).th∧(r.fs f).acc=(q.fs f).acc∧(r.fs f).res=(q.fs f).res
def FSame(c d:Nat→Option Fnc):Prop:=∀ f y,d f=some y→∃ x,c f=some x∧y.account=x.account∧y.mem=x.mem∧y.keep=x.keep∧y.cost=x.cost
structure Tba (s t:St):Prop where
 tok:t.tok=s.tok
 now:t.now=s.now
 acc:FSame s.fns t.fns
 quo:QSame s.quo t.quo
theorem bcells_snoc(l:List P12.Bx)(x:P12.Bx):bcells (l++[x])=bcells l++(P12.bc x).toList:=by simp[bcells]
theorem bcells_get(l:List P12.Bx):∀ (i j:Nat) (x:P12.Bx),l[i]?=some x→j < 8→(bcells l)[i*8+j]?=(P12.bc x)[j]?:=by
 induction l with
 | nil=>intro i j x h;simp at h
 | cons a l ih=>
  intro i j x h hj;have e:bcells (a :: l)=(P12.bc a).toList++bcells l:=rfl;have ha:(P12.bc a).toList.length=8:=rfl;cases i with
  | zero=>
   simp at h;subst h;rw[e,List.getElem?_append_left (by omega)];simp
  | succ i=>
   rw[e,List.getElem?_append_right (by rw[ha];omega),ha,show (i+1)*8+j - 8=i*8+j by omega];exact ih i j x (by simpa using h) hj
def OwnB(w:World)(base:Nat)(v:Value)(l:List P12.Bx):Prop:=w.ownsRow base 70 8 v l.length (bcells l)
def nbx:P12.Bx:=⟨0,0,0,0,0,false,false,0⟩
theorem OwnB.shape{w:World}{base:Nat}{v:Value}{l:List P12.Bx}(h:OwnB w base v l):∃ a cap,v=.slice a l.length cap∧l.length≤cap ∧
  ∀ i,i < l.length→∃ b,a=some ⟨b,0,none⟩∧base≤b∧b < w.heap.size∧w.cell? ⟨b,i*8,none⟩=some (.int .i64 (l.getD i nbx).id)∧w.cell? ⟨b,i*8+1,none⟩=some (.int .i64 (l.getD i nbx).fn)∧w.cell? ⟨b,i*8+2,none⟩=some (.int .i64 (l.getD i nbx).host)∧w.cell? ⟨b,i*8+3,none⟩=some (.int .i64 (l.getD i nbx).mem) ∧
   w.cell? ⟨b,i*8+4,none⟩=some (.int .i64 (l.getD i nbx).st)∧w.cell? ⟨b,i*8+5,none⟩=some (.bool (l.getD i nbx).bound)∧w.cell? ⟨b,i*8+6,none⟩=some (.bool (l.getD i nbx).pin)∧w.cell? ⟨b,i*8+7,none⟩=some (.int .i64 (l.getD i nbx).since):=by
 rcases h.2 with ⟨h1,h2⟩|⟨g,cap,cur,rfl,hb,hg,hl,hm,hs,ht⟩
 ·subst h1
  exact⟨none,0,by rw[h2],by omega,fun i hi=>by omega⟩
 ·refine⟨_,cap,rfl,hl,fun i hi=>?_⟩
  have hx:l[i]?=some l[i]:=List.getElem?_eq_getElem hi;have e:l.getD i nbx=l[i]:=by simp[List.getD_eq_getElem?_getD,hi]
  have key:∀ j,j < 8→w.cell? ⟨g,i*8+j,none⟩=(P12.bc l[i])[j]?:=fun j hj=>by
   rw[cell_of hg,← bcells_get l i j _ hx hj,← ht,List.getElem?_take,if_pos (by omega)];simp
  rw[e];exact⟨g,rfl,hb,lt_of hg,key 0 (by omega),key 1 (by omega),key 2 (by omega),key 3 (by omega),key 4 (by omega),key 5 (by omega),key 6 (by omega),key 7 (by omega)⟩
theorem info70:(Tryz.prog.info? 70).map (fun i=>(i.zero,i.size,i.bytes))=some (some (.agg #[.int .i64 0,.int .i64 0,.int .i64 0,.int .i64 0,.int .i64 0,.bool false,.bool false,.int .i64 0]),8,56):=by kernel_rfl
theorem boxesOf_len(s:St):(boxesOf s).length=(ids s).length:=by simp[boxesOf]
theorem boxesOf_next(s:St)(i:Nat)(h:i < (ids s).length):(boxesOf s).take (i+1)=(boxesOf s).take i++[s.boxes.getD (((ids s).getD i 0).toNat - 1) nbx]:=by
 rw[P16.take_snoc (boxesOf s) i (by rw[boxesOf_len];exact h) nbx];congr 2
 unfold boxesOf;have e:(ids s).getD i 0=(ids s)[i]:=by simp[List.getD_eq_getElem?_getD,h]
 rw[e,List.getD_eq_getElem?_getD,List.getElem?_map,List.getElem?_eq_getElem h];rfl
theorem boxes_any{w:World}{c:Nat}{s:St}{F:Nat→Prop}(h:Cr w c s F)(hN:s.boxes.length≤900000000):
  Calls Tryz.prog 19 #[.pointer (some ⟨c,0,none⟩)] w fun e w'=>∃ v,e=.returned v∧OwnB w' w.heap.size v (boxesOf s)∧Below w.heap.size w w':=by
 obtain⟨A,rfl,hS,hF⟩:=h;have hids:=ids_any s A F (by omega) w hS;have hil:=ids_len s;obtain⟨i0,hi0,iz0,iz1,iz2⟩:=info_parts info70;simp only[ptr] at hids;go_enter Tryz.func19,Tryz.ntmps19
 go_wp2_with fail
 refine hids.mono ?_;clear hids;rintro e w1 ⟨v,rfl,hv,hB1⟩;have hS1:=hS.below hB1;have hz1:=hB1.size;obtain⟨a,cap,rfl,hcap,-,hsl⟩:=hv.sl;obtain⟨n,hn⟩:∃ n,(ids s).length=n:=⟨_,rfl⟩;rw[hn] at hil hcap ⊢;have hnil:OwnB w1 w1.heap.size (.slice none 0 0) ((boxesOf s).take 0):=World.ownsRow_nil w1 w1.heap.size 70 8;clear hv;go_wp2_with fail
 go_loopw [3,9] (fun v k wr=>∃ i:Nat,k=.int .i64 i∧i≤n∧OwnB wr w1.heap.size v ((boxesOf s).take i)∧Kept (fun x=>w1.heap.size≤x) w1 wr) (fun _ k _=>n - (intOf k).toNat)
 case atStart=>exact⟨0,rfl,by omega,hnil,Kept.refl _ _⟩
 case round=>
  obtain⟨i,rfl,hi,hv,hK⟩:=hrel;clear hnil;by_cases hin:i < n
  ·have hS2:Sys wr s A F:=hS1.kept hK (fun x hx h=>by have:=hF x hx;omega)
   obtain⟨ov,hc,-⟩:=hS2.core;have c7:wr.cell? ⟨A.core,7,none⟩=some (.map (some A.boxM)):=(cell_of hc).trans rfl;obtain⟨b,off,rfl,hb,y0⟩:=(hsl.kept hK (fun x hx h=>by omega)) i (by omega);have hmem:(ids s).getD i 0 ∈ ids s:=P16.getD_mem _ _ (by omega) _;have hsome:=(ids_mem s A _).1 hmem;have hnx:=boxesOf_next s i (by omega);generalize (ids s).getD i 0=id at *;unfold mBox at hsome;split at hsome
   ·rename_i hc3
    obtain⟨j,hj⟩:∃ j:Nat,id=(j:Int)+1:=⟨id.toNat - 1,by omega⟩;subst hj;have hjl:j < s.boxes.length:=by omega
    have hlk:=hS2.look_box ((j:Int)+1) (WalkArith.wf_i64 (by omega)) (some (A.box j)) (by unfold mBox;rw[if_pos hc3,show ((j:Int)+1).toNat - 1=j by omega];rfl);have hx:s.boxes[j]?=some s.boxes[j]:=List.getElem?_eq_getElem hjl;have hge:s.boxes.getD (((j:Int)+1).toNat - 1) nbx=s.boxes[j]:=by rw[show ((j:Int)+1).toNat - 1=j by omega];simp[List.getD_eq_getElem?_getD,hjl]
    rw[hge] at hnx;obtain⟨own,hO,-⟩:=hS2;have hq:=(hO.at_ (.box j) _ hx).2;generalize s.boxes[j]=x at *;obtain⟨z0,z1,z2,z3,z4,z5,z6,z7⟩:=hq.cells;have hA:(wr.alloc (.cells (P12.bc x) 70)).heap[wr.heap.size]?=some (.cells (P12.bc x) 70 (0,0)):=heap_alloc_new _ _;have hv1:OwnB (wr.alloc (.cells (P12.bc x) 70)) w1.heap.size u3 ((boxesOf s).take i):=World.ownsRow.alloc hv _;have hK1:=hK.alloc (.cells (P12.bc x) 70);have hlt:=(boxesOf s).length_take (i:=i);rw[boxesOf_len] at hlt;have hzw:w1.heap.size≤(wr.alloc (.cells (P12.bc x) 70)).heap.size:=hK1.size;obtain⟨wa,hwa⟩:∃ wa,wr.alloc (.cells (P12.bc x) 70)=wa:=⟨_,rfl⟩;rw[hwa] at hA hv1 hK1 hzw;have hone:∀ u ∈ (P12.bc x).toList,u.oneCell'=true:=by intro u hu;simp[P12.bc] at hu;rcases hu with rfl|rfl|rfl|rfl|rfl|rfl|rfl|rfl <;> rfl
    have HA:=Lib.hid hA;simp only[P12.bc] at hwa;simp only[pv] at hlk;clear hq hO hS1 hc hx hge hA hv hK hmem;go_wp2_with (at_builtin;go_loud (
     refine wpList_append_own_at wa rfl _ _ 66 rfl w1.heap.size 70 i0 _ 8 56 Tryz.underlying66 hi0 iz0 iz1 iz2 rfl (by omega) u3 ((boxesOf s).take i).length (bcells ((boxesOf s).take i)) rfl hv1 ⟨wr.heap.size,0,none⟩ 1 1 (P12.bc x).toList rfl rfl (fun j u hj=>by
      have hplain:(⟨wr.heap.size,0,none⟩:Addr).add j=⟨wr.heap.size,j,none⟩:=by unfold Addr.add;split <;> simp_all
      rw[hplain];exact(cell_of HA.out).trans (by simpa using hj)) hone (by unfold maxLen;omega) (by omega) hzw ?_
     intro v4 w4 h1 h2 _ h4;have hv4:OwnB w4 w1.heap.size v4 ((boxesOf s).take (i+1)):=by
      unfold OwnB;rw[hnx,bcells_snoc,List.length_append];exact h1
     have hK4:Kept (fun x=>w1.heap.size≤x) w1 w4:=hK1.trans (Kept.of_grown h2) (fun x _ h=>(World.ownsRow.lt hv1 x h.symm).1);clear h1 h2 h4 hv1 hK1 hwa))
    exact⟨⟨i+1,rfl,by omega,hv4,hK4⟩,by simp[intOf];omega⟩
   ·cases hsome
  ·obtain rfl:i=n:=by omega
   rw[List.take_of_length_le (by rw[boxesOf_len];omega)] at hv;have hBr:Below w.heap.size w wr:=hB1.trans (hK.below hz1 (fun x hx h=>by omega));go_wp2_with fail
   go_returns
   refine⟨_,rfl,⟨hv.1,?_⟩,hBr⟩;rcases hv.2 with h1|⟨g,cap,cur,h0,hb',hr⟩
   ·exact .inl h1
   ·exact .inr ⟨g,cap,cur,h0,by omega,hr⟩
def bump(l:List Int):List Int:=l.set (l.length - 1) (l.getD (l.length - 1) 0+1)
def tick0(cs:List Int)(k:Int):List Int:=if k=0 then cs++[0] else cs
def cold1(cs:List Int)(x:Stp):List Int:=if x.2.1.1=3 then bump (tick0 cs (x.1 0)) else tick0 cs (x.1 0)
def coldsOf(l:List Stp):List Int:=l.foldl cold1 [0]
def from_(cs:List Int)(i:Nat):Int:=(cs.drop i).sum
structure TokI (size refill:Int) (cs:List Int) (t:Int):Prop where
 len:0 < cs.length
 t0:0≤t∧t≤size
 sums:∀ i,i < cs.length→from_ cs i+t≤size+refill*((cs.length:Int) - 1 - i)
 done:∀ i w,i+w+1 < cs.length→((cs.drop i).take (w+1)).sum≤size+refill*w
structure TokS (s:St) (size refill t:Int):Prop where
 tok:s.tok 0=some ⟨size,refill,t⟩
 acc:∀ f x,s.fns f=some x→x.account=0
def accE(limit size refill:Int):P16.Evt:=fun j=>if j=0 then 1 else if j=2 then limit else if j=3 then size else if j=4 then refill else 0
theorem accE_right{limit size refill:Int}(h:0≤limit∧limit≤1000)(h1:0≤size∧size≤1000)(h2:0≤refill∧refill≤1000):P16.right (accE limit size refill):=by
 refine⟨⟨(by decide:(0:Int)≤1),(by decide:(1:Int)≤9)⟩,?_,?_⟩
 ·intro j hj
  have:P16.parts (accE limit size refill 0)=[1,2,3,4]:=rfl;rw[this] at hj;simp only[List.mem_cons,List.not_mem_nil,or_false] at hj;rcases hj with rfl|rfl|rfl|rfl
  ·exact⟨(by decide:(0:Int)≤0),(by decide:(0:Int)≤2147483647)⟩
  ·exact⟨h.1,by show limit≤_;omega⟩
  ·exact⟨h1.1,by show size≤_;omega⟩
  ·exact⟨h2.1,by show refill≤_;omega⟩
 ·intro j
  revert j
  have:P16.parts (accE limit size refill 0)=[1,2,3,4]:=rfl;rw[this];intro j;rcases j with ⟨j,hj⟩
  match j,hj with
  | 0,_=>exact .inl rfl
  | 1,_=>exact .inr (.inl (show (1:Fin 10) ∈ ([1,2,3,4]:List (Fin 10)) by decide))
  | 2,_=>exact .inr (.inl (show (2:Fin 10) ∈ ([1,2,3,4]:List (Fin 10)) by decide))
  | 3,_=>exact .inr (.inl (show (3:Fin 10) ∈ ([1,2,3,4]:List (Fin 10)) by decide))
  | 4,_=>exact .inr (.inl (show (4:Fin 10) ∈ ([1,2,3,4]:List (Fin 10)) by decide))
  | 5,_=>exact .inr (.inr rfl)
  | 6,_=>exact .inr (.inr rfl)
  | 7,_=>exact .inr (.inr rfl)
  | 8,_=>exact .inr (.inr rfl)
  | 9,_=>exact .inr (.inr rfl)
theorem rs_l0(a:Nat):∀ k,P11.rs P11.l0.fs a k=0:=by
 intro k
 induction k with
 | zero=>rfl
 | succ k ih=>unfold P11.rs;rw[ih];rfl
theorem bnd_id{x:Int}(h:0≤x∧x≤1000):P10.bnd x=x:=by unfold P10.bnd;split <;> (try split) <;> omega
theorem acc_first{limit size refill:Int}(h:0≤limit∧limit≤1000)(h1:0≤size∧size≤1000)(h2:0≤refill∧refill≤1000):
  (doS s0 (accE limit size refill)).2.1=(0,0,0,0)∧(doS s0 (accE limit size refill)).1={ s0 with quo:=P11.l0.setA 0 ⟨true,limit⟩,tok:=tset s0.tok 0 ⟨size,refill,size⟩,out:=none,ans:=(doS s0 (accE limit size refill)).1.ans }:=by
 have hr:=accE_right h h1 h2;unfold doS;rw[if_pos hr];have e1:actS { s0 with out:=some [] } (accE limit size refill)=ansOf (accountS { s0 with out:=some [] } (accE limit size refill)):=by
  unfold actS;have hk:accE limit size refill 0=1:=rfl;rw[hk,if_neg (by decide),if_pos rfl]
 have e2:accountS { s0 with out:=some [] } (accE limit size refill)=(accT { s0 with out:=some [] } (accE limit size refill),0):=by
  refine accountS_yes ?_ ?_
  ·show ¬ (size > 1000∨refill > 1000∨(0:Int)≥16∨limit > 1000)
   omega
  ·show ¬ limit < P11.rs P11.l0.fs 0 64
   rw[rs_l0];omega
 rw[e1,e2];refine⟨rfl,?_⟩;have e3:newTok { s0 with out:=some [] } (accE limit size refill)=⟨size,refill,size⟩:=by
  show (⟨P10.bnd size,P10.bnd refill,P10.bnd size⟩:Bkt)=_;rw[bnd_id h1,bnd_id h2]
 show ({ s0 with quo:=_,tok:=tset s0.tok 0 (newTok { s0 with out:=some [] } (accE limit size refill)),out:=none,ans:=_ }:St)=_;rw[e3];rfl
end Go.Proofs.YtigeldkbfbcpmaaGreat
namespace Go.Proofs.YtigeldkbfbcpmaaGreat
open Go.RowKit Go.Kpt HeapPure
def ev1(k n:Int):P16.Evt:=fun j=>if j=0 then k else if j=1 then n else 0
def hostE(n size:Int):P16.Evt:=fun j=>if j=0 then 3 else if j=1 then n else if j=3 then size else 0
def funE(n mem cost res:Int):P16.Evt:=fun j=>if j=0 then 2 else if j=1 then n else if j=6 then mem else if j=7 then cost else if j=8 then res else 0
theorem ev1_right{k n:Int}(hk:k=0∧n=0∨(4≤k∧k≤9))(hn:0≤n∧n≤2147483647):P16.right (ev1 k n):=by
 have e0:ev1 k n 0=k:=rfl;refine⟨by rw[e0];omega,?_,?_⟩
 ·intro j hj
  rw[e0] at hj;rcases P16.parts_cases k with ⟨h,e⟩|⟨h,e⟩|⟨h,e⟩|⟨h,e⟩|⟨h,e⟩
  ·omega
  ·omega
  ·omega
  ·rw[e,List.mem_singleton] at hj;subst hj;exact hn
  ·rw[e] at hj;cases hj
 ·rw[e0]
  intro j;rcases P16.parts_cases k with ⟨h,e⟩|⟨h,e⟩|⟨h,e⟩|⟨h,e⟩|⟨h,e⟩
  ·omega
  ·omega
  ·omega
  ·rw[e]
   exact P16.fin10 (P:=fun j=>j=0∨j ∈ ([1]:List (Fin 10))∨ev1 k n j=0) j (.inl rfl) (.inr (.inl (by decide))) (.inr (.inr rfl)) (.inr (.inr rfl)) (.inr (.inr rfl)) (.inr (.inr rfl)) (.inr (.inr rfl)) (.inr (.inr rfl)) (.inr (.inr rfl)) (.inr (.inr rfl))
  ·have hn0:n=0:=by omega
   subst hn0;exact P16.fin10 (P:=fun j=>j=0∨j ∈ P16.parts k∨ev1 k 0 j=0) j (.inl rfl) (.inr (.inr rfl)) (.inr (.inr rfl)) (.inr (.inr rfl)) (.inr (.inr rfl)) (.inr (.inr rfl)) (.inr (.inr rfl)) (.inr (.inr rfl)) (.inr (.inr rfl)) (.inr (.inr rfl))
theorem hostE_right{n size:Int}(hn:0≤n∧n≤2147483647)(hs:0≤size∧size≤2147483647):P16.right (hostE n size):=by
 have e0:hostE n size 0=3:=rfl;have e1:P16.parts (hostE n size 0)=[1,3]:=rfl;refine⟨by rw[e0];omega,?_,?_⟩
 ·intro j hj
  rw[e1] at hj;simp only[List.mem_cons,List.not_mem_nil,or_false] at hj;rcases hj with rfl|rfl
  ·exact hn
  ·exact hs
 ·rw[e1]
  intro j;exact P16.fin10 (P:=fun j=>j=0∨j ∈ ([1,3]:List (Fin 10))∨hostE n size j=0) j (.inl rfl) (.inr (.inl (by decide))) (.inr (.inr rfl)) (.inr (.inl (by decide))) (.inr (.inr rfl)) (.inr (.inr rfl)) (.inr (.inr rfl)) (.inr (.inr rfl)) (.inr (.inr rfl)) (.inr (.inr rfl))
theorem funE_right{n mem cost res:Int}(hn:0≤n∧n≤2147483647)(hm:0≤mem∧mem≤2147483647)(hc:0≤cost∧cost≤2147483647)(hr:0≤res∧res≤2147483647):P16.right (funE n mem cost res):=by
 have e0:funE n mem cost res 0=2:=rfl;have e1:P16.parts (funE n mem cost res 0)=[1,5,6,7,8,9]:=rfl;refine⟨by rw[e0];omega,?_,?_⟩
 ·intro j hj
  rw[e1] at hj;simp only[List.mem_cons,List.not_mem_nil,or_false] at hj;rcases hj with rfl|rfl|rfl|rfl|rfl|rfl
  ·exact hn
  ·exact⟨(by decide:(0:Int)≤0),(by decide:(0:Int)≤2147483647)⟩
  ·exact hm
  ·exact hc
  ·exact hr
  ·exact⟨(by decide:(0:Int)≤0),(by decide:(0:Int)≤2147483647)⟩
 ·rw[e1]
  intro j;exact P16.fin10 (P:=fun j=>j=0∨j ∈ ([1,5,6,7,8,9]:List (Fin 10))∨funE n mem cost res j=0) j (.inl rfl) (.inr (.inl (by decide))) (.inr (.inr rfl)) (.inr (.inr rfl)) (.inr (.inr rfl)) (.inr (.inl (by decide))) (.inr (.inl (by decide))) (.inr (.inl (by decide))) (.inr (.inl (by decide))) (.inr (.inl (by decide)))
def go0(s:St)(e:P16.Evt):St×Ans:=actS { s with out:=some [] } e
theorem doS_go{s:St}{e:P16.Evt}(h:P16.right e):(doS s e).2.1=(go0 s e).2∧(doS s e).2.2=outl (go0 s e).1∧∃ a,(doS s e).1={ (go0 s e).1 with out:=none,ans:=a }:=by
 unfold doS;rw[if_pos h];exact⟨rfl,rfl,_,rfl⟩
theorem pinned_nil{s:St}(f:Nat)(hp:∀ (i:Nat) (x:P12.Bx),s.boxes[i]?=some x→x.pin=false):pinnedL s f=[]:=by
 unfold pinnedL;refine List.filter_eq_nil_iff.2 fun a _=>?_;unfold bp;split
 ·rename_i b hb
  dsimp only;rw[hp _ b hb];simp
 ·simp
theorem keep_none{s:St}(f:Nat)(hk:∀ x,s.fns f=some x→x.keep=0)(hp:∀ (i:Nat) (x:P12.Bx),s.boxes[i]?=some x→x.pin=false):keepS f s=s:=by
 unfold keepS;cases h:s.fns f with
 | none=>rfl
 | some x=>
  dsimp only;rw[pinned_nil f hp,hk x h];show pinUp f (0 - (pinnedL s f).length) s=s;rw[Nat.zero_sub];rfl
theorem keepAll_none{s:St}(hk:∀ f x,s.fns f=some x→x.keep=0)(hp:∀ (i:Nat) (x:P12.Bx),s.boxes[i]?=some x→x.pin=false):keepAllS s=s:=by
 unfold keepAllS;have:∀ l:List Int,l.foldl (fun s f=>keepS f.toNat s) s=s:=by
  intro l
  induction l with
  | nil=>rfl
  | cons a l ih=>rw[List.foldl_cons,keep_none a.toNat (hk _) hp];exact ih
 exact this _
theorem bp_nil{s:St}{p:P12.Bx→Bool}(h:∀ (i:Nat) (x:P12.Bx),s.boxes[i]?=some x→p x=false):(ids s).filter (bp s p)=[]:=by
 refine List.filter_eq_nil_iff.2 fun a _=>?_;unfold bp;split
 ·rename_i b hb
  rw[h _ b hb];exact Bool.noConfusion
 ·exact Bool.noConfusion
theorem free_nil{s:St}(n:Int)(h:∀ (i:Nat) (x:P12.Bx),s.boxes[i]?=some x→(x.fn == n && P12.idle x)=false):freeOf s n=none:=by
 unfold freeOf;rw[bp_nil h];rfl
theorem roomFrom_nil{s:St}{mem:Int}(h:∀ k,¬ (upH s.hosts k=true∧mem≤freeAll s k)):∀ n k,roomFrom mem n k s=(s,none):=by
 intro n
 induction n with
 | zero=>intro k;rfl
 | succ n ih=>
  intro k;unfold roomFrom;rw[if_neg (h k)];exact ih (k+1)
def noHost:Nat→P13.Ma:=fun _=>⟨false,false,0,0⟩
theorem fit_one(k:Nat)(hk:k < 32)(sz us mem:Int):P13.fitK (P13.put noHost k ⟨true,false,sz,us⟩) mem 32=if mem≤sz - us then some k else none:=by
 have hput:∀ j,P13.put noHost k ⟨true,false,sz,us⟩ j=if j=k then ⟨true,false,sz,us⟩ else ⟨false,false,0,0⟩:=fun j=>rfl
 have hfr:P13.free (P13.put noHost k ⟨true,false,sz,us⟩ k)=sz - us:=by rw[hput,if_pos rfl];rfl
 cases h:P13.fitK (P13.put noHost k ⟨true,false,sz,us⟩) mem 32 with
 | none=>
  have:=P13.fitK_none _ _ 32 h k hk (by rw[hput,if_pos rfl];rfl);rw[hfr] at this;rw[if_neg (by omega)]
 | some b=>
  obtain⟨h1,h2,-⟩:=P13.fitK_some _ _ 32 b h;have hb:b=k:=by
   by_cases e:b=k
   ·exact e
   ·rw[hput,if_neg e] at h1;cases h1
  subst hb;rw[hfr] at h2;rw[if_pos h2]
def oneQ(lim bu:Int):P11.Lg:=(P11.l0.setA 0 ⟨true,lim⟩).setF 0 ⟨true,0,0,bu⟩
theorem oneQ_0(lim bu:Int):(oneQ lim bu).fs 0=⟨true,0,0,bu⟩:=rfl
theorem oneQ_lim(lim bu:Int):((oneQ lim bu).ac 0).lim=lim:=rfl
theorem oneQ_o(lim bu:Int){f:Nat}(h:f≠0):(oneQ lim bu).fs f=⟨false,0,0,0⟩:=by
 unfold oneQ P11.Lg.setF P11.put;dsimp only;rw[if_neg h];rfl
theorem oneQ_bs(lim bu:Int):∀ k,0 < k→P11.bs (oneQ lim bu).fs 0 k=bu∧P11.rs (oneQ lim bu).fs 0 k=0∧P11.os (oneQ lim bu).fs 0 k=bu:=by
 intro k
 induction k with
 | zero=>intro h;omega
 | succ k ih=>
  intro _;rcases Nat.eq_zero_or_pos k with h|h
  ·subst h
   refine⟨?_,?_,?_⟩
   ·unfold P11.bs P11.bs;rw[oneQ_0];simp
   ·unfold P11.rs P11.rs;rw[oneQ_0];simp
   ·unfold P11.os P11.os;rw[oneQ_0];simp
  ·obtain⟨a,b,c⟩:=ih h
   have ho:=oneQ_o lim bu (f:=k) (by omega);refine⟨?_,?_,?_⟩
   ·unfold P11.bs;rw[ho,a];simp
   ·unfold P11.rs;rw[ho,b];simp
   ·unfold P11.os;rw[ho,c];simp
theorem oneQ_ask(lim bu:Int)(h:bu < lim):P11.askR (oneQ lim bu) 0=0:=by
 obtain⟨a,b,c⟩:=oneQ_bs lim bu 64 (by omega);unfold P11.askR;rw[oneQ_0];dsimp only;rw[oneQ_lim,a,b,c,if_neg (by omega),if_neg (by omega),if_neg (by omega)]
theorem oneQ_put(lim bu x:Int):(oneQ lim bu).setF 0 { (oneQ lim bu).fs 0 with bu:=x }=oneQ lim x:=by
 show (⟨_,P11.put (P11.put _ 0 _) 0 _⟩:P11.Lg)=⟨_,P11.put _ 0 _⟩;rw[P11.put_put];rfl
theorem oneQ_beg(lim bu:Int)(h:bu < lim):begQ (oneQ lim bu) 0=oneQ lim (bu+1):=by
 unfold begQ;rw[if_pos ⟨rfl,oneQ_ask lim bu h⟩,oneQ_put];rfl
theorem oneQ_end(lim bu:Int)(h:bu≠0):endQ (oneQ lim bu) 0=oneQ lim (bu - 1):=by
 unfold endQ;rw[if_pos ⟨rfl,h⟩,oneQ_put];rfl
structure Three (s:St) (limit size mem:Int) (k:Nat) (hsz:Int):Prop where
 now:s.now=0
 next:s.next=1
 quo:s.quo=oneQ limit 0
 tok:s.tok 0=some ⟨size,0,size⟩
 fn:s.fns=fset (fun _=>none) 0 ⟨0,mem.toNat,1,0,0,-1,0,h0,[]⟩
 hosts:s.hosts=P13.put noHost k ⟨true,false,hsz,0⟩
 boxes:s.boxes=[]
 tim:s.tim=[]
 cac:s.cac=fun _=>none
 unt:s.unt=fun _=>none
 out:s.out=none
theorem three_is(limit size mem hsz:Int)(k:Nat)(hk:k < 32)(h1:0≤limit∧limit≤1000)(h2:0≤size∧size≤1000)(h3:1≤mem∧mem≤4096)(h4:1≤hsz∧hsz≤4096):
  Three (evs s0 [accE limit size 0,hostE k hsz,funE 0 mem 1 0]).1 limit size mem k hsz:=by
 obtain⟨-,a2⟩:=acc_first h1 h2 (refill:=0) (by omega);obtain⟨s1,hs1⟩:∃ s,(doS s0 (accE limit size 0)).1=s:=⟨_,rfl⟩;rw[hs1] at a2;obtain⟨-,-,x2,hx2⟩:=doS_go (s:=s1) (hostE_right (n:=k) (size:=hsz) (by omega) (by omega));have e2:go0 s1 (hostE k hsz)=(hostT { s1 with out:=some [] } (hostE k hsz),(0,0,0,0)):=by
  unfold go0 actS;have hk0:hostE k hsz 0=3:=rfl;rw[hk0,if_neg (by decide),if_neg (by decide),if_neg (by decide),if_pos rfl];rw[hostS_yes]
  ·rw[keepAll_none]
   ·rfl
   ·intro f x hx
    have hx':s1.fns f=some x:=hx;rw[a2] at hx';cases hx'
   ·intro i x hx
    have hx':s1.boxes[i]?=some x:=hx;rw[a2] at hx';simp[s0] at hx'
  ·show ¬ ((k:Int)≥32∨hsz < 1∨hsz > 4096)
   omega
  ·show ¬ (s1.hosts _).th=true
   rw[a2];exact Bool.noConfusion
 obtain⟨s2,hs2⟩:∃ s,(doS s1 (hostE k hsz)).1=s:=⟨_,rfl⟩;rw[hs2,e2] at hx2;have hh2:s2.hosts=P13.put noHost k ⟨true,false,hsz,0⟩:=by
  rw[hx2];show P13.put s1.hosts ((k:Int).toNat) ⟨true,false,hsz,0⟩=_;rw[a2,Int.toNat_natCast];rfl
 have hq2:s2.quo=P11.l0.setA 0 ⟨true,limit⟩:=by rw[hx2];show s1.quo=_;rw[a2]
 have ht2:s2.tok=tset s0.tok 0 ⟨size,0,size⟩:=by rw[hx2];show s1.tok=_;rw[a2]
 have hf2:s2.fns=fun _=>none:=by rw[hx2];show s1.fns=_;rw[a2];rfl
 have hb2:s2.boxes=[]:=by rw[hx2];show s1.boxes=_;rw[a2];rfl
 have hc2:s2.cac=fun _=>none:=by
  rw[hx2];show (fun j=>if j=_ then none else s1.cac j)=_;rw[a2];funext j
  dsimp only;split <;> rfl
 have ho2:s2.now=0∧s2.next=1∧s2.tim=[]∧s2.unt=fun _=>none:=by
  rw[hx2];refine⟨?_,?_,?_,?_⟩
  ·show s1.now=_;rw[a2];rfl
  ·show s1.next=_;rw[a2];rfl
  ·show s1.tim=_;rw[a2];rfl
  ·show s1.unt=_;rw[a2];rfl
 obtain⟨-,-,x3,hx3⟩:=doS_go (s:=s2) (funE_right (n:=0) (mem:=mem) (cost:=1) (res:=0) (by omega) (by omega) (by omega) (by omega));have e3:go0 s2 (funE 0 mem 1 0)=(funT { s2 with out:=some [] } (funE 0 mem 1 0),(0,0,0,0)):=by
  unfold go0 actS;have hk0:funE 0 mem 1 0 0=2:=rfl;rw[hk0,if_neg (by decide),if_neg (by decide),if_pos rfl];rw[functionS_eq];have c1:¬ funBad (funE 0 mem 1 0):=by
   show ¬ ((0:Int)≥64∨(0:Int)≥16∨(0:Int) > 1000∨(0:Int) > 1000∨mem < 1∨mem > 4096∨(1:Int) < 1∨(1:Int) > 1000);omega
  have c2:¬ ({ s2 with out:=some [] }:St).tok ((funE 0 mem 1 0) 5).toNat=none:=by
   show ¬ s2.tok 0=none;rw[ht2];show ¬ some _=none;exact fun h=>by cases h
  have c3:¬ clash { s2 with out:=some [] } (funE 0 mem 1 0)=true:=by
   unfold clash;show ¬ (match s2.fns 0 with | some x=>_ | none=>false)=true;rw[hf2];exact Bool.noConfusion
  have c4:¬ ((funE 0 mem 1 0) 8 > 0∧(funE 0 mem 1 0) 9 > (funE 0 mem 1 0) 8):=by
   show ¬ ((0:Int) > 0∧(0:Int) > 0);omega
  have c5:¬ funSum { s2 with out:=some [] } (funE 0 mem 1 0):=by
   unfold funSum;show ¬ P11.rs s2.quo.fs 0 64 - (s2.quo.fs 0).res+0 > (s2.quo.ac 0).lim;rw[hq2];show ¬ P11.rs P11.l0.fs 0 64 - 0+0 > limit;rw[rs_l0];omega
  rw[if_neg c1,if_neg c2,if_neg c3,if_neg c4,if_neg c5];have hkeep:keepS ((funE 0 mem 1 0) 1).toNat (funT { s2 with out:=some [] } (funE 0 mem 1 0))=funT { s2 with out:=some [] } (funE 0 mem 1 0):=by
   refine keep_none _ ?_ ?_
   ·intro x hx
    have hx':fset s2.fns 0 (newFn { s2 with out:=some [] } (funE 0 mem 1 0)) 0=some x:=hx;unfold fset at hx';rw[if_pos rfl] at hx';cases hx'
    unfold newFn;show (match s2.fns 0 with | some x=>_ | none=>_:Fnc).keep=0;rw[hf2];rfl
   ·intro i x hx
    have hx':s2.boxes[i]?=some x:=hx;rw[hb2] at hx';simp at hx'
  rw[hkeep];rfl
 rw[e3] at hx3;have hfin:(evs s0 [accE limit size 0,hostE k hsz,funE 0 mem 1 0]).1=(doS s2 (funE 0 mem 1 0)).1:=by
  simp only[evs,hs1,hs2]
 rw[hfin,hx3];refine⟨ho2.1,ho2.2.1,?_,?_,?_,hh2,hb2,ho2.2.2.1,hc2,ho2.2.2.2,rfl⟩
 ·show (s2.quo.setF 0 ⟨true,0,0,(s2.quo.fs 0).bu⟩)=_
  rw[hq2];rfl
 ·show s2.tok 0=_
  rw[ht2];rfl
 ·show fset s2.fns 0 (newFn { s2 with out:=some [] } (funE 0 mem 1 0))=_
  have:newFn { s2 with out:=some [] } (funE 0 mem 1 0)=⟨0,mem.toNat,1,0,0,-1,0,h0,[]⟩:=by
   unfold newFn;show (match s2.fns 0 with | some x=>_ | none=>_)=_;rw[hf2];rfl
  rw[this,hf2]
def boxA(mem:Int)(st:Nat)(bd:Bool)(j:Nat):P12.Bx:=⟨(j:Int)+1,0,7,mem,st,bd,false,0⟩
structure RmA (s:St) (size mem:Int) (i:Nat):Prop where
 now:s.now=0
 next:s.next=(i:Int)+1
 quo:s.quo=oneQ 1000 i
 tok:s.tok 0=some ⟨1000,0,1000 - i⟩
 fn:∃ o,s.fns=fset (fun _=>none) 0 ⟨0,mem.toNat,1,0,o,-1,0,h0,[]⟩
 hosts:s.hosts=P13.put noHost 7 ⟨true,false,size,i*mem⟩
 boxes:s.boxes=(List.range i).map (boxA mem 0 true)
 tim:s.tim=[]
 unt:s.unt=fun _=>none
theorem RmA.aside{s:St}{size mem:Int}{i:Nat}(h:RmA s size mem i)(o:Option (List Cmd))(a:Nat→Int):RmA { s with out:=o,ans:=a } size mem i:=
 ⟨h.now,h.next,h.quo,h.tok,h.fn,h.hosts,h.boxes,h.tim,h.unt⟩
theorem RmA.outs{s:St}{size mem:Int}{i:Nat}(h:RmA s size mem i)(o:Option (List Cmd)):RmA { s with out:=o } size mem i:=h.aside o s.ans
theorem rm_start{size mem:Int}(h3:1≤mem∧mem≤4096)(h4:1≤size∧size≤4096):RmA (evs s0 [accE 1000 1000 0,hostE (7:Nat) size,funE 0 mem 1 0]).1 size mem 0:=by
 have t:=three_is 1000 1000 mem size 7 (by omega) (by omega) (by omega) h3 h4;exact⟨t.now,t.next,t.quo,t.tok,⟨0,t.fn⟩,by rw[t.hosts];simp,t.boxes,t.tim,t.unt⟩
theorem map_get{mem:Int}{i j:Nat}{st:Nat}{bd:Bool}{x:P12.Bx}(h:((List.range i).map (boxA mem st bd))[j]?=some x):j < i∧x=boxA mem st bd j:=by
 rw[List.getElem?_map] at h;rcases Nat.lt_or_ge j i with hj|hj
 ·rw[List.getElem?_range hj] at h
  exact⟨hj,by cases h;rfl⟩
 ·rw[List.getElem?_eq_none (by simpa using hj)] at h;cases h
theorem up_one{k:Nat}{sz us:Int}{j:Nat}(h:upH (P13.put noHost k ⟨true,false,sz,us⟩) j=true):j=k:=by
 unfold upH P13.put at h;by_cases e:j=k
 ·exact e
 ·rw[if_neg e] at h;cases h
theorem range_snoc(mem:Int)(st st':Nat)(bd bd':Bool)(i:Nat):(((List.range i).map (boxA mem st bd))++[boxA mem st' bd' i]).set i (boxA mem st bd i)=(List.range (i+1)).map (boxA mem st bd):=by
 rw[List.range_succ,List.map_append,List.set_append_right _ _ (by simp)];simp
theorem RmA.call{u:St}{size mem:Int}{i:Nat}(h:RmA u size mem i)(hi:i < 1000)(hm:1≤mem∧mem≤4096):
  if ((i:Int)+1)*mem≤size then (callS u 0).2=(3,(i:Int)+1,0,0)∧RmA (callS u 0).1 size mem (i+1) else (callS u 0).2=(4,0,4,0)∧RmA (callS u 0).1 size mem i:=by
 obtain⟨o,hfn⟩:=h.fn;have hth:¬ ((0:Int)≥64∨(u.quo.fs (0:Int).toNat).th=false):=by
  rw[h.quo];show ¬ ((0:Int)≥64∨true=false);simp
 have hask:P11.askR u.quo (0:Int).toNat=0:=by rw[h.quo];exact oneQ_ask 1000 i (by omega)
 obtain⟨x,hx⟩:∃ x:Fnc,(⟨0,mem.toNat,1,0,o,-1,0,h0,[]⟩:Fnc)=x:=⟨_,rfl⟩;have hf0:u.fns (0:Int).toNat=some x:=by rw[hfn,← hx];rfl
 have hxm:(x.mem:Int)=mem:=by rw[← hx];show ((mem.toNat:Nat):Int)=mem;omega
 have hxa:x.account=0:=by rw[← hx]
 have hfr:freeOf u 0=none:=free_nil 0 (fun j b hb=>by
  rw[h.boxes] at hb;obtain⟨-,rfl⟩:=map_get hb;rfl)
 have htok:u.tok x.account=some ⟨1000,0,1000 - i⟩:=by rw[hxa];exact h.tok
 have ht0:((⟨1000,0,1000 - i⟩:Bkt).t)≠0:=by show (1000:Int) - i≠0;omega
 have hmul:((i:Int)+1)*mem=i*mem+mem:=by rw[Int.add_mul,Int.one_mul]
 have hfit:=fit_one 7 (by omega) size (i*mem) mem;rw[← h.hosts] at hfit;by_cases hc:((i:Int)+1)*mem≤size
 ·rw[if_pos hc]
  rw[if_pos (by omega)] at hfit;have hroom:roomS u x.mem=(u,some 7):=by unfold roomS;rw[hxm,hfit]
  have hr2:(roomS u x.mem).2=some 7:=by rw[hroom]
  have hcold:=callS_cold hth hask hf0 hfr htok ht0 hr2;have hT:coldT u x ⟨1000,0,1000 - i⟩={ u with tok:=tset u.tok 0 ⟨1000,0,1000 - i - 1⟩ }:=by
   unfold coldT;rw[hroom,hxa]
  rw[hT] at hcold;rw[hcold];refine⟨by show ((3:Int),u.next,(0:Int),(0:Int))=_;rw[h.next],?_⟩;have hst:startS { u with tok:=tset u.tok 0 ⟨1000,0,1000 - i - 1⟩ } (0:Int).toNat 7={ u with
    tok:=tset u.tok 0 ⟨1000,0,1000 - i - 1⟩
    hosts:=P13.put u.hosts 7 (P13.took (u.hosts 7) x.mem)
    boxes:=u.boxes++[⟨u.next,0,7,x.mem,0,false,false,u.now⟩]
    next:=u.next+1
    live:=fun j=>if j=u.next then true else u.live j
    out:=some (outl u++[⟨true,u.next,0,7⟩]) }:=by
   unfold startS;show (match u.fns (0:Int).toNat with | none=>_ | some x=>_)=_;rw[hf0];rfl
  obtain⟨V,hV⟩:∃ V:St,{ u with
    tok:=tset u.tok 0 ⟨1000,0,1000 - i - 1⟩
    hosts:=P13.put u.hosts 7 (P13.took (u.hosts 7) x.mem)
    boxes:=u.boxes++[⟨u.next,0,7,x.mem,0,false,false,u.now⟩]
    next:=u.next+1
    live:=fun j=>if j=u.next then true else u.live j
    out:=some (outl u++[⟨true,u.next,0,7⟩]) }=V:=⟨_,rfl⟩
  rw[hV] at hst;have hlen:({ u with tok:=tset u.tok 0 ⟨1000,0,1000 - i - 1⟩ }:St).boxes.length=i:=by show u.boxes.length=i;rw[h.boxes];simp
  rw[hst,hlen];have vf:V.fns 0=some x:=by rw[← hV];exact hf0
  have vb:V.boxes=(List.range i).map (boxA mem 0 true)++[boxA mem 0 false i]:=by
   rw[← hV];show u.boxes++[⟨u.next,0,7,x.mem,0,false,false,u.now⟩]=_;rw[h.boxes,h.next,hxm,h.now];rfl
  have vbi:V.boxes[i]?=some (boxA mem 0 false i):=by
   rw[vb,List.getElem?_append_right (by simp)];simp
  have vn:V.now=0:=by rw[← hV];exact h.now
  have vq:V.quo=oneQ 1000 i:=by rw[← hV];exact h.quo
  have vt:V.tim=[]:=by rw[← hV];exact h.tim
  have vfs:V.fns=fset (fun _=>none) 0 x:=by rw[← hV];show u.fns=_;rw[hfn,hx]
  have vh:V.hosts=P13.put noHost 7 ⟨true,false,size,((i+1:Nat):Int)*mem⟩:=by
   rw[← hV];show P13.put u.hosts 7 (P13.took (u.hosts 7) x.mem)=_;rw[h.hosts,P13.put_put,P13.put_same,hxm];unfold P13.took P13.mayTake;dsimp only;rw[if_pos (by simp;omega)];push_cast;rw[hmul]
  have vx:V.next=((i+1:Nat):Int)+1:=by rw[← hV];show u.next+1=_;rw[h.next];push_cast;rfl
  have vk:V.tok 0=some ⟨1000,0,1000 - ((i+1:Nat):Int)⟩:=by
   rw[← hV];show some _=_;congr 2
   push_cast;omega
  have vu:V.unt=fun _=>none:=by rw[← hV];exact h.unt
  have hbg:beginS V (0:Int).toNat i={ V with
    fns:=fset V.fns 0 { x with often:=min (x.often+1) 1000 }
    quo:=begQ V.quo 0
    cac:=cset V.cac 7 (HeapPure.drop P09.lt ((V.cac 7).getD ([],0)).1 ((i:Int)+1),((V.cac 7).getD ([],0)).2)
    tim:=HeapPure.drop P14.lt (HeapPure.drop P14.lt V.tim (1,(0:Nat))) (0,(i:Int)+1)
    boxes:=V.boxes.set i (boxA mem 0 true i) }:=by
   unfold beginS;show (match V.fns 0,V.boxes[i]? with | some x,some b=>_ | _,_=>_)=_;rw[vf,vbi];dsimp only;rw[takeS_eq];have hl:¬ ((V.quo.fs (0:Int).toNat).bu=0∧0≤x.last):=by rw[← hx];show ¬ (_∧(0:Int)≤-1);omega
   rw[if_neg hl];rfl
  rw[hbg];refine⟨vn,vx,?_,vk,⟨min (o+1) 1000,?_⟩,vh,?_,?_,vu⟩
  ·show begQ V.quo 0=_
   rw[vq,oneQ_beg _ _ (by omega)];push_cast;rfl
  ·show fset V.fns 0 _=_
   rw[vfs,← hx];funext k
   unfold fset;dsimp only;by_cases e:k=0
   ·rw[if_pos e,if_pos e]
   ·rw[if_neg e,if_neg e,if_neg e]
  ·show V.boxes.set i _=_
   rw[vb];exact range_snoc mem 0 0 true false i
  ·show HeapPure.drop P14.lt (HeapPure.drop P14.lt V.tim (1,(0:Nat))) (0,(i:Int)+1)=[]
   rw[vt];rfl
 ·rw[if_neg hc]
  rw[if_neg (by omega)] at hfit;have hroom:roomS u x.mem=(u,none):=by
   unfold roomS;rw[hxm,hfit];refine roomFrom_nil (fun k=>?_) 32 0;rintro⟨a,b⟩;rw[h.hosts] at a;have:=up_one a;subst this;unfold freeAll at b;rw[bp_nil (fun j y hy=>by
    rw[h.boxes] at hy;obtain⟨-,rfl⟩:=map_get hy;show ((7:Int) == _ && (0 == 1) && !false)=false;simp),h.hosts,P13.put_same] at b
   have b':mem≤(size - i*mem)+0:=b;omega
  have hr2:(roomS u x.mem).2=none:=by rw[hroom]
  rw[callS_room hth hask hf0 hfr htok ht0 hr2,hroom];exact⟨rfl,h⟩
theorem callE_right:P16.right (ev1 6 0):=ev1_right (.inr (by omega)) (by omega)
theorem RmA.do_{s:St}{size mem:Int}{i:Nat}(h:RmA s size mem i)(hi:i < 1000)(hm:1≤mem∧mem≤4096):
  if ((i:Int)+1)*mem≤size then (doS s (ev1 6 0)).2.1=(3,(i:Int)+1,0,0)∧RmA (doS s (ev1 6 0)).1 size mem (i+1) else (doS s (ev1 6 0)).2.1=(4,0,4,0)∧RmA (doS s (ev1 6 0)).1 size mem i:=by
 obtain⟨a1,-,x,a2⟩:=doS_go (s:=s) callE_right;have e:go0 s (ev1 6 0)=callS { s with out:=some [] } 0:=rfl;rw[a1,a2,e];have:=(h.outs (some [])).call hi hm;split
 ·rename_i hc
  rw[if_pos hc] at this;exact⟨this.1,this.2.aside _ _⟩
 ·rename_i hc
  rw[if_neg hc] at this;exact⟨this.1,this.2.aside _ _⟩
structure RmB (s:St) (size mem:Int) (n j:Nat) (mid:Bool):Prop where
 now:s.now=0
 quo:s.quo=oneQ 1000 ((n:Int) - j)
 fn:∃ o l,s.fns=fset (fun _=>none) 0 ⟨0,mem.toNat,1,0,o,l,0,h0,[]⟩
 hosts:s.hosts=P13.put noHost 7 ⟨true,false,size,n*mem⟩
 len:s.boxes.length=n
 box:∀ k x,s.boxes[k]?=some x→x=if k < j then boxA mem 1 false k else if k=j∧mid=true then boxA mem 2 false k else boxA mem 0 true k
 tim:∀ k t,Has s.tim k t→k.1=0∧t.at_=10
theorem RmB.aside{s:St}{size mem:Int}{n j:Nat}{mid:Bool}(h:RmB s size mem n j mid)(o:Option (List Cmd))(a:Nat→Int):RmB { s with out:=o,ans:=a } size mem n j mid:=
 ⟨h.now,h.quo,h.fn,h.hosts,h.len,h.box,h.tim⟩
theorem RmB.outs{s:St}{size mem:Int}{n j:Nat}{mid:Bool}(h:RmB s size mem n j mid)(o:Option (List Cmd)):RmB { s with out:=o } size mem n j mid:=h.aside o s.ans
theorem RmA.turn{s:St}{size mem:Int}{n:Nat}(h:RmA s size mem n):RmB s size mem n 0 false:=by
 obtain⟨o,hfn⟩:=h.fn;refine⟨h.now,by rw[h.quo];simp,⟨o,-1,hfn⟩,h.hosts,by rw[h.boxes];simp,fun k x hx=>?_,fun k t ht=>?_⟩
 ·rw[h.boxes] at hx
  obtain⟨-,rfl⟩:=map_get hx;rw[if_neg (by omega),if_neg (fun e=>by cases e.2)]
 ·rw[h.tim] at ht;exact absurd ht (not_has_nil _ _)
theorem win0:win h0 []=fixedW:=by
 unfold win;rw[if_pos (by decide)]
theorem inner{s:St}{N:Nat}(h:Inv s N none_):Inv { s with out:=some [] } N none_:=h.aside (some []) s.unt s.ans (by have:=(dead_bd s).1;show ((0:Nat):Int)≤_;omega)
theorem live_of{s:St}{N:Nat}(h:Inv s N none_){i:Nat}{x:P12.Bx}(hx:s.boxes[i]?=some x)(hl:x.st≠3):isLive s ((i:Int)+1)=true:=by
 have h1:=(h.box i x hx).live.2 hl;have h2:=get_lt hx;unfold isLive;rw[h1,decide_eq_true (by omega)];rfl
theorem RmB.at_{s:St}{size mem:Int}{n j:Nat}{mid:Bool}(h:RmB s size mem n j mid){k:Nat}(hk:k < n):s.boxes[k]?=some (if k < j then boxA mem 1 false k else if k=j∧mid=true then boxA mem 2 false k else boxA mem 0 true k):=by
 have hl:k < s.boxes.length:=by rw[h.len];exact hk
 have e:=List.getElem?_eq_getElem hl;rw[e,h.box k _ e]
theorem RmB.boot{u:St}{N:Nat}{size mem:Int}{n j:Nat}(h:RmB u size mem n j false)(hI:Inv u N none_)(hj:j < n):RmB (bootedS u ((j:Int)+1)).1 size mem n j true:=by
 have hx:u.boxes[j]?=some (boxA mem 0 true j):=by
  rw[h.at_ hj,if_neg (by omega),if_neg (fun e=>by cases e.2)]
 have hl:=live_of hI hx (show (0:Nat)≠3 by decide);have hb:(P12.booted (boxA mem 0 true j) u.now).2=true:=rfl;have hd:(P12.booted (boxA mem 0 true j) u.now).1=boxA mem 2 false j:=by rw[h.now];rfl
 rw[bootedS_yes hx hl hb];have hid:¬ (P12.idle (P12.booted (boxA mem 0 true j) u.now).1=true∧(boxA mem 0 true j).pin=false):=by rw[hd];exact fun e=>by cases e.1
 rw[if_neg hid];refine⟨h.now,h.quo,h.fn,h.hosts,by show (u.boxes.set _ _).length=_;rw[List.length_set];exact h.len,fun k x hk=>?_,h.tim⟩;have hk':(u.boxes.set j (P12.booted (boxA mem 0 true j) u.now).1)[k]?=some x:=hk;rw[hd] at hk';rcases set_get hx hk' with ⟨e1,e2⟩|⟨e1,e2⟩
 ·subst e1;rw[e2,if_neg (by omega),if_pos ⟨rfl,rfl⟩]
 ·rw[h.box k x e2]
  by_cases c:k < j
  ·rw[if_pos c,if_pos c]
  ·rw[if_neg c,if_neg c,if_neg (fun e=>e1 e.1),if_neg (fun e=>e1 e.1)]
theorem RmB.done{u:St}{N:Nat}{size mem:Int}{n j:Nat}(h:RmB u size mem n j true)(hI:Inv u N none_)(hj:j < n):RmB (doneS u ((j:Int)+1)).1 size mem n (j+1) false:=by
 have hx:u.boxes[j]?=some (boxA mem 2 false j):=by
  rw[h.at_ hj,if_neg (by omega),if_pos ⟨rfl,rfl⟩]
 have hl:=live_of hI hx (show (2:Nat)≠3 by decide);have hb:(P12.done (boxA mem 2 false j) u.now).2=true:=rfl;have hd:(P12.done (boxA mem 2 false j) u.now).1=boxA mem 1 false j:=by rw[h.now];rfl
 obtain⟨o,l,hfn⟩:=h.fn;have hf0:u.fns 0=some ⟨0,mem.toNat,1,0,o,l,0,h0,[]⟩:=by rw[hfn];rfl
 have hw:winS u (boxA mem 2 false j).fn.toNat=fixedW:=by
  unfold winS;show (match u.fns 0 with | some x=>_ | none=>_)=_;rw[hf0];exact win0
 have hup:upH u.hosts (boxA mem 2 false j).host.toNat=true:=by rw[h.hosts];rfl
 rw[doneS_yes hx hl hb,if_neg (by rw[hup];exact Bool.noConfusion),if_neg (show ¬ ((boxA mem 2 false j).pin=true) from Bool.noConfusion),hw,if_neg (by decide)];have hH:doneH u j (boxA mem 2 false j)={ u with boxes:=u.boxes.set j (boxA mem 1 false j),quo:=endQ u.quo 0,fns:=lastF u.fns 0 u.now }:=by
  unfold doneH;rw[hd];rfl
 rw[hH];have hx2:(u.boxes.set j (boxA mem 1 false j))[j]?=some (boxA mem 1 false j):=set_same' hx;have hfl:lastF u.fns 0 u.now=fset (fun _=>none) 0 ⟨0,mem.toNat,1,0,o,0,0,h0,[]⟩:=by
  rw[lastF_at hf0,hfn,h.now];funext k
  unfold fset;dsimp only;by_cases e:k=0
  ·rw[if_pos e,if_pos e]
  ·rw[if_neg e,if_neg e,if_neg e]
 have hid:∀ e:Int,¬ e≤u.now→idleS { u with boxes:=u.boxes.set j (boxA mem 1 false j),quo:=endQ u.quo 0,fns:=lastF u.fns 0 u.now } j e={ u with
   boxes:=u.boxes.set j (boxA mem 1 false j),quo:=endQ u.quo 0,fns:=lastF u.fns 0 u.now
   cac:=cset u.cac 7 (HeapPure.setAt P09.lt ((u.cac 7).getD ([],0)).1 ((j:Int)+1) (mkC ((u.cac 7).getD ([],0)).2 (o*1) mem.toNat ((j:Int)+1)),((u.cac 7).getD ([],0)).2)
   tim:=HeapPure.setAt P14.lt u.tim (0,(j:Int)+1) ⟨e,0,(j:Int)+1⟩ }:=by
  intro e he;unfold idleS;show (match (u.boxes.set j (boxA mem 1 false j))[j]? with | none=>_ | some x=>_)=_;rw[hx2];dsimp only;rw[if_neg he];show (match lastF u.fns 0 u.now 0 with | none=>_ | some f=>_)=_;rw[hfl];rfl
 rw[hid _ (by rw[h.now];decide)];have hinj:=hI.timG.inj;refine⟨h.now,?_,⟨o,0,hfl⟩,h.hosts,by show (u.boxes.set _ _).length=_;rw[List.length_set];exact h.len,fun k x hk=>?_,fun k t ht=>?_⟩
 ·show endQ u.quo 0=_
  rw[h.quo,oneQ_end _ _ (by omega)];push_cast;congr 1
  omega
 ·have hk':(u.boxes.set j (boxA mem 1 false j))[k]?=some x:=hk
  rcases set_get hx hk' with ⟨e1,e2⟩|⟨e1,e2⟩
  ·subst e1;rw[e2,if_pos (by omega)]
  ·rw[h.box k x e2]
   by_cases c:k < j
   ·rw[if_pos c,if_pos (by omega)]
   ·rw[if_neg c,if_neg (show ¬ (k=j∧true=true) from fun e=>e1 e.1),if_neg (show ¬ k < j+1 by omega),if_neg (show ¬ (k=j+1∧false=true) from fun e=>by cases e.2)]
 ·have ht':=(setAt_has hinj _ _ _ _).1 ht
  split at ht'
  ·rename_i e
   subst e;rw[ht'];refine⟨rfl,?_⟩;show u.now+fixedW.fin=10;rw[h.now];rfl
  ·exact h.tim k t ht'
theorem RmB.pair{s:St}{N:Nat}{size mem:Int}{n j:Nat}(h:RmB s size mem n j false)(hO:Ok s N)(hN:N < 4094)(hj:j < n)(hn:n≤1000):
  RmB (doS (doS s (ev1 7 ((j:Int)+1))).1 (ev1 9 ((j:Int)+1))).1 size mem n (j+1) false:=by
 have r1:P16.right (ev1 7 ((j:Int)+1)):=ev1_right (.inr (by omega)) (by omega);have r2:P16.right (ev1 9 ((j:Int)+1)):=ev1_right (.inr (by omega)) (by omega);have hO2:=hO.step (by omega) (ev1 7 ((j:Int)+1));have h2:RmB (doS s (ev1 7 ((j:Int)+1))).1 size mem n j true:=by
  obtain⟨-,-,x,e⟩:=doS_go (s:=s) r1;rw[e];have e2:go0 s (ev1 7 ((j:Int)+1))=ansOf (bootedS { s with out:=some [] } ((j:Int)+1)):=rfl;rw[e2];exact((h.outs (some [])).boot (inner hO.inv) hj).aside _ _
 generalize (doS s (ev1 7 ((j:Int)+1))).1=s2 at *;obtain⟨-,-,x,e⟩:=doS_go (s:=s2) r2;rw[e];have e2:go0 s2 (ev1 9 ((j:Int)+1))=ansOf (doneS { s2 with out:=some [] } ((j:Int)+1)):=rfl;rw[e2];exact((h2.outs (some [])).done (inner hO2.inv) hj).aside _ _
structure RmC (s:St) (size:Int) (t:Int):Prop where
 now:s.now=t
 keep:∀ f x,s.fns f=some x→x.keep=0
 host:(s.hosts 7).th=true∧(s.hosts 7).dr=false∧(s.hosts 7).sz=size
 box:∀ (k:Nat) x,s.boxes[k]?=some x→x.pin=false∧(x.st=1∨x.st=3)∧x.host=7
 tim:∀ k t,Has s.tim k t→k.1=0∧t.at_=10
theorem RmC.aside{s:St}{size t:Int}(h:RmC s size t)(o:Option (List Cmd))(a:Nat→Int):RmC { s with out:=o,ans:=a } size t:=⟨h.now,h.keep,h.host,h.box,h.tim⟩
theorem RmC.outs{s:St}{size t:Int}(h:RmC s size t)(o:Option (List Cmd)):RmC { s with out:=o } size t:=h.aside o s.ans
theorem RmB.turn{s:St}{size mem:Int}{n:Nat}(h:RmB s size mem n n false):RmC s size 0:=by
 obtain⟨o,l,hfn⟩:=h.fn;refine⟨h.now,fun f x hx=>?_,by rw[h.hosts];exact⟨rfl,rfl,rfl⟩,fun k x hx=>?_,h.tim⟩
 ·rw[hfn] at hx
  unfold fset at hx;split at hx
  ·cases hx;rfl
  ·cases hx
 ·have hl:k < n:=by rw[← h.len];exact get_lt hx
  rw[h.box k x hx,if_pos hl];exact⟨rfl,.inl rfl,rfl⟩
theorem RmC.stay{u:St}{size t:Int}(h:RmC u size t):keepAllS u=u:=keepAll_none h.keep (fun i x hx=>(h.box i x hx).1)
theorem RmC.tickH_{u:St}{size t:Int}(h:RmC u size t):RmC (tickH u) size (t+1):=⟨by show u.now+1=_;rw[h.now],h.keep,h.host,h.box,h.tim⟩
theorem RmC.tick{u:St}{size t:Int}(h:RmC u size t)(h0:0≤t)(h1:t < 9):RmC (tickS u) size (t+1):=by
 rw[tickS_eq (by rw[h.now];omega)];have hd:¬ due (tickH u):=by
  rintro⟨a,b⟩;have:=(h.tickH_.tim _ _ (tim_has a)).2;rw[this] at b;have:(tickH u).now=t+1:=h.tickH_.now;omega
 rw[timesS_no hd,h.tickH_.stay];exact h.tickH_
theorem RmC.time1_{u:St}{N:Nat}{size t:Int}(h:RmC u size t)(hI:Inv u N none_)(hl:0 < u.tim.length):RmC (time1 u) size t:=by
 have hk:=h.tim _ _ (tim_has hl);rw[time1_eq,if_pos hk.1];rcases hI.due_ hl with ⟨h0,i,x,h1,h2,h3,h4,h5⟩|⟨h0,-⟩
 ·rw[h1,show ((i:Int)+1).toNat - 1=i by omega]
  have hb:=h.box i x h2;have hr:P12.runs x=false:=by unfold P12.runs;rw[h3.1];rfl
  have e:killS (dropT u) i={ goneS (dropT u) i with out:=some (outl (dropT u)++[⟨false,x.id,x.fn,x.host⟩]) }:=by
   unfold killS;show (match u.boxes[i]? with | none=>_ | some x=>_)=_;rw[h2]
  have e2:goneS (dropT u) i={ dropT u with
    cac:=cset u.cac x.host.toNat (HeapPure.drop P09.lt ((u.cac x.host.toNat).getD ([],0)).1 x.id,((u.cac x.host.toNat).getD ([],0)).2)
    tim:=HeapPure.drop P14.lt (dropT u).tim (0,x.id)
    boxes:=u.boxes.set i (P12.kill x u.now).1
    hosts:=P13.put u.hosts x.host.toNat (P13.gave (u.hosts x.host.toNat) x.mem)
    live:=fun j=>if j=x.id then false else u.live j
    unt:=gdel u.unt x.id }:=by
   unfold goneS;show (match u.boxes[i]? with | none=>_ | some x=>_)=_;rw[h2];dsimp only;rw[if_neg (by rw[hr];exact Bool.noConfusion),if_neg (by rw[hr];exact Bool.noConfusion)];rfl
  rw[e,e2];refine⟨h.now,h.keep,?_,fun k y hy=>?_,fun k v hv=>?_⟩
  ·show (P13.put u.hosts x.host.toNat (P13.gave (u.hosts x.host.toNat) x.mem) 7).th=true∧(P13.put u.hosts x.host.toNat (P13.gave (u.hosts x.host.toNat) x.mem) 7).dr=false∧(P13.put u.hosts x.host.toNat (P13.gave (u.hosts x.host.toNat) x.mem) 7).sz=size
   rw[hb.2.2];show (P13.put u.hosts 7 (P13.gave (u.hosts 7) x.mem) 7).th=true∧(P13.put u.hosts 7 (P13.gave (u.hosts 7) x.mem) 7).dr=false∧(P13.put u.hosts 7 (P13.gave (u.hosts 7) x.mem) 7).sz=size;rw[P13.put_same];obtain⟨a,b,c⟩:=h.host;unfold P13.gave;split
   ·unfold P13.swept
    dsimp only;rw[if_neg (by rw[b];exact fun e=>by cases e.1)];exact⟨a,b,c⟩
   ·exact⟨a,b,c⟩
  ·have hy':(u.boxes.set i (P12.kill x u.now).1)[k]?=some y:=hy
   rcases set_get h2 hy' with ⟨e1,e2⟩|⟨e1,e2⟩
   ·subst e2
    unfold P12.kill;rw[if_neg (by rw[h3.1];decide)];exact⟨rfl,.inr rfl,hb.2.2⟩
   ·exact h.box k y e2
  ·have hv':Has (HeapPure.drop P14.lt (HeapPure.drop P14.lt u.tim (HeapPure.kk u.tim 0)) (0,x.id)) k v:=hv
   have g1:=drop_good P14.ord_lt hI.timG (HeapPure.kk u.tim 0);exact h.tim k v ((drop_has hI.timG.inj _ _ _).1 ((drop_has g1.inj _ _ _).1 hv').2).2
 ·rw[hk.1] at h0;cases h0
theorem RmC.times{N:Nat}{size t:Int}:∀ (n:Nat) (u:St),RmC u size t→Inv u N none_→u.out.isSome=true→RmC (timesS n u) size t:=by
 intro n
 induction n with
 | zero=>intro u h _ _;exact h
 | succ n ih=>
  intro u h hI ho;by_cases hd:due u
  ·rw[timesS_yes hd]
   obtain⟨k1,-⟩:=hI.time1_ ho hd.1;exact ih _ (h.time1_ hI hd.1) k1.inv k1.out
  ·rw[timesS_no hd];exact h
theorem RmC.last{u:St}{N:Nat}{size:Int}(h:RmC u size 9)(hI:Inv u N none_)(ho:u.out.isSome=true):P13.free ((tickS u).hosts 7)=size∧ids (tickS u)=[]:=by
 have hn:u.now≠1099511627776:=by rw[h.now];decide
 rw[tickS_eq hn];obtain⟨-,hnd,hT⟩:=timesS_more u.tim.length (tickH u) (hI.tickH_ hn) ho (Nat.le_refl _) _ (Nat.le_refl _);have hC:=RmC.times u.tim.length (tickH u) h.tickH_ (hI.tickH_ hn) ho;have hInv:=hT.inv;rw[hC.stay];generalize timesS u.tim.length (tickH u)=v at *;have hz:v.tim=[]:=by
  rcases Nat.eq_zero_or_pos v.tim.length with e|e
  ·exact List.eq_nil_of_length_eq_zero e
  ·refine absurd ⟨e,?_⟩ hnd
   rw[(hC.tim _ _ (tim_has e)).2,hC.now]
   decide
 have hdead:∀ (k:Nat) x,v.boxes[k]?=some x→x.st=3:=fun k x hx=>by
  obtain⟨b1,b2,b3⟩:=hC.box k x hx;rcases b2 with b2|b2
  ·obtain⟨t,ht⟩:=hInv.timS k x hx (fun e=>e) ⟨b2,b1⟩
   rw[hz] at ht;exact absurd ht (not_has_nil _ _)
  ·exact b2
 refine⟨?_,?_⟩
 ·obtain⟨a,b,c⟩:=hC.host
  have hu:=(hInv.host 7 (by omega)).2;have hm:memOn v 7=0:=by
   unfold memOn;refine sumB_zero (fun x hx=>?_);obtain⟨k,hk⟩:=mem_get hx;unfold memG;rw[if_neg (fun e=>e.1 (hdead k x hk))]
  unfold P13.free;rw[if_pos a,c,hu,hm];omega
 ·refine List.eq_nil_iff_forall_not_mem.2 fun id hid=>?_
  have hid':=hid;unfold ids at hid;obtain⟨h1,h2⟩:=List.mem_filter.1 hid;obtain⟨k,hk,rfl⟩:=List.mem_map.1 h1;rw[List.mem_range] at hk;have hx:=List.getElem?_eq_getElem hk;exact(hInv.box k _ hx).live.1 h2 (hdead k _ hx)
end Go.Proofs.YtigeldkbfbcpmaaGreat
namespace Go.Proofs.YtigeldkbfbcpmaaGreat
open Go.RowKit Go.Kpt
def ev3(f g h:P16.Evt):Array Value:=#[.int .i64 (f 0),.int .i64 (f 1),.int .i64 (f 2),.int .i64 (f 3),.int .i64 (f 4),.int .i64 (f 5),.int .i64 (f 6),.int .i64 (f 7),.int .i64 (f 8),.int .i64 (f 9),.int .i64 (g 0),.int .i64 (g 1),.int .i64 (g 2),.int .i64 (g 3),.int .i64 (g 4),.int .i64 (g 5),.int .i64 (g 6),.int .i64 (g 7),.int .i64 (g 8),.int .i64 (g 9),.int .i64 (h 0),.int .i64 (h 1),.int .i64 (h 2),.int .i64 (h 3),.int .i64 (h 4),.int .i64 (h 5),.int .i64 (h 6),.int .i64 (h 7),.int .i64 (h 8),.int .i64 (h 9)]
theorem OwnE.three(w:World)(f g h:P16.Evt):P16.OwnE (w.alloc (.cells (ev3 f g h) 28)) w.heap.size (.slice (some ⟨w.heap.size,0,none⟩) 3 3) [f,g,h]:=
 ⟨by simp[P16.ecells,P16.evc],.inr ⟨_,3,ev3 f g h,rfl,Nat.le_refl _,heap_alloc_new _ _,Nat.le_refl _,by unfold maxLen;omega,rfl,by simp[P16.ecells,P16.evc,ev3]⟩⟩
theorem wrap_small(x:Nat)(h:x≤256):wrap64 (x:Int)=(x:Int):=by unfold wrap64;omega
theorem room_quo{sz mm ft:Nat}(hft:sz / mm=ft)(h:ft≤256):wrap64 ((sz:Int) / (mm:Int))=(ft:Int):=by
 rw[← Int.natCast_ediv,hft];exact wrap_small ft h
theorem room_le{sz mm ft:Nat}(h:ft*mm≤sz)(i:Nat)(hi:i < ft):((i:Int)+1)*(mm:Int)≤(sz:Int):=by
 have h1:(i+1)*mm≤sz:=Nat.le_trans (Nat.mul_le_mul_right mm (show i+1≤ft by omega)) h;have h2:(((i+1)*mm:Nat):Int)≤(sz:Int):=Int.ofNat_le.2 h1;rw[Int.natCast_mul] at h2;exact h2
theorem room_gt{sz mm ft:Nat}(hm:0 < mm)(h:sz / mm=ft):¬ ((ft:Int)+1)*(mm:Int)≤(sz:Int):=fun h1=>by
 have h2:(((ft+1)*mm:Nat):Int)≤(sz:Int):=by rw[Int.natCast_mul];exact h1
 have h3:=(Nat.le_div_iff_mul_le hm).2 (Int.ofNat_le.1 h2);omega
def RmX(w0:World)(c:Nat)(b:Nat)(size mem:Int)(ft i:Nat)(w:World):Prop:=
 ∃ (s:St) (F:Nat→Prop),RmA s size mem (min i ft)∧Ok s (3+i)∧Cr w c s F∧(∀ x,F x→b≤x)∧Kept (fun x=>b≤x) w0 w
def RmY(w0:World)(c:Nat)(b:Nat)(size mem:Int)(N n j:Nat)(w:World):Prop:=
 ∃ (s:St) (F:Nat→Prop),RmB s size mem n j false∧Ok s (N+2*j)∧Cr w c s F∧(∀ x,F x→b≤x)∧Kept (fun x=>b≤x) w0 w
structure RmT (s:St) (size:Int) (t:Nat):Prop where
 low:t < 10→RmC s size t
 top:t=10→P13.free (s.hosts 7)=size∧ids s=[]
theorem tickE_right:P16.right (ev1 0 0):=ev1_right (.inl ⟨rfl,rfl⟩) (by omega)
theorem RmT.step{s:St}{N:Nat}{size:Int}{t:Nat}(h:RmT s size t)(hO:Ok s N)(ht:t < 10):RmT (doS s (ev1 0 0)).1 size (t+1):=by
 have hC:=h.low ht;obtain⟨-,-,x,e⟩:=doS_go (s:=s) tickE_right;have e2:go0 s (ev1 0 0)=ansOf (tickS { s with out:=some [] },0):=rfl;refine⟨fun h9=>?_,fun h9=>?_⟩
 ·rw[e,e2]
  exact((hC.outs (some [])).tick (by omega) (by omega)).aside _ _
 ·obtain rfl:t=9:=by omega
  have:=(hC.outs (some [])).last (inner hO.inv) rfl;rw[e,e2];exact this
def RmZ(w0:World)(c:Nat)(b:Nat)(size:Int)(N t:Nat)(w:World):Prop:=
 ∃ (s:St) (F:Nat→Prop),RmT s size t∧Ok s (N+t)∧Cr w c s F∧(∀ x,F x→b≤x)∧Kept (fun x=>b≤x) w0 w
theorem wholeRoom_any(a0 a1 a2:Int)(w:World):
  Calls Tryz.prog 8 #[.int .i64 a0,.int .i64 a1,.int .i64 a2] w fun e w'=>e=.returned (.bool true)∧Below w.heap.size w w':=by
 have hm0:=i64_and15 a0;have hm1:=i64_and255 a1;have hm2:=i64_and255 a2;obtain⟨k0,h0⟩:∃ k:Nat,a0 % 16=(k:Int):=⟨(a0 % 16).toNat,by omega⟩;obtain⟨k1,h1⟩:∃ k:Nat,a1 % 256=(k:Int):=⟨(a1 % 256).toNat,by omega⟩;obtain⟨cl,h2⟩:∃ k:Nat,a2 % 256=(k:Int):=⟨(a2 % 256).toNat,by omega⟩;have hb0:k0≤15:=by omega
 have hb1:k1≤255:=by omega
 have hb2:cl≤255:=by omega
 rw[h0] at hm0;rw[h1] at hm1;rw[h2] at hm2;clear h0 h1 h2;obtain⟨mm,hmm⟩:∃ k:Nat,k=k0+1:=⟨_,rfl⟩;obtain⟨sz,hsz⟩:∃ k:Nat,k=k1+1:=⟨_,rfl⟩;have i0:(1:Int)+(k0:Int)=(mm:Int):=by omega
 have i1:(1:Int)+(k1:Int)=(sz:Int):=by omega
 have hma:1≤mm∧mm≤16:=by omega
 have hsa:1≤sz∧sz≤256:=by omega
 obtain⟨ft,hft⟩:∃ ft,sz / mm=ft:=⟨_,rfl⟩;have hfb:ft≤256:=by rw[← hft];exact Nat.le_trans (Nat.div_le_self _ _) hsa.2
 have hfm:ft*mm≤sz:=by rw[← hft];exact Nat.div_mul_le_self _ _
 have hquo:=room_quo hft hfb;have hle:=room_le hfm;have hgt:=room_gt (show 0 < mm by omega) hft;clear hmm hsz hft;have HLE:=Lib.hid hle;have HGT:=Lib.hid hgt;have HFM:=Lib.hid hfm;have HQ:=Lib.hid hquo;clear hle hgt hfm hquo;go_enter Tryz.func8,Tryz.ntmps8
 go_wp2_with fail
 refine(alive_any _).mono ?_;rintro e w1 ⟨rfl,hB1⟩;have hz1:=hB1.size;have hE0:P16.OwnE (w1.alloc (.cells (ev3 (accE 1000 1000 0) (hostE 7 sz) (funE 0 mm 1 0)) 28)) w1.heap.size (.slice (some ⟨w1.heap.size,0,none⟩) 3 3) [accE 1000 1000 0,hostE 7 sz,funE 0 mm 1 0]:=OwnE.three w1 _ _ _;have k0:Kept (fun _=>False) w1 (w1.alloc (.cells (ev3 (accE 1000 1000 0) (hostE 7 sz) (funE 0 mm 1 0)) 28)):=(Kept.refl _ _).alloc _;obtain⟨w2,hw2⟩:∃ w2,w1.alloc (.cells (ev3 (accE 1000 1000 0) (hostE 7 sz) (funE 0 mm 1 0)) 28)=w2:=⟨_,rfl⟩;rw[hw2] at hE0 k0;have hB2:Below w.heap.size w w2:=hB1.trans (k0.below hz1 (fun _ _ h=>h));have hw2':w1.alloc (.cells #[.int .i64 1,.int .i64 0,.int .i64 1000,.int .i64 1000,.int .i64 0,.int .i64 0,.int .i64 0,.int .i64 0,.int .i64 0,.int .i64 0,.int .i64 3,.int .i64 7,.int .i64 0,.int .i64 sz,.int .i64 0,.int .i64 0,.int .i64 0,.int .i64 0,.int .i64 0,.int .i64 0,.int .i64 2,.int .i64 0,.int .i64 0,.int .i64 0,.int .i64 0,.int .i64 0,.int .i64 mm,.int .i64 1,.int .i64 0,.int .i64 0] 28)=w2:=hw2;clear hw2 k0;obtain⟨-,hse⟩:True∧P16.SE w2 (fun x=>x < w2.heap.size) (some ⟨w1.heap.size,0,none⟩) [accE 1000 1000 0,hostE 7 sz,funE 0 mm 1 0]:=by
  obtain⟨av,cv,e,-,-,h⟩:=hE0.se;cases e
  exact⟨trivial,h.mono (fun x hx=>hx.2)⟩
 have hev:Calls Tryz.prog 13 #[.slice (some ⟨w1.heap.size,0,none⟩) 3 3] w2 _:=events_any (some ⟨w1.heap.size,0,none⟩) 3 [accE 1000 1000 0,hostE 7 sz,funE 0 mm 1 0] (by show 3≤4095;omega) (fun x=>x < w2.heap.size) w2 hse (fun x hx=>hx);go_wp2_with fail
 clear hE0 hse hw2';refine hev.mono ?_;clear hev;rintro e w3 ⟨c,v,F,rfl,hC,hT,hF,hB3⟩;obtain⟨a3,c3,rfl,-,-⟩:=hT.rows;have hR0:RmA (evs s0 [accE 1000 1000 0,hostE 7 sz,funE 0 mm 1 0]).1 (sz:Int) (mm:Int) 0:=rm_start (by omega) (by omega);have hO0:Ok (evs s0 [accE 1000 1000 0,hostE 7 sz,funE 0 mm 1 0]).1 3:=ok0.evs (l:=[accE 1000 1000 0,hostE 7 sz,funE 0 mm 1 0]) (by show 0+3≤4095;omega);generalize (evs s0 [accE 1000 1000 0,hostE 7 sz,funE 0 mm 1 0])=E0 at *;have K3:Kept (fun x=>w2.heap.size≤x) w2 w3:=(Kept.of_below (F:=fun _=>False) hB3).mono (fun _ _ h=>h.elim);have hX0:RmX w2 c w2.heap.size sz mm ft 0 w3:=⟨E0.1,F,by simpa using hR0,hO0,hC,hF,K3⟩;clear hT hC hR0 hO0 hF K3;generalize E0.2=rows at *;clear E0;go_upto_region 10 with fail
 rw[HQ.out];go_wp2_with fail
 go_loopw [10] (fun k wr=>∃ i:Nat,k=.int .i64 i∧i≤cl∧RmX w2 c w2.heap.size sz mm ft i wr) (fun k _=>cl - (intOf k).toNat)
 case atStart=>exact⟨0,rfl,by omega,hX0⟩
 case round=>
  obtain⟨i,rfl,hi,hX⟩:=hrel;clear hX0;by_cases hin:i < cl
  ·obtain⟨s,F,hR,hO,hC,hF,hK⟩:=hX
   have hdo:Calls Tryz.prog 14 #[.pointer (some ⟨c,0,none⟩),.agg #[.int .i64 6,.int .i64 0,.int .i64 0,.int .i64 0,.int .i64 0,.int .i64 0,.int .i64 0,.int .i64 0,.int .i64 0,.int .i64 0]] wr _:=do_any hO (by omega) (ev1 6 0) hC;have hlaw:=hR.do_ (i:=min i ft) (by omega) (by omega);have hO':=hO.step (by omega) (ev1 6 0);obtain⟨D,hD⟩:∃ D,doS s (ev1 6 0)=D:=⟨_,rfl⟩;rw[hD] at hdo hlaw hO';obtain⟨sD,⟨x0,x1,x2,x3⟩,lD⟩:=D;dsimp only at hlaw hO';clear hD hC hR hO;go_wp2_with fail
   refine hdo.mono ?_;clear hdo;rintro r w6 ⟨ov,F',rfl,hC3,hK3,hF3,hc3⟩;dsimp only[ansV] at hC3 hc3 ⊢;obtain⟨-,a6,c6,rfl⟩:=hc3.one;have hza:=hK.size;have hza3:=hK3.size;have hF4:∀ x,F' x→w2.heap.size≤x:=fun x h=>by
    rcases hF3 x h with h|h
    ·exact hF x h
    ·omega
   have hK4:=hK.trans hK3 (fun x _ h=>hF x h);clear hK hK3 hF3 hc3 hF;have k7:Kept (fun _=>False) w6 (w6.alloc (.cells #[.int .i64 x0,.int .i64 x1,.int .i64 x2,.int .i64 x3] 38)):=(Kept.refl _ w6).alloc _;have hA7:(w6.alloc (.cells #[.int .i64 x0,.int .i64 x1,.int .i64 x2,.int .i64 x3] 38)).heap[w6.heap.size]?=some (.cells #[.int .i64 x0,.int .i64 x1,.int .i64 x2,.int .i64 x3] 38 (0,0)):=heap_alloc_new _ _;obtain⟨q7,hq7⟩:∃ q,w6.heap.size=q:=⟨_,rfl⟩;obtain⟨w7,hw7⟩:∃ w7,w6.alloc (.cells #[.int .i64 x0,.int .i64 x1,.int .i64 x2,.int .i64 x3] 38)=w7:=⟨_,rfl⟩;rw[hw7] at k7 hA7;rw[hq7] at hA7;have hC7:=hC3.kept k7 (fun _ _ h=>h);have hK7:=hK4.trans k7 (fun x _ h=>h.elim);have hz7:=k7.size;have hFlt:∀ x,F' x→x < w6.heap.size:=by obtain⟨A,-,-,h⟩:=hC3;exact h
   clear k7 hC3 hK4;go_upto_region 14 with fail
   clear hw7;go_upto_region 15 with fail
   have k8:Kept (fun _=>False) w7 (w7.alloc (.cells #[.int .i64 3,.int .i64 ((i:Int)+1),.int .i64 0,.int .i64 0] 38)):=(Kept.refl _ w7).alloc _;have hA8:(w7.alloc (.cells #[.int .i64 3,.int .i64 ((i:Int)+1),.int .i64 0,.int .i64 0] 38)).heap[w7.heap.size]?=some (.cells #[.int .i64 3,.int .i64 ((i:Int)+1),.int .i64 0,.int .i64 0] 38 (0,0)):=heap_alloc_new _ _;obtain⟨q8,hq8⟩:∃ q,w7.heap.size=q:=⟨_,rfl⟩;obtain⟨w8,hw8⟩:∃ w8,w7.alloc (.cells #[.int .i64 3,.int .i64 ((i:Int)+1),.int .i64 0,.int .i64 0] 38)=w8:=⟨_,rfl⟩;rw[hw8] at k8 hA8 ⊢;rw[hq8] at hA8 ⊢;have hC8:=hC7.kept k8 (fun _ _ h=>h);have hK8:=hK7.trans k8 (fun x _ h=>h.elim);have hA78:w8.heap[q7]?=_:=(k8.block q7 (lt_of hA7) (fun h=>h)).trans hA7;have hq78:q7 < q8:=by have:=lt_of hA7;omega
   have hq8b:w2.heap.size≤q8:=by omega
   clear k8 hC7 hK7 hA7 hw8;have hneq0:=fun a b c d=>neq_an x0 x1 x2 x3 a b c d;have hgd:=guard_an;have y0:w8.cell? ⟨q7,0,none⟩=some (.int .i64 x0):=cell_of hA78;have y1:w8.cell? ⟨q7,1,none⟩=some (.int .i64 x1):=cell_of hA78;have y2:w8.cell? ⟨q7,2,none⟩=some (.int .i64 x2):=cell_of hA78;have y3:w8.cell? ⟨q7,3,none⟩=some (.int .i64 x3):=cell_of hA78;have z0:w8.cell? ⟨q8,0,none⟩=some (.int .i64 3):=cell_of hA8;have z1:w8.cell? ⟨q8,1,none⟩=some (.int .i64 ((i:Int)+1)):=cell_of hA8;have z2:w8.cell? ⟨q8,2,none⟩=some (.int .i64 0):=cell_of hA8;have z3:w8.cell? ⟨q8,3,none⟩=some (.int .i64 0):=cell_of hA8;by_cases hc:i < ft
   ·rw[Nat.min_eq_left (by omega),if_pos (HLE.out i hc)] at hlaw
    obtain⟨hx,hR⟩:=hlaw;simp only[Prod.mk.injEq] at hx;have hneq:=hneq0 3 ((i:Int)+1) 0 0;rw[show (!decide (x0=3∧x1=(i:Int)+1∧x2=0∧x3=0))=false by rw[decide_eq_true hx];rfl] at hneq;simp only[ac4] at hneq;have HX:=Lib.hid (show RmX w2 c w2.heap.size sz mm ft (i+1) w8 from⟨sD,F',by rw[Nat.min_eq_left (by omega)];exact hR,hO',hC8,hF4,hK8⟩);have hcb:¬ (ft:Int)≤(i:Int):=by omega
    clear hneq0 hx hR hC8 hO' hF4 hK8 hA8 hA78;go_wp2_with fail
    exact⟨⟨i+1,rfl,by omega,HX.out⟩,by simp[intOf];omega⟩
   ·rw[Nat.min_eq_right (by omega),if_neg (Int.not_le.2 HGT.out)] at hlaw
    obtain⟨hx,hR⟩:=hlaw;simp only[Prod.mk.injEq] at hx;have hneq:=hneq0 4 0 4 0;rw[show (!decide (x0=4∧x1=0∧x2=4∧x3=0))=false by rw[decide_eq_true hx];rfl] at hneq;simp only[ac4] at hneq;have hcb:(ft:Int)≤(i:Int):=by omega
    have zf0:w8.frozen? ⟨q8,0,none⟩=false:=frozen_of hA8;have zf1:w8.frozen? ⟨q8,1,none⟩=false:=frozen_of hA8;have zf2:w8.frozen? ⟨q8,2,none⟩=false:=frozen_of hA8;have zf3:w8.frozen? ⟨q8,3,none⟩=false:=frozen_of hA8;have k9:Kept (fun x=>x=q8) w8 ((((w8.setCell ⟨q8,0,none⟩ (.int .i64 4)).setCell ⟨q8,1,none⟩ (.int .i64 0)).setCell ⟨q8,2,none⟩ (.int .i64 4)).setCell ⟨q8,3,none⟩ (.int .i64 0)):=(((Kept.refl (fun x=>x=q8) w8).setCell (p:=⟨q8,0,none⟩) (fun _=>rfl) _).setCell (p:=⟨q8,1,none⟩) (fun _=>rfl) _ |>.setCell (p:=⟨q8,2,none⟩) (fun _=>rfl) _).setCell (p:=⟨q8,3,none⟩) (fun _=>rfl) _;have HX:=Lib.hid (show RmX w2 c w2.heap.size sz mm ft (i+1) _ from⟨sD,F',by rw[Nat.min_eq_right (by omega)];exact hR,hO',hC8.kept k9 (fun x h e=>by have:=hFlt x h;omega),hF4,hK8.trans k9 (fun x h _=>by omega)⟩);have hne:¬ q7=q8:=by omega
    have hne':¬ q8=q7:=by omega
    clear hneq0 hx hR hC8 hO' hF4 hK8 hA8 hA78 k9;go_wp2_with fail
    exact⟨⟨i+1,rfl,by omega,HX.out⟩,by simp[intOf];omega⟩
  ·obtain rfl:i=cl:=by omega
   obtain⟨s,F,hR,hO,hC,hF,hK⟩:=hX;rename World=>w4
   obtain⟨n,hn⟩:∃ n,min i ft=n:=⟨_,rfl⟩;rw[hn] at hR;have hnb:n≤255∧n≤ft∧n≤i:=by omega
   have hmin:min (i:Int) (ft:Int)=(n:Int):=by omega
   obtain⟨M,hM⟩:∃ M,n*mm=M:=⟨_,rfl⟩;have hMb:M≤sz:=by rw[← hM];exact Nat.le_trans (Nat.mul_le_mul_right mm hnb.2.1) HFM.out
   have hM1:(n:Int)*(mm:Int)=(M:Int):=by rw[← hM,Int.natCast_mul]
   have hb:=busy21_any hC 0 (by omega) (by rw[hR.quo];rfl);rw[show (s.quo.fs 0).bu=(n:Int) from by rw[hR.quo];rfl] at hb;have hf:=free22_any hC hO.inv 7 (by omega);rw[show P13.free (s.hosts 7)=(sz:Int) - (M:Int) from by rw[hR.hosts,← hM1];rfl] at hf;have HK:=Lib.hid hK;have HF:=Lib.hid hF;clear hn hM hK hF hi hin;go_upto_region 20 with fail
   go_wp2_with fail
   refine hb.mono ?_;clear hb;rintro e w5 ⟨rfl,rfl⟩;go_wp2_with fail
   refine hf.mono ?_;clear hf;rintro e w6 ⟨rfl,m6,rfl⟩;have hY0:RmY w2 c w2.heap.size sz mm (3+i) n 0 (w5.drewN m6):=⟨s,F,hR.turn,hO,hC.kept ((Kept.refl (fun _=>False) w5).drewN m6) (fun _ _ h=>h),HF.out,HK.out.trans ((Kept.refl (fun _=>False) w5).drewN m6) (fun _ _ h=>h.elim)⟩;clear hR hO hC HF HK;go_wp2_with fail
   clear hm0 hm1 hm2 hM1 hMb hmin;rename World=>w7
   go_loopw [15] (fun k wr=>∃ j:Nat,k=.int .i64 ((j:Int)+1)∧j≤n∧RmY w2 c w2.heap.size sz mm (3+i) n j wr) (fun k _=>n+1 - (intOf k).toNat)
   case atStart=>exact⟨0,rfl,by omega,hY0⟩
   case round=>
    obtain⟨j,rfl,hj,hY⟩:=hrel;clear hY0;by_cases hjn:j < n
    ·obtain⟨s,F,hR,hO,hC,hF,hK⟩:=hY
     have hdo:Calls Tryz.prog 14 #[.pointer (some ⟨c,0,none⟩),.agg #[.int .i64 7,.int .i64 ((j:Int)+1),.int .i64 0,.int .i64 0,.int .i64 0,.int .i64 0,.int .i64 0,.int .i64 0,.int .i64 0,.int .i64 0]] wr _:=do_any hO (by omega) (ev1 7 ((j:Int)+1)) hC;have hR2:=hR.pair hO (by omega) hjn (by omega);have hO1:=hO.step (by omega) (ev1 7 ((j:Int)+1));have hO2:=hO1.step (by omega) (ev1 9 ((j:Int)+1));generalize doS s (ev1 7 ((j:Int)+1))=D1 at *;clear hR hO hC;go_wp2_with fail
     refine hdo.mono ?_;clear hdo;rintro r w8 ⟨ov,F',rfl,hC3,hK3,hF3,-⟩;have hdo:Calls Tryz.prog 14 #[.pointer (some ⟨c,0,none⟩),.agg #[.int .i64 9,.int .i64 ((j:Int)+1),.int .i64 0,.int .i64 0,.int .i64 0,.int .i64 0,.int .i64 0,.int .i64 0,.int .i64 0,.int .i64 0]] w8 _:=do_any hO1 (by omega) (ev1 9 ((j:Int)+1)) hC3;generalize doS D1.1 (ev1 9 ((j:Int)+1))=D2 at *;have hza:=hK.size;have hza3:=hK3.size;have hF4:∀ x,F' x→w2.heap.size≤x:=fun x h=>by
      rcases hF3 x h with h|h
      ·exact hF x h
      ·omega
     have hK4:=hK.trans hK3 (fun x _ h=>hF x h);clear hK hK3 hF3 hF hC3 hO1;generalize ansV D1.2.1=av1 at *;go_wp2_with fail
     refine hdo.mono ?_;clear hdo;rintro r w9 ⟨ov2,F2,rfl,hC5,hK5,hF5,-⟩;have hza5:=hK5.size;have HY:=Lib.hid (show RmY w2 c w2.heap.size sz mm (3+i) n (j+1) w9 from⟨D2.1,F2,hR2,hO2,hC5,fun x h=>by
      rcases hF5 x h with h|h
      ·exact hF4 x h
      ·omega,hK4.trans hK5 (fun x _ h=>hF4 x h)⟩)
     clear hR2 hO2 hC5 hK4 hK5 hF4 hF5;generalize ansV D2.2.1=av2 at *;clear D1 D2;go_wp2_with fail
     exact⟨⟨j+1,by push_cast;rfl,by omega,HY.out⟩,by simp[intOf];omega⟩
    ·obtain rfl:j=n:=by omega
     obtain⟨s,F,hR,hO,hC,hF,hK⟩:=hY;have hZ0:RmZ w2 c w2.heap.size sz (3+i+2*j) 0 wr:=⟨s,F,⟨fun _=>hR.turn,fun h=>by omega⟩,hO,hC,hF,hK⟩;clear hR hO hC hF hK;go_wp2_with fail
     rename World=>w8
     go_loopw [16] (fun k wr=>∃ t:Nat,k=.int .i64 t∧t≤10∧RmZ w2 c w2.heap.size sz (3+i+2*j) t wr) (fun k _=>10 - (intOf k).toNat)
     case atStart=>exact⟨0,rfl,by omega,hZ0⟩
     case round=>
      obtain⟨t,rfl,ht,hZ⟩:=hrel;clear hZ0;obtain⟨s,F,hR,hO,hC,hF,hK⟩:=hZ;by_cases htn:t < 10
      ·have hdo:Calls Tryz.prog 14 #[.pointer (some ⟨c,0,none⟩),.agg #[.int .i64 0,.int .i64 0,.int .i64 0,.int .i64 0,.int .i64 0,.int .i64 0,.int .i64 0,.int .i64 0,.int .i64 0,.int .i64 0]] wr _:=do_any hO (by omega) (ev1 0 0) hC
       have hR2:=hR.step hO htn;have hO1:=hO.step (by omega) (ev1 0 0);generalize doS s (ev1 0 0)=D1 at *;clear hR hO hC;go_wp2_with fail
       refine hdo.mono ?_;clear hdo;rintro r w9 ⟨ov,F',rfl,hC3,hK3,hF3,-⟩;have hza:=hK.size;have HZ:=Lib.hid (show RmZ w2 c w2.heap.size sz (3+i+2*j) (t+1) w9 from⟨D1.1,F',hR2,hO1,hC3,fun x h=>by
        rcases hF3 x h with h|h
        ·exact hF x h
        ·omega,hK.trans hK3 (fun x _ h=>hF x h)⟩)
       generalize ansV D1.2.1=av1 at *;clear hR2 hO1 hC3 hK hK3 hF hF3 D1;go_wp2_with fail
       exact⟨⟨t+1,rfl,by omega,HZ.out⟩,by simp[intOf];omega⟩
      ·obtain rfl:t=10:=by omega
       obtain⟨hfr,hid⟩:=hR.top rfl;have hf:=free22_any hC hO.inv 7 (by omega);rw[hfr] at hf;have hbel:Below w.heap.size w wr:=by
        have:=hB2.size;exact hB2.trans (hK.below this (fun x hx h=>by omega))
       have hN:=hO.len;have hzr:=hbel.size;go_upto_region 31 with fail
       go_wp2_with fail
       refine hf.mono ?_;clear hf;rintro e w9 ⟨rfl,m9,rfl⟩;have hbx:=boxes_any (hC.kept ((Kept.refl (fun _=>False) wr).drewN m9) (fun _ _ h=>h)) (by omega);have hbel2:Below w.heap.size w (wr.drewN m9):=hbel.trans (((Kept.refl (fun _=>False) wr).drewN m9).below hzr (fun _ _ h=>h));clear hbel;go_wp2_with fail
       refine hbx.mono ?_;clear hbx;rintro e w10 ⟨v,rfl,hv,hB10⟩;obtain⟨av,cv,rfl,-,-⟩:=hv.shape;have hl:(boxesOf s).length=0:=by unfold boxesOf;rw[hid];rfl
       rw[hl];go_wp2_with fail
       go_ret
       exact⟨rfl,hbel2.trans (hB10.mono (by simpa using hzr))⟩
theorem wholeRoom_walk(a0 a1 a2:Int)(W:World)(w0:(Lit.int .i64 a0).wf=true)(w1:(Lit.int .i64 a1).wf=true)(w2:(Lit.int .i64 a2).wf=true):
  Calls Tryz.prog 8 #[.int .i64 a0,.int .i64 a1,.int .i64 a2] W fun e W'=>e=.returned (.bool true)∧Below W.heap.size W W':=wholeRoom_any a0 a1 a2 W
end Go.Proofs.YtigeldkbfbcpmaaGreat
