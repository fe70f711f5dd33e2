/- A part of the proof: what the functions of the program come to, and what holds at all times. -/
import Derived.BigRegion
import Derived.Test.YtigeldkbfbcpmaaGreatM44
import Derived.Test.YtigeldkbfbcpmaaGreatM25
import Derived.Test.YtigeldkbfbcpmaaGreatM01
import Derived.Test.YtigeldkbfbcpmaaGreatM30
import Derived.Test.YtigeldkbfbcpmaaGreatM29
set_option linter.unusedVariables false
set_option linter.unusedSectionVars false
set_option linter.unusedSimpArgs false
set_option maxRecDepth 100000
set_option maxHeartbeats 8000000
namespace Go.Proofs.YtigeldkbfbcpmaaGreat
open Go.RowKit Go.Kpt
theorem now_any{w:World}{c:Nat}{s:St}{F:Nat→Prop}(h:Cr w c s F):Calls Tryz.prog 18 #[.pointer (some ⟨c,0,none⟩)] w fun e w'=>e=.returned (.int .i64 s.now)∧w'=w:=by
 obtain⟨A,rfl,hS,-⟩:=h;obtain⟨ov,hc,-⟩:=hS.core;have c0:w.cell? ⟨A.core,0,none⟩=some (.int .i64 s.now):=(cell_of hc).trans rfl;go_enter Tryz.func18,Tryz.ntmps18
 go_wp2_with fail
 go_ret
 exact⟨rfl,rfl⟩
theorem busy21_any{w:World}{c:Nat}{s:St}{F:Nat→Prop}(h:Cr w c s F)(f:Nat)(hf:f < 64)(ht:(s.quo.fs f).th=true):
  Calls Tryz.prog 21 #[.pointer (some ⟨c,0,none⟩),.int .i64 f] w fun e w'=>e=.returned (.int .i64 (s.quo.fs f).bu)∧w'=w:=by
 obtain⟨A,rfl,hS,-⟩:=h;obtain⟨ov,hc,-⟩:=hS.core;have c2:w.cell? ⟨A.core,2,none⟩=some (.pointer (some ⟨A.quo,0,none⟩)):=(cell_of hc).trans rfl;obtain⟨own,hO,-⟩:=hS;have hq:=(hO.at_ .quo).2;have hb:=P11.busy_any A.quo s.quo f hf (fun e=>by rw[ht] at e;cases e) w hq;go_enter Tryz.func21,Tryz.ntmps21
 go_wp2_with fail
 refine hb.mono ?_;rintro e w' ⟨rfl,rfl⟩;go_wp2_with fail
 go_ret
 exact⟨rfl,rfl⟩
theorem free22_any{w:World}{c:Nat}{s:St}{N:Nat}{F:Nat→Prop}(h:Cr w c s F)(hI:Inv s N none_)(f:Nat)(hf:f < 32):
  Calls Tryz.prog 22 #[.pointer (some ⟨c,0,none⟩),.int .i64 f] w fun e w'=>e=.returned (.int .i64 (P13.free (s.hosts f)))∧∃ m,w'=w.drewN m:=by
 obtain⟨A,rfl,hS,-⟩:=h;obtain⟨ov,hc,-⟩:=hS.core;have c5:w.cell? ⟨A.core,5,none⟩=some (.pointer (some ⟨A.hosts,0,none⟩)):=(cell_of hc).trans rfl;obtain⟨own,hO,-⟩:=hS;have hq:=(hO.at_ .hosts).2;have hb:=P13.free_any A.hosts s.hosts f hf (hI.host f hf).1.us w hq;go_enter Tryz.func22,Tryz.ntmps22
 go_wp2_with fail
 refine hb.mono ?_;rintro e w' ⟨rfl,m,rfl⟩;go_wp2_with fail
 go_ret
 exact⟨rfl,m,rfl⟩
theorem window16_any{w:World}{c:Nat}{s:St}{N:Nat}{F:Nat→Prop}(h:Cr w c s F)(hI:Inv s N none_)(hN:N≤4096)(f:Nat)(x:Fnc)(hx:s.fns f=some x):
  Calls Tryz.prog 16 #[.pointer (some ⟨c,0,none⟩),.int .i64 f] w fun e w'=>e=.returned (.tuple #[(win x.his x.ring).val,.bool true])∧Below w.heap.size w w':=by
 have hfo:=hI.fn f x hx;have hf:=hfo.lt;have hB0:Below w.heap.size w (w.alloc (.cells #[.int .i64 0,.int .i64 0,.int .i64 0] 59)):=(Below.refl _ w).alloc (Nat.le_refl _) _;have hC1:=h.below hB0;have hw0:(w.alloc (.cells #[.int .i64 0,.int .i64 0,.int .i64 0] 59)).heap[w.heap.size]?=some (.cells #[.int .i64 0,.int .i64 0,.int .i64 0] 59 (0,0)):=heap_alloc_new _ _;have hz:(w.alloc (.cells #[.int .i64 0,.int .i64 0,.int .i64 0] 59)).heap.size=w.heap.size+1:=by simp
 obtain⟨w1,hw1⟩:∃ w1,w.alloc (.cells #[.int .i64 0,.int .i64 0,.int .i64 0] 59)=w1:=⟨_,rfl⟩;rw[hw1] at hB0 hC1 hw0 hz;obtain⟨A,rfl,hS,-⟩:=hC1;obtain⟨ov,hc,-⟩:=hS.core;have c4:w1.cell? ⟨A.core,4,none⟩=some (.map (some A.fnM)):=(cell_of hc).trans rfl;have hlk:=hS.look_fn (f:Int) (WalkArith.wf_i64 (by omega)) (some (A.fn f)) (by unfold mFn;rw[if_pos (by omega),show (f:Int).toNat=f by omega,hx];rfl);have hwin:=window_any s A _ f hf x hx N hfo.his hN w1 hS;obtain⟨y,hy⟩:∃ y,win x.his x.ring=y:=⟨_,rfl⟩;rw[hy] at hwin ⊢;obtain⟨ki,pr,fi⟩:=y;simp only[Win.val] at hwin ⊢;clear hS hc hy hfo hx h;simp only[ptr,pv] at hlk hwin;go_enter Tryz.func16,Tryz.ntmps16
 go_wp2_with fail
 refine hwin.mono ?_;rintro e w2 ⟨rfl,hB2⟩;have hb2:=(hB2.block w.heap.size (by omega)).trans hw0;have y0:=cell_of (j:=0) hb2;have y1:=cell_of (j:=1) hb2;have y2:=cell_of (j:=2) hb2;have f0:=fun j=>frozen_of (j:=j) hb2;have hb3:=set3_block (a0:=.int .i64 ki) (a1:=.int .i64 pr) (a2:=.int .i64 fi) hb2;have hB3:=hB0.trans ((hB2.mono (show w.heap.size≤_ by omega)).trans ((set3_kept w2 w.heap.size (.int .i64 ki) (.int .i64 pr) (.int .i64 fi)).below (B:=w.heap.size) (by have:=lt_of hb2;omega) (fun x hx hh=>by omega)));clear hwin hw1 hw0 hB0 hB2;go_wp2_with fail
 generalize (((w2.setCell ⟨w.heap.size,0,none⟩ _).setCell ⟨w.heap.size,1,none⟩ _).setCell ⟨w.heap.size,2,none⟩ _)=W3 at *;have z0:=cell_of (j:=0) hb3;have z1:=cell_of (j:=1) hb3;have z2:=cell_of (j:=2) hb3;clear y0 y1 y2 hb2 f0 hlk;refine bodyPost_ret (by simp[results,Tryz.results16,go_sem,z0,z1,z2];try rfl) rfl ?_;exact⟨rfl,hB3⟩
theorem outCells_get(l:List Cmd):∀ (i:Nat) (x:Cmd),l[i]?=some x→∀ j,j < 4→(outCells l)[i*4+j]?=(cmdCells x)[j]?:=by
 induction l with
 | nil=>intro i x h;simp at h
 | cons a l ih=>
  intro i x h j hj;have e:outCells (a :: l)=cmdCells a++outCells l:=rfl;have ha:(cmdCells a).length=4:=rfl;cases i with
  | zero=>
   simp at h;subst h;rw[e,List.getElem?_append_left (by omega)];simp
  | succ i=>
   rw[e,List.getElem?_append_right (by rw[ha];omega),ha,show (i+1)*4+j - 4=i*4+j by omega];exact ih i x (by simpa using h) j hj
theorem Cmds.shape{w:World}{P:Nat→Prop}{v:Value}{l:List Cmd}(h:Cmds w P v l):∃ a cap,v=.slice a l.length cap∧l.length≤cap ∧
  ∀ i,i < l.length→∃ b,a=some ⟨b,0,none⟩∧P b∧w.cell? ⟨b,i*4,none⟩=some (.bool (l.getD i ncmd).boot)∧w.cell? ⟨b,i*4+1,none⟩=some (.int .i64 (l.getD i ncmd).box) ∧
   w.cell? ⟨b,i*4+2,none⟩=some (.int .i64 (l.getD i ncmd).fn)∧w.cell? ⟨b,i*4+3,none⟩=some (.int .i64 (l.getD i ncmd).host):=by
 have hb:=h.2;rcases h.1.2 with ⟨h1,h2⟩|⟨g,cap,cur,rfl,_,hg,hl,hm,hs,ht⟩
 ·subst h1
  exact⟨none,0,by rw[h2],by omega,fun i hi=>by omega⟩
 ·refine⟨_,cap,rfl,hl,fun i hi=>?_⟩
  have hx:l[i]?=some l[i]:=List.getElem?_eq_getElem hi;have e:l.getD i ncmd=l[i]:=by simp[List.getD_eq_getElem?_getD,hi]
  have key:∀ j,j < 4→w.cell? ⟨g,i*4+j,none⟩=(cmdCells l[i])[j]?:=fun j hj=>by
   rw[cell_of hg,← outCells_get l i _ hx j hj,← ht,List.getElem?_take,if_pos (by omega)];simp
  rw[e];exact⟨g,rfl,hb g rfl,key 0 (by omega),key 1 (by omega),key 2 (by omega),key 3 (by omega)⟩
theorem same_any{w:World}{P Q:Nat→Prop}{v v':Value}{l:List Cmd}(hv:Cmds w P v l)(hv':Cmds w Q v' l)(hl:l.length≤1000000000):
  Calls Tryz.prog 15 #[v,v'] w fun e w'=>e=.returned (.bool true)∧∃ m,w'=w.drewN m:=by
 obtain⟨a,ca,rfl,hca,ha⟩:=hv.shape;obtain⟨b,cb,rfl,hcb,hb⟩:=hv'.shape;obtain⟨n,hn⟩:∃ n,l.length=n:=⟨_,rfl⟩;rw[hn] at hca hcb hl ⊢;go_enter Tryz.func15,Tryz.ntmps15
 go_wp2_with fail
 go_loopw [13] (fun k wr=>∃ i m:Nat,k=.int .i64 i∧i≤n∧wr=w.drewN m) (fun k _=>n - (intOf k).toNat)
 case atStart=>exact⟨0,0,rfl,by omega,rfl⟩
 case round=>
  obtain⟨i,m,rfl,hi,rfl⟩:=hrel;by_cases hin:i < n
  ·obtain⟨b1,rfl,-,e0,e1,e2,e3⟩:=ha i (by omega)
   obtain⟨b2,rfl,-,d0,d1,d2,d3⟩:=hb i (by omega);generalize l.getD i ncmd=x at *;have hneq:=neq_cmd x.boot x.box x.fn x.host;simp only[cc4] at hneq;have hgd:=guard_cmd;have e0:(w.drewN m).cell? _=_:=e0;have e1:(w.drewN m).cell? _=_:=e1;have e2:(w.drewN m).cell? _=_:=e2;have e3:(w.drewN m).cell? _=_:=e3;have d0:(w.drewN m).cell? _=_:=d0;have d1:(w.drewN m).cell? _=_:=d1;have d2:(w.drewN m).cell? _=_:=d2;have d3:(w.drewN m).cell? _=_:=d3;go_wp2_with fail
   go_big_region
   all_goals (go_wp2_with fail)
   all_goals exact⟨⟨i+1,m+1,rfl,by omega,rfl⟩,by simp[intOf];omega⟩
  ·obtain rfl:i=n:=by omega
   go_wp2_with fail
   go_ret
   exact⟨rfl,m,rfl⟩
def boxesOf(s:St):List P12.Bx:=(ids s).map fun id=>s.boxes.getD (id.toNat - 1) ⟨0,0,0,0,0,false,false,0⟩
def bcells(l:List P12.Bx):List Value:=l.flatMap fun x=>(P12.bc x).toList
def evOf(f:Nat→Int):P16.Evt:=fun j=>f j.val
def evsOf(z:List (Nat→Int)):List P16.Evt:=z.map evOf
theorem isEvents{w:World}{a:Option Addr}{z:List (Nat→Int)}(h:IsStructs 10 w a z):P16.SE w (fun x=>x < w.heap.size) a (evsOf z):=by
 intro i hi;have hi':i < z.length:=by simpa[evsOf] using hi
 obtain⟨b,off,ha,hc⟩:=h.2.2 i hi';refine⟨b,off,ha,block_lt_of_cell (hc 0 (by omega)),fun j=>?_⟩;rw[← Nat.add_assoc,hc j.val j.isLt];simp[evsOf,evOf,List.getD_eq_getElem?_getD,hi']
structure R15 (w:World) (b o:Nat) (x:Stp) (va:Option Addr) (vc:Nat):Prop where
 c0:w.cell? ⟨b,o,none⟩=some (.int .i64 (x.1 0))
 c1:w.cell? ⟨b,o+1,none⟩=some (.int .i64 (x.1 1))
 c2:w.cell? ⟨b,o+2,none⟩=some (.int .i64 (x.1 2))
 c3:w.cell? ⟨b,o+3,none⟩=some (.int .i64 (x.1 3))
 c4:w.cell? ⟨b,o+4,none⟩=some (.int .i64 (x.1 4))
 c5:w.cell? ⟨b,o+5,none⟩=some (.int .i64 (x.1 5))
 c6:w.cell? ⟨b,o+6,none⟩=some (.int .i64 (x.1 6))
 c7:w.cell? ⟨b,o+7,none⟩=some (.int .i64 (x.1 7))
 c8:w.cell? ⟨b,o+8,none⟩=some (.int .i64 (x.1 8))
 c9:w.cell? ⟨b,o+9,none⟩=some (.int .i64 (x.1 9))
 c10:w.cell? ⟨b,o+10,none⟩=some (.int .i64 x.2.1.1)
 c11:w.cell? ⟨b,o+11,none⟩=some (.int .i64 x.2.1.2.1)
 c12:w.cell? ⟨b,o+12,none⟩=some (.int .i64 x.2.1.2.2.1)
 c13:w.cell? ⟨b,o+13,none⟩=some (.int .i64 x.2.1.2.2.2)
 c14:w.cell? ⟨b,o+14,none⟩=some (.slice va x.2.2.length vc)
theorem R15.kept{w w':World}{b o:Nat}{x:Stp}{va:Option Addr}{vc:Nat}{F:Nat→Prop}(h:R15 w b o x va vc)(k:Kept F w w')(hF:¬ F b):R15 w' b o x va vc:=by
 have key:∀ {j:Nat} {v:Value},w.cell? ⟨b,j,none⟩=some v→w'.cell? ⟨b,j,none⟩=some v:=fun {j v} hv=>(k.cell (p:=⟨b,j,none⟩) (block_lt_of_cell hv) hF).trans hv;exact⟨key h.c0,key h.c1,key h.c2,key h.c3,key h.c4,key h.c5,key h.c6,key h.c7,key h.c8,key h.c9,key h.c10,key h.c11,key h.c12,key h.c13,key h.c14⟩
theorem Steps.rows{w:World}{P:Nat→Prop}{v:Value}{l:List Stp}(h:Steps w P v l):∃ a cap,v=.slice a l.length cap∧l.length≤cap ∧
  ∀ i,i < l.length→∃ b va vc,a=some ⟨b,0,none⟩∧P b∧b < w.heap.size∧Cmds w P (.slice va (l.getD i nstp).2.2.length vc) (l.getD i nstp).2.2∧R15 w b (i*15) (l.getD i nstp) va vc:=by
 obtain⟨a,cap,rfl,hcap,hs⟩:=h.shape;refine⟨a,cap,rfl,hcap,fun i hi=>?_⟩;obtain⟨b,v',hb,hP,hc,hr⟩:=hs i hi;obtain⟨-,va,vc,rfl⟩:=hc.one;have r0:=hr 0 (by omega);exact⟨b,va,vc,hb,hP,h.lt b (by rw[hb];rfl),hc,hr 0 (by omega),hr 1 (by omega),hr 2 (by omega),hr 3 (by omega),hr 4 (by omega),hr 5 (by omega),hr 6 (by omega),hr 7 (by omega),hr 8 (by omega),hr 9 (by omega),hr 10 (by omega),hr 11 (by omega),hr 12 (by omega),hr 13 (by omega),hr 14 (by omega)⟩
def c15(x:Stp)(va:Option Addr)(vc:Nat):Array Value:=#[.int .i64 (x.1 0),.int .i64 (x.1 1),.int .i64 (x.1 2),.int .i64 (x.1 3),.int .i64 (x.1 4),.int .i64 (x.1 5),.int .i64 (x.1 6),.int .i64 (x.1 7),.int .i64 (x.1 8),.int .i64 (x.1 9),.int .i64 x.2.1.1,.int .i64 x.2.1.2.1,.int .i64 x.2.1.2.2.1,.int .i64 x.2.1.2.2.2,.slice va x.2.2.length vc]
theorem OwnE.one(w:World)(f:P16.Evt):P16.OwnE (w.alloc (.cells (P16.evc f) 28)) w.heap.size (.slice (some ⟨w.heap.size,0,none⟩) 1 1) [f]:=
 ⟨rfl,.inr ⟨_,1,P16.evc f,rfl,Nat.le_refl _,heap_alloc_new _ _,Nat.le_refl _,by unfold maxLen;omega,rfl,by simp[P16.ecells,P16.evc]⟩⟩
theorem OwnI.one(w:World)(e:TypeId)(k:IntKind)(x:Int):OwnI (w.alloc (.cells #[.int k x] e)) w.heap.size e k (.slice (some ⟨w.heap.size,0,none⟩) 1 1) [x]:=
 ⟨rfl,.inr ⟨_,1,#[.int k x],rfl,Nat.le_refl _,heap_alloc_new _ _,Nat.le_refl _,by unfold maxLen;omega,rfl,by simp⟩⟩
def QSame(q r:P11.Lg):Prop:=r.ac=q.ac∧∀ f,(r.fs f).th=(q.fs f).th∧(r.fs f).acc=(q.fs f).acc∧(r.fs f).res=(q.fs f).res
theorem QSame.refl(q:P11.Lg):QSame q q:=⟨rfl,fun _=>⟨rfl,rfl,rfl⟩⟩
theorem QSame.trans{q r t:P11.Lg}(h:QSame q r)(k:QSame r t):QSame q t:=⟨k.1.trans h.1,fun f=>⟨(k.2 f).1.trans (h.2 f).1,(k.2 f).2.1.trans (h.2 f).2.1,(k.2 f).2.2.trans (h.2 f).2.2⟩⟩
theorem qsame_end(q:P11.Lg)(f:Nat):QSame q (endQ q f):=⟨(endQ_facts q f 0).2.2.2,fun g=>⟨(endQ_facts q f g).1,(endQ_facts q f g).2.1,(endQ_facts q f g).2.2.1⟩⟩
theorem qsame_beg(q:P11.Lg)(f:Nat):QSame q (begQ q f):=⟨(begQ_facts q f 0).2.2.2,fun g=>⟨(begQ_facts q f g).1,(begQ_facts q f g).2.1,(begQ_facts q f g).2.2.1⟩⟩
def FSame(c d:Nat→Option Fnc):Prop:=∀ f y,d f=some y→∃ x,c f=some x∧y.account=x.account∧y.mem=x.mem∧y.keep=x.keep∧y.cost=x.cost
theorem FSame.refl(c:Nat→Option Fnc):FSame c c:=fun f y h=>⟨y,h,rfl,rfl,rfl,rfl⟩
theorem FSame.trans{c d e:Nat→Option Fnc}(h:FSame c d)(k:FSame d e):FSame c e:=fun f y hy=>by
 obtain⟨x,hx,k1,k2,k3,k4⟩:=k f y hy;obtain⟨z,hz,h1,h2,h3,h4⟩:=h f x hx;exact⟨z,hz,k1.trans h1,k2.trans h2,k3.trans h3,k4.trans h4⟩
theorem fsame_last(c:Nat→Option Fnc)(f:Nat)(now:Int):FSame c (lastF c f now):=fun g y hy=>by
 obtain⟨x,hx,h⟩:=lastF_some hy;rcases h with h|⟨-,h⟩
 ·subst h;exact⟨y,hx,rfl,rfl,rfl,rfl⟩
 ·subst h;exact⟨x,hx,rfl,rfl,rfl,rfl⟩
theorem fsame_set{c:Nat→Option Fnc}{f:Nat}{x y:Fnc}(hx:c f=some x)(h1:y.account=x.account)(h2:y.mem=x.mem)(h3:y.keep=x.keep)(h4:y.cost=x.cost):FSame c (fset c f y):=fun g z hz=>by
 unfold fset at hz;split at hz
 ·rename_i e
  subst e;cases hz
  exact⟨x,hx,h1,h2,h3,h4⟩
 ·exact⟨z,hz,rfl,rfl,rfl,rfl⟩
structure Tba (s t:St):Prop where
 tok:t.tok=s.tok
 now:t.now=s.now
 acc:FSame s.fns t.fns
 quo:QSame s.quo t.quo
theorem Tba.refl(s:St):Tba s s:=⟨rfl,rfl,FSame.refl _,QSame.refl _⟩
theorem Tba.trans{s t u:St}(h:Tba s t)(k:Tba t u):Tba s u:=⟨k.tok.trans h.tok,k.now.trans h.now,h.acc.trans k.acc,h.quo.trans k.quo⟩
theorem Tba.pre{s t u:St}(k:Tba t u)(h:Tba s t):Tba s u:=h.trans k
theorem Tba.like{s t:St}(h1:t.tok=s.tok)(h2:t.now=s.now)(h3:t.fns=s.fns)(h4:t.quo=s.quo):Tba s t:=⟨h1,h2,by rw[h3];exact FSame.refl _,by rw[h4];exact QSame.refl _⟩
theorem tba_gone(s:St)(i:Nat):Tba s (goneS s i):=by
 unfold goneS;split
 ·exact Tba.refl s
 ·refine⟨rfl,rfl,?_,?_⟩
  ·dsimp only;split
   ·exact fsame_last _ _ _
   ·exact FSame.refl _
  ·dsimp only;split
   ·exact qsame_end _ _
   ·exact QSame.refl _
theorem tba_kill(s:St)(i:Nat):Tba s (killS s i):=by
 unfold killS;split
 ·exact Tba.refl s
 ·exact(tba_gone s i).trans (Tba.like rfl rfl rfl rfl)
theorem tba_idle(s:St)(i:Nat)(e:Int):Tba s (idleS s i e):=by
 unfold idleS;split
 ·exact Tba.refl s
 ·split
  ·exact tba_kill s i
  ·split
   ·exact Tba.refl s
   ·exact Tba.like rfl rfl rfl rfl
theorem tba_start(s:St)(f h:Nat):Tba s (startS s f h):=by
 unfold startS;split
 ·exact Tba.refl s
 ·exact Tba.like rfl rfl rfl rfl
theorem tba_take(s:St)(k:Nat)(id:Int):Tba s (takeS s k id):=Tba.like rfl rfl rfl rfl
theorem tba_takeB(s:St)(i:Nat):Tba s (takeB s i):=by unfold takeB;split;exact tba_take _ _ _;exact Tba.refl s
theorem tba_pinB(s:St)(i:Nat)(v:Bool):Tba s (pinB s i v):=by
 unfold pinB;split
 ·exact Tba.like rfl rfl rfl rfl
 ·exact Tba.refl s
theorem tba_evict1(s:St)(h:Nat):Tba s (evict1 s h):=by
 unfold evict1;exact(tba_kill _ _).pre (Tba.like rfl rfl rfl rfl)
theorem tba_evictS(mem:Int)(h:Nat):∀ (n:Nat) (s:St),Tba s (evictS mem h n s):=by
 intro n
 induction n with
 | zero=>intro s;exact Tba.refl s
 | succ n ih=>
  intro s;unfold evictS;split
  ·exact(tba_evict1 s h).trans (ih _)
  ·exact Tba.refl s
theorem tba_roomFrom(mem:Int):∀ (n h:Nat) (s:St),Tba s (roomFrom mem n h s).1:=by
 intro n
 induction n with
 | zero=>intro h s;exact Tba.refl s
 | succ n ih=>
  intro h s;unfold roomFrom;split
  ·exact tba_evictS mem h 4097 s
  ·exact ih (h+1) s
theorem tba_room(s:St)(mem:Int):Tba s (roomS s mem).1:=by
 unfold roomS;split
 ·exact Tba.refl s
 ·exact tba_roomFrom mem 32 0 s
theorem tba_roomE{s r:St}{m:Int}{k:Option Nat}(e:roomS s m=(r,k)):Tba s r:=by
 have:=tba_room s m;rw[e] at this;exact this
theorem tba_unpin(f:Nat)(s:St)(id:Int):Tba s (unpin f s id):=by
 unfold unpin;split
 ·exact(tba_pinB s _ _).trans (tba_idle _ _ _)
 ·exact tba_pinB s _ _
theorem tba_pin1(s:St)(i:Nat):Tba s (pin1 s i):=(tba_takeB s i).trans (tba_pinB _ _ _)
theorem tba_pinMore(s:St)(f:Nat):Tba s (pinMore s f).1:=by
 unfold pinMore;split
 ·exact tba_pin1 s _
 ·have h:=tba_room s (memF s f)
  split
  ·rename_i e;rw[e] at h;exact h
  ·rename_i e;rw[e] at h;exact(h.trans (tba_start _ _ _)).trans (tba_pin1 _ _)
theorem tba_pinUp(f:Nat):∀ (n:Nat) (s:St),Tba s (pinUp f n s):=by
 intro n
 induction n with
 | zero=>intro s;exact Tba.refl s
 | succ n ih=>
  intro s;unfold pinUp;split
  ·exact(tba_pinMore s f).trans (ih _)
  ·exact tba_pinMore s f
theorem tba_fold(g:St→Int→St)(hg:∀ s x,Tba s (g s x)):∀ (l:List Int) (s:St),Tba s (l.foldl g s):=by
 intro l
 induction l with
 | nil=>intro s;exact Tba.refl s
 | cons a l ih=>intro s;exact(hg s a).trans (ih _)
theorem tba_keep(f:Nat)(s:St):Tba s (keepS f s):=by
 unfold keepS;split
 ·exact Tba.refl s
 ·exact(tba_fold _ (tba_unpin f) _ s).trans (tba_pinUp f _ _)
theorem tba_keepAll(s:St):Tba s (keepAllS s):=tba_fold _ (fun s x=>tba_keep x.toNat s) _ s
theorem tba_begin(s:St)(f i:Nat):Tba s (beginS s f i):=by
 unfold beginS;split
 ·rename_i x b hx hb
  refine⟨rfl,rfl,?_,qsame_beg _ _⟩;refine fsame_set hx ?_ ?_ ?_ ?_ <;> (dsimp only;split <;> rfl)
 ·exact Tba.refl s
theorem tba_host(s:St)(e:P16.Evt):Tba s (hostS s e).1:=by
 unfold hostS;split
 ·exact Tba.refl s
 split
 ·exact Tba.refl s
 ·exact(tba_keepAll _).pre (Tba.like rfl rfl rfl rfl)
theorem tba_drain1(s:St)(x:Int):Tba s (drain1 s x):=by unfold drain1;split;exact tba_pinB _ _ _;exact tba_kill _ _
theorem tba_drain(s:St)(n:Int):Tba s (drainS s n).1:=by
 unfold drainS;split
 ·exact Tba.refl s
 split
 ·exact Tba.refl s
 ·show Tba s (keepAllS (List.foldl drain1 { s with hosts:=P13.put s.hosts n.toNat (P13.swept { s.hosts n.toNat with dr:=true }) } _))
  refine Tba.trans ?_ (tba_keepAll _);exact(tba_fold drain1 tba_drain1 _ _).pre (Tba.like rfl rfl rfl rfl)
theorem tba_fail(s:St)(n:Int):Tba s (failS s n).1:=by
 unfold failS;split
 ·exact Tba.refl s
 ·exact(tba_fold (fun s id=>goneS s (id.toNat - 1)) (fun s x=>tba_gone s _) _ s).trans ((tba_keepAll _).pre (Tba.like rfl rfl rfl rfl))
theorem tba_booted(s:St)(n:Int):Tba s (bootedS s n).1:=by
 unfold bootedS;split
 ·exact Tba.refl s
 split
 ·exact Tba.refl s
 split
 ·exact Tba.refl s
 ·have h:∀ b q,Tba s { s with boxes:=s.boxes.set b q,unt:=gdel s.unt n }:=fun b q=>Tba.like rfl rfl rfl rfl
  show Tba s (if _ then _ else _);split
  ·exact(h _ _).trans (tba_idle _ _ _)
  ·exact h _ _
theorem tba_broke(s:St)(n:Int):Tba s (brokeS s n).1:=by
 unfold brokeS;split
 ·exact Tba.refl s
 split
 ·exact Tba.refl s
 ·exact(tba_gone _ _).trans (tba_keep _ _)
theorem tba_done(s:St)(n:Int):Tba s (doneS s n).1:=by
 unfold doneS;split
 ·exact Tba.refl s
 split
 ·exact Tba.refl s
 rename_i b hb;split
 ·exact Tba.refl s
 ·have h:∀ q,Tba s { s with boxes:=s.boxes.set (n.toNat - 1) q,quo:=endQ s.quo b.fn.toNat,fns:=lastF s.fns b.fn.toNat s.now }:=fun q=>⟨rfl,rfl,fsame_last _ _ _,qsame_end _ _⟩
  show Tba s (if _ then _ else if _ then _ else if _ then _ else _);split
  ·exact(tba_kill _ _).pre (h _)
  split
  ·exact h _
  split
  ·refine(tba_kill _ _).pre (Tba.trans (h (P12.done b s.now).1) ⟨rfl,rfl,?_,QSame.refl _⟩)
   dsimp only;split
   ·rename_i x hx
    exact fsame_set hx rfl rfl rfl rfl
   ·exact FSame.refl _
  ·exact(tba_idle _ _ _).pre (h _)
theorem tba_ahead(s:St)(f:Nat):Tba s (aheadS s f):=by
 unfold aheadS;split
 ·exact Tba.refl s
 split
 ·exact Tba.refl s
 split
 ·exact Tba.refl s
 ·exact(tba_start s _ _).trans (Tba.like rfl rfl rfl rfl)
theorem tba_time1(s:St):Tba s (time1 s):=by
 unfold time1;simp only;split
 ·exact(tba_kill _ _).pre (Tba.like rfl rfl rfl rfl)
 ·exact(tba_ahead _ _).pre (Tba.like rfl rfl rfl rfl)
theorem tba_times:∀ (n:Nat) (s:St),Tba s (timesS n s):=by
 intro n
 induction n with
 | zero=>intro s;exact Tba.refl s
 | succ n ih=>
  intro s;unfold timesS;split
  ·exact(tba_time1 s).trans (ih _)
  ·exact Tba.refl s
theorem tba_tick{s:St}(h:s.now≠1099511627776):Tba (tickH s) (tickS s):=by
 rw[tickS_eq h];exact(tba_times _ _).trans (tba_keepAll _)
theorem tba_call(s:St)(n:Int):(Tba s (callS s n).1∧(callS s n).2.1≠3)∨∃ x t,s.fns n.toNat=some x∧s.tok x.account=some t∧t.t≠0∧(callS s n).2.1=3 ∧
  Tba { s with tok:=tset s.tok x.account { t with t:=t.t - 1 } } (callS s n).1:=by
 unfold callS;split
 ·exact .inl ⟨Tba.refl s,(by decide:(1:Int)≠3)⟩
 split
 ·exact .inl ⟨Tba.refl s,(by decide:(4:Int)≠3)⟩
 split
 ·exact .inl ⟨Tba.refl s,(by decide:(4:Int)≠3)⟩
 split
 ·exact .inl ⟨Tba.refl s,(by decide:(1:Int)≠3)⟩
 rename_i x hx;split
 ·exact .inl ⟨tba_begin _ _ _,(by decide:(2:Int)≠3)⟩
 split
 ·exact .inl ⟨Tba.refl s,(by decide:(4:Int)≠3)⟩
 rename_i t ht;split
 ·exact .inl ⟨Tba.refl s,(by decide:(4:Int)≠3)⟩
 rename_i h0;split
 ·rename_i s1 e
  exact .inl ⟨tba_roomE e,(by decide:(4:Int)≠3)⟩
 ·rename_i s1 h e
  refine .inr ⟨x,t,hx,ht,h0,rfl,?_⟩;have hr:=tba_roomE e;refine Tba.trans (t:={ s1 with tok:=tset s1.tok x.account { t with t:=t.t - 1 } }) ⟨by dsimp only;rw[hr.tok],hr.now,hr.acc,hr.quo⟩ ?_;exact(tba_start _ _ _).trans (tba_begin _ _ _)
end Go.Proofs.YtigeldkbfbcpmaaGreat
