/- A part of the proof: what the functions of the program come to, and what holds at all times. -/
import Derived.Test.YtigeldkbfbcpmaaGreatM41
import Derived.Test.YtigeldkbfbcpmaaGreatM21
import Derived.Test.YtigeldkbfbcpmaaGreatM31
import Derived.Test.YtigeldkbfbcpmaaGreatM20
import Derived.Test.YtigeldkbfbcpmaaGreatM43
import Derived.Test.YtigeldkbfbcpmaaGreatM25
set_option linter.unusedVariables false
set_option linter.unusedSectionVars false
set_option linter.unusedSimpArgs false
set_option maxRecDepth 100000
set_option maxHeartbeats 8000000
namespace Go.Proofs.YtigeldkbfbcpmaaGreat
open Go.RowKit Go.Kpt
def ansc(a:Ans):List Value:=[.int .i64 a.1,.int .i64 a.2.1,.int .i64 a.2.2.1,.int .i64 a.2.2.2]
def stpCells(x:Stp×Value):List Value:=(P16.evc x.1.1).toList++(ansc x.1.2.1++[x.2])
def scells(l:List (Stp×Value)):List Value:=l.flatMap stpCells
theorem stpCells_len(x:Stp×Value):(stpCells x).length=15:=by simp[stpCells,ansc,P16.evc]
theorem scells_len(l:List (Stp×Value)):(scells l).length=l.length*15:=by
 induction l with
 | nil=>rfl
 | cons a l ih=>
  have e:scells (a :: l)=stpCells a++scells l:=rfl;rw[e,List.length_append,ih,stpCells_len,List.length_cons];omega
theorem scells_snoc(l:List (Stp×Value))(x:Stp×Value):scells (l++[x])=scells l++stpCells x:=by simp[scells]
theorem scells_get(l:List (Stp×Value)):∀ (i j:Nat) (x:Stp×Value),l[i]?=some x→j < 15→(scells l)[i*15+j]?=(stpCells x)[j]?:=by
 induction l with
 | nil=>intro i j x h;simp at h
 | cons a l ih=>
  intro i j x h hj;have e:scells (a :: l)=stpCells a++scells l:=rfl;have ha:=stpCells_len a;cases i with
  | zero=>
   simp at h;subst h;rw[e,List.getElem?_append_left (by omega)];simp
  | succ i=>
   rw[e,List.getElem?_append_right (by rw[ha];omega),ha,show (i+1)*15+j - 15=i*15+j by omega];exact ih i j x (by simpa using h) hj
def Cmds(w:World)(P:Nat→Prop)(v:Value)(l:List Cmd):Prop:=w.ownsRow 0 43 4 v l.length (outCells l)∧∀ g,v.ownBlock=some g→P g
theorem Cmds.kept{w w':World}{P G:Nat→Prop}{v:Value}{l:List Cmd}(h:Cmds w P v l)(k:Kept G w w')(hG:∀ x,P x→¬ G x):Cmds w' P v l:=⟨row_kept h.1 k (fun g hg=>hG g (h.2 g hg)),h.2⟩
theorem Cmds.mono{w:World}{P Q:Nat→Prop}{v:Value}{l:List Cmd}(h:Cmds w P v l)(hq:∀ x,P x→Q x):Cmds w Q v l:=⟨h.1,fun g hg=>hq g (h.2 g hg)⟩
theorem Cmds.lt{w:World}{P:Nat→Prop}{v:Value}{l:List Cmd}(h:Cmds w P v l)(g:Nat)(hg:v.ownBlock=some g):g < w.heap.size:=(World.ownsRow.lt h.1 g hg).2
theorem Cmds.one{w:World}{P:Nat→Prop}{v:Value}{l:List Cmd}(h:Cmds w P v l):v.oneCell'=true∧∃ a cap,v=.slice a l.length cap:=by
 rcases h.1.2 with ⟨h1,h2⟩|⟨g,cap,cur,rfl,_⟩
 ·subst h1;exact⟨rfl,_,_,by rw[h2]⟩
 ·exact⟨rfl,_,_,rfl⟩
structure OwnT (w:World) (P:Nat→Prop) (v:Value) (L:List (Stp×Value)):Prop where
 row:w.ownsRow 0 41 15 v L.length (scells L)
 blk:∀ g,v.ownBlock=some g→P g
 cmd:∀ x ∈ L,Cmds w (fun g=>P g∧v.ownBlock≠some g) x.2 x.1.2.2
theorem OwnT.kept{w w':World}{P G:Nat→Prop}{v:Value}{L:List (Stp×Value)}(h:OwnT w P v L)(k:Kept G w w')(hG:∀ x,P x→¬ G x):OwnT w' P v L:=
 ⟨row_kept h.row k (fun g hg=>hG g (h.blk g hg)),h.blk,fun x hx=>(h.cmd x hx).kept k (fun g hg=>hG g hg.1)⟩
theorem OwnT.mono{w:World}{P Q:Nat→Prop}{v:Value}{L:List (Stp×Value)}(h:OwnT w P v L)(hq:∀ x,P x→Q x):OwnT w Q v L:=
 ⟨h.row,fun g hg=>hq g (h.blk g hg),fun x hx=>(h.cmd x hx).mono (fun g hg=>⟨hq g hg.1,hg.2⟩)⟩
theorem OwnT.nil(w:World)(P:Nat→Prop):OwnT w P (.slice none 0 0) []:=⟨World.ownsRow_nil w 0 41 15,(fun g hg=>by cases hg),(fun x hx=>by cases hx)⟩
theorem OwnT.lt{w:World}{P:Nat→Prop}{v:Value}{L:List (Stp×Value)}(h:OwnT w P v L)(g:Nat)(hg:v.ownBlock=some g):g < w.heap.size:=(World.ownsRow.lt h.row g hg).2
theorem OwnT.shape{w:World}{P:Nat→Prop}{v:Value}{L:List (Stp×Value)}(h:OwnT w P v L):∃ a cap,v=.slice a L.length cap∧L.length≤cap ∧
  ∀ (i:Nat) (x:Stp×Value),L[i]?=some x→∃ b,a=some ⟨b,0,none⟩∧P b∧∀ j,j < 15→w.cell? ⟨b,i*15+j,none⟩=(stpCells x)[j]?:=by
 have hb:=h.blk;rcases h.row.2 with ⟨h1,h2⟩|⟨g,cap,cur,rfl,_,hg,hl,hm,hs,ht⟩
 ·subst h1
  refine⟨none,0,by rw[h2],by omega,fun i x hx=>?_⟩;rw[List.eq_nil_of_length_eq_zero h2] at hx;simp at hx
 ·refine⟨_,cap,rfl,hl,fun i x hx=>⟨g,rfl,hb g rfl,fun j hj=>?_⟩⟩
  have hi:i < L.length:=by
   rcases Nat.lt_or_ge i L.length with hh|hh
   ·exact hh
   ·rw[List.getElem?_eq_none hh] at hx;cases hx
  rw[cell_of hg,← scells_get L i j x hx hj,← ht,List.getElem?_take,if_pos (by omega)];simp
def Steps(w:World)(P:Nat→Prop)(v:Value)(l:List Stp):Prop:=∃ L,OwnT w P v L∧L.map (·.1)=l
theorem Steps.kept{w w':World}{P G:Nat→Prop}{v:Value}{l:List Stp}(h:Steps w P v l)(k:Kept G w w')(hG:∀ x,P x→¬ G x):Steps w' P v l:=by
 obtain⟨L,h,e⟩:=h;exact⟨L,h.kept k hG,e⟩
theorem Steps.mono{w:World}{P Q:Nat→Prop}{v:Value}{l:List Stp}(h:Steps w P v l)(hq:∀ x,P x→Q x):Steps w Q v l:=by
 obtain⟨L,h,e⟩:=h;exact⟨L,h.mono hq,e⟩
theorem Steps.nil(w:World)(P:Nat→Prop):Steps w P (.slice none 0 0) []:=⟨[],OwnT.nil w P,rfl⟩
theorem Steps.lt{w:World}{P:Nat→Prop}{v:Value}{l:List Stp}(h:Steps w P v l)(g:Nat)(hg:v.ownBlock=some g):g < w.heap.size:=by
 obtain⟨L,h,-⟩:=h;exact h.lt g hg
theorem Steps.blk{w:World}{P:Nat→Prop}{v:Value}{l:List Stp}(h:Steps w P v l)(g:Nat)(hg:v.ownBlock=some g):P g:=by
 obtain⟨L,h,-⟩:=h;exact h.blk g hg
def ncmd:Cmd:=⟨false,0,0,0⟩
def nstp:Stp:=(P16.noev,(0,0,0,0),[])
theorem Steps.shape{w:World}{P:Nat→Prop}{v:Value}{l:List Stp}(h:Steps w P v l):∃ a cap,v=.slice a l.length cap∧l.length≤cap ∧
  ∀ i,i < l.length→∃ b v',a=some ⟨b,0,none⟩∧P b∧Cmds w P v' (l.getD i nstp).2.2∧∀ j,j < 15→w.cell? ⟨b,i*15+j,none⟩=(stpCells (l.getD i nstp,v'))[j]?:=by
 obtain⟨L,h,rfl⟩:=h;obtain⟨a,cap,rfl,hcap,hs⟩:=h.shape;refine⟨a,cap,by rw[List.length_map],by rw[List.length_map];exact hcap,fun i hi=>?_⟩;rw[List.length_map] at hi;have hx:L[i]?=some L[i]:=List.getElem?_eq_getElem hi;obtain⟨b,hb,hP,hc⟩:=hs i _ hx;have e:(L.map (·.1)).getD i nstp=L[i].1:=by simp[List.getD_eq_getElem?_getD,hi]
 rw[e];exact⟨b,L[i].2,hb,hP,(h.cmd _ (List.getElem_mem hi)).mono (fun g hg=>hg.1),hc⟩
theorem info41:(Tryz.prog.info? 41).map (fun i=>(i.zero,i.size,i.bytes))=some (some (.agg #[.int .i64 0,.int .i64 0,.int .i64 0,.int .i64 0,.int .i64 0,.int .i64 0,.int .i64 0,.int .i64 0,.int .i64 0,.int .i64 0,.int .i64 0,.int .i64 0,.int .i64 0,.int .i64 0,.slice none 0 0]),15,136):=by kernel_rfl
theorem wpList_append_stp{ops:Array Oper}{rest:List Oper}{o:Oper}{a:Act}{w:World}{Q:Exit→Act→World→Prop}(hgd:o.guard=none)(s x:Operand)
  (ho:o.op=.call { callee:=.builtin .append,args:=#[s,x],argTypes:=#[29,29] })
  (P:Nat→Prop) (hP:∀ x,P x→x < w.heap.size) (v:Value) (L:List (Stp×Value)) (hs:a.eval s=v) (hown:OwnT w P v L) (b c:Nat) (y:Stp×Value) (hx:a.eval x=.slice (some ⟨b,0,none⟩) 1 c)
  (hy:w.heap[b]?=some (.cells (stpCells y).toArray 41 (0,0))) (hyc:Cmds w (fun g=>P g∧v.ownBlock≠some g) y.2 y.1.2.2)
  (hl:L.length≤1000000)
  (h:∀ v' w',OwnT w' (fun x=>P x∨(x=w.heap.size∧x < w'.heap.size)) v' (L++[y])→Kept (fun x=>some x=v.ownBlock) w w'→wpList Tryz.prog ops Q rest (a.put o.dst v') w'):
  wpList Tryz.prog ops Q (o :: rest) a w:=by
 obtain⟨i0,hi,hz0,hz1,hz2⟩:=info_parts info41;have hone:∀ u ∈ stpCells y,u.oneCell'=true:=by
  intro u hu;simp only[stpCells,ansc,P16.evc,List.cons_append,List.nil_append,List.mem_cons,List.not_mem_nil,or_false] at hu;rcases hu with rfl|rfl|rfl|rfl|rfl|rfl|rfl|rfl|rfl|rfl|rfl|rfl|rfl|rfl|rfl
  all_goals first | rfl | exact hyc.one.1
 refine wpList_append_own_at w hgd s x 29 ho 0 41 i0 _ 15 136 Tryz.underlying29 hi hz0 hz1 hz2 rfl (by omega) v L.length (scells L) hs hown.row ⟨b,0,none⟩ 1 c (stpCells y) hx (stpCells_len y) (fun j u hj=>?_) hone (by unfold maxLen;omega) (by omega) (Nat.zero_le _) ?_
 ·have hplain:(⟨b,0,none⟩:Addr).add j=⟨b,j,none⟩:=by unfold Addr.add;split <;> simp_all
  rw[hplain];exact(cell_of hy).trans (by simpa using hj)
 ·intro v' w' h1 h2 _ h4
  have k:Kept (fun x=>some x=v.ownBlock) w w':=Kept.of_grown h2;refine h v' w' ⟨?_,fun g hg=>?_,fun z hz=>?_⟩ k
  ·rw[scells_snoc,List.length_append]
   exact h1
  ·rcases h4 with h4 | h4
   ·rw[h4] at hg;exact .inl (hown.blk g hg)
   ·rw[h4] at hg
    cases hg
    exact .inr ⟨rfl,(World.ownsRow.lt h1 _ h4).2⟩
  ·have hz':Cmds w (fun g=>P g∧v.ownBlock≠some g) z.2 z.1.2.2:=by
    rcases List.mem_append.1 hz with hz|hz
    ·exact hown.cmd z hz
    ·rw[List.mem_singleton] at hz;subst hz;exact hyc
   refine(hz'.kept k (fun g hg he=>hg.2 he.symm)).mono (fun g hg=>⟨.inl hg.1,fun he=>?_⟩);rcases h4 with h4|h4
   ·rw[h4] at he;exact hg.2 he
   ·rw[h4] at he
    cases he
    have:=hP _ hg.1;omega
theorem tx_new{w w':World}{cb:Nat}(hs:w.heap.size≤w'.heap.size)(h:P14.TX w' w.heap.size cb [] (fun _=>False)):P14.TX w' 0 cb [] (Off w' (fun x=>w.heap.size≤x∧x < w'.heap.size))∧w.heap.size≤cb∧cb < w'.heap.size:=by
 obtain⟨hb,v,mb,h,-⟩:=h;refine⟨⟨hb,v,mb,⟨h.blk,⟨h.hp.blk,row_base0 h.hp.own,h.hp.mp,h.hp.inj,h.hp.wf,h.hp.len⟩,Nat.zero_le _,Nat.zero_le _,Nat.zero_le _,Nat.zero_le _⟩,fun x hx=>⟨hx.1,fun e=>hx.2 ⟨(h.lt e).2,(h.lt e).1⟩⟩⟩,h.cb,lt_of h.blk⟩
structure NewAt (w0 w:World) (q m1 m2 hb m3 m4 m5 cb:Nat) (wt:World):Prop where
 fq:P11.Lq w q P11.l0
 fh:P13.Hq w hb (fun _=>⟨false,false,0,0⟩)
 ft:P14.TX w 0 cb [] (Off w (fun x=>wt.heap.size≤x∧x < w.heap.size))
 fm1:Pm w m1 0 (fun _=>none)
 fm2:Pm w m2 0 (fun _=>none)
 fm3:Pm w m3 0 (fun _=>none)
 fm4:Pm w m4 0 (fun _=>none)
 fm5:Um w m5 0 (fun _=>none)
 ord:w0.heap.size≤q∧q < m1∧m1 < m2∧m2 < hb∧hb < m3∧m3 < m4∧m4 < m5∧m5 < wt.heap.size∧wt.heap.size≤cb∧cb < w.heap.size
def newA(c q m1 m2 hb m3 m4 m5 cb:Nat):Adr:=⟨c,q,hb,cb,m1,m2,m3,m4,m5,fun _=>0,fun _=>0,fun _=>0,fun _=>0,fun _=>0,fun _=>0⟩
def newOwn(c q m1 m2 hb m3 m4 m5:Nat)(wt:World):Part→Nat→Prop
 | .core,x=>x=c
 | .quo,x=>x=q
 | .hosts,x=>x=hb
 | .tim,x=>wt.heap.size≤x∧x < c
 | .tokM,x=>x=m1
 | .fnM,x=>x=m2
 | .cacM,x=>x=m3
 | .boxM,x=>x=m4
 | .untM,x=>x=m5
 | .tok _,_=>False
 | .fn _,_=>False
 | .his _,_=>False
 | .rng _,_=>False
 | .cac _,_=>False
 | .box _,_=>False
theorem NewAt.sys{w0 w W:World}{q m1 m2 hb m3 m4 m5 cb:Nat}{wt:World}(n:NewAt w0 w q m1 m2 hb m3 m4 m5 cb wt)(hB:Below w.heap.size w W)(hc:W.heap[w.heap.size]?=some (.cells (coreCells s0 (newA w.heap.size q m1 m2 hb m3 m4 m5 cb) (.slice none 0 0)) 96 (0,0))):
  Sys W s0 (newA w.heap.size q m1 m2 hb m3 m4 m5 cb) (fun x=>w0.heap.size≤x∧x < W.heap.size):=by
 obtain⟨o1,o2,o3,o4,o5,o6,o7,o8,o9,o10⟩:=n.ord;have hlt:=lt_of hc;have k:Kept (fun _=>False) w W:=Kept.of_below hB;refine⟨newOwn w.heap.size q m1 m2 hb m3 m4 m5 wt,⟨fun p=>?_,fun p x hx=>?_,fun p r x hx hy=>?_⟩,fun p x hx=>?_⟩
 ·cases p with
  | core=>exact⟨rfl,_,hc,fun l hl=>by cases hl⟩
  | quo=>exact⟨rfl,n.fq.kept k (fun h=>h)⟩
  | hosts=>exact⟨rfl,n.fh.kept k (fun h=>h)⟩
  | tim=>exact⟨⟨o9,o10⟩,tx_frame n.ft k (fun _ _ h=>h)⟩
  | tokM=>
   refine⟨rfl,0,?_⟩;have e:mTok s0 (newA w.heap.size q m1 m2 hb m3 m4 m5 cb)=fun _=>none:=by funext k;unfold mTok;split <;> rfl
   rw[e];exact n.fm1.kept k (fun h=>h)
  | fnM=>
   refine⟨rfl,0,?_⟩;have e:mFn s0 (newA w.heap.size q m1 m2 hb m3 m4 m5 cb)=fun _=>none:=by funext k;unfold mFn;split <;> rfl
   rw[e];exact n.fm2.kept k (fun h=>h)
  | cacM=>
   refine⟨rfl,0,fun _=>none,n.fm3.kept k (fun h=>h),(fun k hk=>by cases hk),fun k=>?_⟩;unfold mCac;split <;> rfl
  | boxM=>
   refine⟨rfl,0,?_⟩;have e:mBox s0 (newA w.heap.size q m1 m2 hb m3 m4 m5 cb)=fun _=>none:=by
    funext k;unfold mBox;rw[if_neg (fun h=>by have h1:=h.2.1;have h2:=h.1;have h3:((s0.boxes.length:Nat):Int)=0:=rfl;omega)]
   rw[e];exact n.fm4.kept k (fun h=>h)
  | untM=>exact⟨rfl,0,n.fm5.kept k (fun h=>h)⟩
  | tok a=>intro t ht;cases ht
  | fn a=>intro t ht;cases ht
  | his a=>intro t ht;cases ht
  | rng a=>intro t ht;cases ht
  | cac a=>intro t ht;cases ht
  | box a=>intro t ht;simp[s0] at ht
 ·cases p <;> simp only[newOwn] at hx <;> omega
 ·cases p <;> cases r <;> simp only[newOwn] at hx hy <;> first | rfl | (exact hx.elim) | (exact hy.elim) | (exfalso;omega)
 ·cases p <;> simp only[newOwn] at hx <;> omega
theorem new_any(w:World):Calls Tryz.prog 26 #[] w fun e w'=>∃ A,e=.returned (ptr A.core)∧Sys w' s0 A (fun x=>w.heap.size≤x∧x < w'.heap.size)∧Below w.heap.size w w':=by
 have hmm:=@run_makeMap Tryz.prog;go_enter Tryz.func26,Tryz.ntmps26
 go_wp2_with fail
 refine(P11.new_any _).mono ?_;rintro e w1 ⟨rfl,hq,hB1,hz1⟩;have k23:Kept (fun _=>False) w1 ((w1.alloc (.map #[] 0)).alloc (.map #[] 0)):=((Kept.refl _ w1).alloc _).alloc _;have hm1:Pm ((w1.alloc (.map #[] 0)).alloc (.map #[] 0)) w1.heap.size 0 (fun _=>none):=(Gm.made intK ptrE w1).kept ((Kept.refl (fun _=>False) _).alloc _) (fun h=>h);have hm2:Pm ((w1.alloc (.map #[] 0)).alloc (.map #[] 0)) (w1.alloc (.map #[] 0)).heap.size 0 (fun _=>none):=Gm.made intK ptrE _;have hz3:((w1.alloc (.map #[] 0)).alloc (.map #[] 0)).heap.size=w1.heap.size+2:=by simp
 rw[World.size_alloc] at hm2;obtain⟨w3,hw3⟩:∃ w3,(w1.alloc (.map #[] 0)).alloc (.map #[] 0)=w3:=⟨_,rfl⟩;rw[hw3] at k23 hm1 hm2 hz3;have hq3:=hq.kept k23 (fun h=>h);have k3:Kept (fun _=>False) w w3:=(Kept.of_below hB1).trans k23 (fun _ _ h=>h);obtain⟨q,hqe⟩:∃ q,w.heap.size=q:=⟨_,rfl⟩;obtain⟨m1,hm1e⟩:∃ q,w1.heap.size=q:=⟨_,rfl⟩;go_wp2_with fail
 refine(P13.new_any _).mono ?_;rintro e w4 ⟨rfl,hh4,hB4,hz4⟩;have k4:=Kept.of_below (F:=fun _=>False) hB4;have hq4:=hq3.kept k4 (fun h=>h);have hm14:=hm1.kept k4 (fun h=>h);have hm24:=hm2.kept k4 (fun h=>h);have kk4:=k3.trans k4 (fun _ _ h=>h);clear hq hB1 k23 hm1 hm2 hq3 k3 k4 hB4;have k7:Kept (fun _=>False) w4 (((w4.alloc (.map #[] 0)).alloc (.map #[] 0)).alloc (.map #[] 0)):=(((Kept.refl _ w4).alloc _).alloc _).alloc _;have hm3:Pm (((w4.alloc (.map #[] 0)).alloc (.map #[] 0)).alloc (.map #[] 0)) w4.heap.size 0 (fun _=>none):=(Gm.made intK ptrE w4).kept (((Kept.refl (fun _=>False) _).alloc _).alloc _) (fun h=>h);have hm4:Pm (((w4.alloc (.map #[] 0)).alloc (.map #[] 0)).alloc (.map #[] 0)) (w4.alloc (.map #[] 0)).heap.size 0 (fun _=>none):=(Gm.made intK ptrE _).kept ((Kept.refl (fun _=>False) _).alloc _) (fun h=>h);have hm5:Um (((w4.alloc (.map #[] 0)).alloc (.map #[] 0)).alloc (.map #[] 0)) ((w4.alloc (.map #[] 0)).alloc (.map #[] 0)).heap.size 0 (fun _=>none):=Gm.made intK i64E _;have hz7:(((w4.alloc (.map #[] 0)).alloc (.map #[] 0)).alloc (.map #[] 0)).heap.size=w4.heap.size+3:=by simp
 rw[World.size_alloc] at hm4 hm5;rw[World.size_alloc] at hm5;obtain⟨w7,hw7⟩:∃ w7,((w4.alloc (.map #[] 0)).alloc (.map #[] 0)).alloc (.map #[] 0)=w7:=⟨_,rfl⟩;rw[hw7] at k7 hm3 hm4 hm5 hz7;have hq7:=hq4.kept k7 (fun h=>h);have hh7:=hh4.kept k7 (fun h=>h);have hm17:=hm14.kept k7 (fun h=>h);have hm27:=hm24.kept k7 (fun h=>h);have kk7:=kk4.trans k7 (fun _ _ h=>h);clear hq4 hh4 hm14 hm24 kk4 k7;go_wp2_with fail
 refine(P14.tnew_any _).mono ?_;rintro e w8 ⟨cb,rfl,ht8,hcb,hB8⟩;have k8:=Kept.of_below (F:=fun _=>False) hB8;have hz8:=hB8.size;obtain⟨t1,t2,t3⟩:=tx_new hz8 ht8;have N8:NewAt w w8 w.heap.size w1.heap.size (w1.heap.size+1) w3.heap.size w4.heap.size (w4.heap.size+1) (w4.heap.size+1+1) cb w7:=
  ⟨hq7.kept k8 (fun h=>h),hh7.kept k8 (fun h=>h),t1,hm17.kept k8 (fun h=>h),hm27.kept k8 (fun h=>h),hm3.kept k8 (fun h=>h),hm4.kept k8 (fun h=>h),hm5.kept k8 (fun h=>h),by omega⟩
 have kk8:=kk7.trans k8 (fun _ _ h=>h);have hS9:=N8.sys (W:=w8.alloc (.cells (coreCells s0 (newA w8.heap.size w.heap.size w1.heap.size (w1.heap.size+1) w3.heap.size w4.heap.size (w4.heap.size+1) (w4.heap.size+1+1) cb) (.slice none 0 0)) 96)) ((Below.refl _ w8).alloc (Nat.le_refl _) _) (heap_alloc_new _ _);have kk9:=(kk8.alloc (.cells (coreCells s0 (newA w8.heap.size w.heap.size w1.heap.size (w1.heap.size+1) w3.heap.size w4.heap.size (w4.heap.size+1) (w4.heap.size+1+1) cb) (.slice none 0 0)) 96)).below (Nat.le_refl _) (fun _ _ h=>h);have H9:=Lib.hid (And.intro hS9 kk9);clear hS9 kk9 N8 t1 t2 t3 ht8 hcb hB8 k8 hq7 hh7 hm17 hm27 hm3 hm4 hm5 kk7 kk8 hz8;go_wp2_with fail
 go_ret
 simp only[hz4,hz3,hz1,hqe] at H9 ⊢;exact⟨newA w8.heap.size q (q+1) (q+1+1) (q+1+2) (q+1+2+1) (q+1+2+1+1) (q+1+2+1+1+1) cb,rfl,H9.out.1,H9.out.2⟩
def Cr(w:World)(c:Nat)(s:St)(F:Nat→Prop):Prop:=∃ A,A.core=c∧Sys w s A F∧∀ x,F x→x < w.heap.size
theorem Cr.kept{w w':World}{c:Nat}{s:St}{F G:Nat→Prop}(h:Cr w c s F)(k:Kept G w w')(hG:∀ x,F x→¬ G x):Cr w' c s F:=by
 obtain⟨A,h1,h2,h3⟩:=h;exact⟨A,h1,h2.kept k hG,fun x hx=>Nat.lt_of_lt_of_le (h3 x hx) k.size⟩
theorem Cr.below{w w':World}{c:Nat}{s:St}{F:Nat→Prop}(h:Cr w c s F)(k:Below w.heap.size w w'):Cr w' c s F:=h.kept (Kept.of_below (F:=fun _=>False) k) (fun _ _ h=>h)
theorem Cr.lt{w:World}{c:Nat}{s:St}{F:Nat→Prop}(h:Cr w c s F){x:Nat}(hx:F x):x < w.heap.size:=by obtain⟨A,-,-,h3⟩:=h;exact h3 x hx
structure Ok (s:St) (n:Nat):Prop where
 inv:Inv s n none_
 len:s.boxes.length≤65000*n
 unt:UntOk s
 ans:∀ k,0≤s.ans k∧s.ans k≤n
 out:s.out=none
theorem inv0:Inv s0 0 none_ where
 now:=⟨by decide,by decide⟩
 next:=rfl
 box:=fun i x h=>by simp[s0] at h
 fn:=fun f y h=>by cases h
 fnq:=fun f _=>rfl
 quo:=⟨fun h hh=>⟨(by decide:(0:Nat) < 16),(by decide:(0:Int)≤0),(by decide:(0:Int)≤1000),(by decide:(0:Int)≤0),(by decide:(0:Int)≤100000)⟩,fun a ha=>⟨(by decide:(0:Int)≤0),(by decide:(0:Int)≤1000)⟩⟩
 qb:=fun f _=>⟨rfl,(by decide:(0:Int)≤1000)⟩
 qa:=fun a _=>rfl
 host:=fun h _=>⟨⟨⟨(by decide:(0:Int)≤0),(by decide:(0:Int)≤0),(by decide:(0:Int)≤4096)⟩,fun _=>rfl,fun h=>by cases h⟩,rfl⟩
 tok:=fun a t h=>by cases h
 cacLt:=fun h c e=>by cases e
 cacG:=fun h=>HeapPure.Good.nil
 cacK:=fun h=>by show (0:Int)≤1000000*dead s0;have:=(dead_bd s0).1;omega
 cacV:=fun h id m hm=>absurd hm (HeapPure.not_has_nil _ _)
 cacI:=fun h id m hm=>absurd hm (HeapPure.not_has_nil _ _)
 cacS:=fun i x h=>by simp[s0] at h
 timG:=HeapPure.Good.nil
 timI:=fun k t hm=>absurd hm (HeapPure.not_has_nil _ _)
 timS:=fun i x h=>by simp[s0] at h
 out:=by show (0:Int)≤0+dead s0;have:=(dead_bd s0).1;omega
theorem ok0:Ok s0 0:=⟨inv0,Nat.le_refl _,(fun id h=>by cases h),fun k=>⟨Int.le_refl _,Int.le_refl _⟩,rfl⟩
theorem Ok.step{s:St}{n:Nat}(h:Ok s n)(hn:n < 4095)(e:P16.Evt):Ok (doS s e).1 (n+1):=by
 have up:Ok s (n+1):=⟨h.inv.up (by omega),by have:=h.len;omega,h.unt,fun k=>by have:=h.ans k;omega,h.out⟩;by_cases hr:P16.right e
 ·rw[doS_yes hr]
  have hr0:∀ j,0≤e j:=fun j=>by
   rcases hr.2.2 j with h|h|h
   ·subst h;exact hr.1.1
   ·exact(hr.2.1 j h).1
   ·omega
  have hI0:Inv { s with out:=some [] } n none_:=h.inv.aside (some []) s.unt s.ans (by have:=(dead_bd s).1;show ((0:Nat):Int)≤_;omega);have hl:=h.len;obtain⟨a1,a2,a3,a4,a5⟩:=hI0.act_ rfl (show s.boxes.length≤996000000 by omega) h.unt e hr0;have hans:(act0 s e).1.ans=s.ans:=act_ans _ e;have a4:(act0 s e).1.boxes.length≤s.boxes.length+65000:=a4;refine⟨a1.aside none (act0 s e).1.unt _ (by have:=(dead_bd (actS { s with out:=some [] } e).1).1;show ((0:Nat):Int)≤_;omega),?_,a5,fun k=>?_,rfl⟩
  ·show (act0 s e).1.boxes.length≤_
   omega
  ·show 0≤(if (k:Int)=(act0 s e).2.1 then (act0 s e).1.ans k+1 else (act0 s e).1.ans k)∧_
   rw[hans];have hk:=h.ans k;by_cases c:(k:Int)=(act0 s e).2.1
   ·rw[if_pos c];constructor <;> push_cast <;> omega
   ·rw[if_neg c];constructor <;> push_cast <;> omega
 ·rw[doS_no hr];exact up
theorem Ok.evs{l:List P16.Evt}:∀ {s:St} {n:Nat},Ok s n→n+l.length≤4095→Ok (YtigeldkbfbcpmaaGreat.evs s l).1 (n+l.length):=by
 induction l with
 | nil=>intro s n h _;exact h
 | cons e l ih=>
  intro s n h hn;rw[List.length_cons] at hn ⊢;have:=ih (h.step (by omega) e) (by omega);rw[show n+(l.length+1)=n+1+l.length by omega];exact this
def Did(w:World)(F:Nat→Prop)(c:Nat)(s:St)(a:Ans)(l:List Cmd)(r:Ending)(w':World):Prop:=
 ∃ (ov:Value) (F':Nat→Prop),r=.returned (.tuple #[ansV a,ov])∧Cr w' c s F'∧Kept F w w'∧(∀ x,F' x→F x∨w.heap.size≤x)∧Cmds w' (fun g=>¬ F' g∧(F g∨w.heap.size≤g)) ov l
theorem do_any{s:St}{n:Nat}(h:Ok s n)(hn:n < 4095)(e:P16.Evt){w:World}{c:Nat}{F:Nat→Prop}(hC:Cr w c s F):
  Calls Tryz.prog 14 #[.pointer (some ⟨c,0,none⟩),.agg (P16.evc e)] w fun r w'=>Did w F c (doS s e).1 (doS s e).2.1 (doS s e).2.2 r w':=by
 obtain⟨A,rfl,hS,hF⟩:=hC;have fin:∀ {s':St} {a:Ans} {l:List Cmd} (r:Ending) (w':World),Done9 w F A.core s' a l r w'→Did w F A.core s' a l r w':=by
  rintro s' a l r w' ⟨ov,A',F',d1,d2,d3,d4,d5,d6,d7⟩;exact⟨ov,F',d1,⟨A',d2,d3,fun x hx=>(d5 x hx).2⟩,d4,fun x hx=>(d5 x hx).1,d6,d7⟩
 by_cases hr:P16.right e
 ·exact(do_yes s n n h.inv hn (by have:=h.len;omega) h.unt (fun k=>by have:=h.ans k;omega) e hr A F w hS).mono fun r w' hd=>fin r w' hd
 ·rw[doS_no hr]
  exact(do_no s e hr A F w hS).mono fun r w' hd=>fin r w' hd
theorem evs_next(s:St)(l:List P16.Evt)(i:Nat)(h:i < l.length):evs s (l.take (i+1))=((doS (evs s (l.take i)).1 (l.getD i P16.noev)).1,(evs s (l.take i)).2++[(l.getD i P16.noev,(doS (evs s (l.take i)).1 (l.getD i P16.noev)).2)]):=by
 rw[P16.take_snoc l i h P16.noev,evs_append];rfl
theorem events_any(a:Option Addr)(ca:Nat)(la:List P16.Evt)(hla:la.length≤4095)(p:Nat→Prop)(w:World)(ha:P16.SE w p a la)(hp:∀ x,p x→x < w.heap.size):
  Calls Tryz.prog 13 #[.slice a la.length ca] w fun e w'=>∃ c v F,e=.returned (.tuple #[.pointer (some ⟨c,0,none⟩),v])∧Cr w' c (evs s0 la).1 F∧Steps w' (fun x=>w.heap.size≤x∧¬ F x) v (evs s0 la).2∧(∀ x,F x→w.heap.size≤x)∧Below w.heap.size w w':=by
 obtain⟨n,hn⟩:∃ n,la.length=n:=⟨_,rfl⟩;rw[hn] at hla ⊢;go_enter Tryz.func13,Tryz.ntmps13
 go_wp2_with fail
 refine(new_any _).mono ?_;rintro e w1 ⟨A,rfl,hS,hB1⟩;have hC1:Cr w1 A.core (evs s0 (la.take 0)).1 (fun x=>w.heap.size≤x∧x < w1.heap.size):=⟨A,rfl,hS,fun x hx=>hx.2⟩;have ha1:=ha.kept (Kept.of_below (F:=fun _=>False) hB1) (fun _ _ h=>h);obtain⟨c,hc⟩:∃ c,A.core=c:=⟨_,rfl⟩;simp only[ptr];rw[hc] at hC1 ⊢;have hz1:=hB1.size;clear hS ha hc A;go_wp2_with fail
 go_loopw [5,13] (fun v k wr=>∃ (i:Nat) (F:Nat→Prop),k=.int .i64 i∧i≤n∧Cr wr c (evs s0 (la.take i)).1 F∧Steps wr (fun x=>w.heap.size≤x∧x < wr.heap.size∧¬ F x) v (evs s0 (la.take i)).2∧(∀ x,F x→w.heap.size≤x)∧Kept (fun x=>w.heap.size≤x) w1 wr) (fun _ k _=>n - (intOf k).toNat)
 case atStart=>exact⟨0,_,rfl,by omega,hC1,Steps.nil _ _,fun x hx=>hx.1,Kept.refl _ _⟩
 case round=>
  obtain⟨i,F,rfl,hi,hC,hT,hF,hK⟩:=hrel;clear hC1;by_cases hin:i < n
  ·have hse:=ha1.kept hK (fun x hx h=>by have:=hp x hx;omega)
   obtain⟨bk,off,rfl,hbk,e0,e1,e2,e3,e4,e5,e6,e7,e8,e9⟩:=P16.SE.ten hse i (by omega);have hnx:=evs_next s0 la i (by omega);have hOk:Ok (evs s0 (la.take i)).1 i:=by
    have:=ok0.evs (l:=la.take i) (by rw[List.length_take];omega);rw[List.length_take,Nat.min_eq_left (by omega),Nat.zero_add] at this;exact this
   have hlen:=evs_len s0 (la.take i);rw[List.length_take] at hlen;generalize la.getD i P16.noev=f at *;have hE:P16.Ev (wr.alloc (.cells (P16.evc f) 28)) wr.heap.size f:=P16.Ev.new _ _;have kA:Kept (fun _=>False) wr (wr.alloc (.cells (P16.evc f) 28)):=(Kept.refl _ wr).alloc _;have hC2:=hC.kept kA (fun _ _ h=>h);have hT2:=hT.kept kA (fun _ _ h=>h);have hK2:=hK.trans kA (fun _ _ h=>h.elim);have hqb:w.heap.size≤wr.heap.size:=by have:=hK.size;omega
   have hqF:¬ F wr.heap.size:=fun h=>by have:=hC.lt h;omega
   have hza:wr.heap.size < (wr.alloc (.cells (P16.evc f) 28)).heap.size:=by simp
   have hTl:∀ g,u5.ownBlock=some g→g < wr.heap.size:=fun g hg=>hT.lt g hg;obtain⟨q,hq⟩:∃ q,wr.heap.size=q:=⟨_,rfl⟩;obtain⟨wa,hwa⟩:∃ wa,wr.alloc (.cells (P16.evc f) 28)=wa:=⟨_,rfl⟩;rw[hwa] at hE hC2 hT2 hK2 hza;have hdo:=do_any hOk (by omega) f hC2;obtain⟨D,hD⟩:∃ D,doS (evs s0 (la.take i)).1 f=D:=⟨_,rfl⟩;rw[hD] at hdo hnx;obtain⟨sD,⟨x0,x1,x2,x3⟩,lD⟩:=D;have HN:=Lib.hid hnx;simp only[P16.evc] at hwa hdo;rw[hq] at hE hqb hqF hza hTl;clear hC hT hK hse hOk hnx hD kA;go_upto_region 6 with fail
   clear hwa e0 e1 e2 e3 e4 e5 e6 e7 e8 e9;obtain⟨e0,e1,e2,e3,e4,e5,e6,e7,e8,e9⟩:=hE.ten;go_wp2_with fail
   refine hdo.mono ?_;clear hdo e0 e1 e2 e3 e4 e5 e6 e7 e8 e9;rintro r w3 ⟨ov,F',rfl,hC3,hK3,hF3,hc3⟩;dsimp only[ansV] at hC3 hc3 ⊢;obtain⟨-,ao,co,rfl⟩:=hc3.one;have hza3:=hK3.size;have hE3:=hE.kept hK3 hqF;have hP3:∀ x,(w.heap.size≤x∧x < wr.heap.size∧¬ F x)→w.heap.size≤x∧x < w3.heap.size∧¬ F' x:=fun x hx=>⟨hx.1,by omega,fun h=>by
    rcases hF3 x h with h|h
    ·exact hx.2.2 h
    ·omega⟩
   have hT3:=(hT2.kept hK3 (fun x hx=>hx.2.2)).mono hP3;have hF4:∀ x,F' x→w.heap.size≤x:=fun x h=>by
    rcases hF3 x h with h|h
    ·exact hF x h
    ·omega
   have hc4:Cmds w3 (fun g=>(w.heap.size≤g∧g < w3.heap.size∧¬ F' g)∧u5.ownBlock≠some g) (.slice ao lD.length co) lD:=⟨hc3.1,fun g hg=>by
    have h1:=hc3.2 g hg;have h2:=hc3.lt g hg;refine⟨⟨?_,h2,h1.1⟩,fun he=>?_⟩
    ·rcases h1.2 with h | h
     ·exact hF g h
     ·omega
    ·have h3:=hT2.blk g he
     rcases h1.2 with h|h
     ·exact h3.2.2 h
     ·omega⟩
   have hK4:=hK2.trans hK3 (fun x _ h=>hF x h);obtain⟨L,hL,hLe⟩:=hT3;have hLl:L.length=i:=by
    have:=congrArg List.length hLe;rw[List.length_map] at this;omega
   clear hT2 hC2 hK2 hK3 hF3 hc3 hE;obtain⟨e0,e1,e2,e3,e4,e5,e6,e7,e8,e9⟩:=hE3.ten;have k4:Kept (fun _=>False) w3 (w3.alloc (.cells #[.int .i64 x0,.int .i64 x1,.int .i64 x2,.int .i64 x3] 38)):=(Kept.refl _ w3).alloc _;have hA4:(w3.alloc (.cells #[.int .i64 x0,.int .i64 x1,.int .i64 x2,.int .i64 x3] 38)).heap[w3.heap.size]?=some (.cells #[.int .i64 x0,.int .i64 x1,.int .i64 x2,.int .i64 x3] 38 (0,0)):=heap_alloc_new _ _;have hz4:(w3.alloc (.cells #[.int .i64 x0,.int .i64 x1,.int .i64 x2,.int .i64 x3] 38)).heap.size=w3.heap.size+1:=by simp
   obtain⟨w4,hw4⟩:∃ w4,w3.alloc (.cells #[.int .i64 x0,.int .i64 x1,.int .i64 x2,.int .i64 x3] 38)=w4:=⟨_,rfl⟩;rw[hw4] at k4 hA4 hz4;have hE4:=hE3.kept k4 (fun h=>h);have k5:Kept (fun _=>False) w4 (w4.alloc (.cells (stpCells ((f,(x0,x1,x2,x3),lD),.slice ao lD.length co)).toArray 41)):=(Kept.refl _ w4).alloc _;have hA5:(w4.alloc (.cells (stpCells ((f,(x0,x1,x2,x3),lD),.slice ao lD.length co)).toArray 41)).heap[w4.heap.size]?=some (.cells (stpCells ((f,(x0,x1,x2,x3),lD),.slice ao lD.length co)).toArray 41 (0,0)):=heap_alloc_new _ _;have hz5:(w4.alloc (.cells (stpCells ((f,(x0,x1,x2,x3),lD),.slice ao lD.length co)).toArray 41)).heap.size=w4.heap.size+1:=by simp
   obtain⟨w5,hw5⟩:∃ w5,w4.alloc (.cells (stpCells ((f,(x0,x1,x2,x3),lD),.slice ao lD.length co)).toArray 41)=w5:=⟨_,rfl⟩;rw[hw5] at k5 hA5 hz5;have k35:=k4.trans k5 (fun _ _ h=>h);have hL5:=hL.kept k35 (fun _ _ h=>h);have hc5:=hc4.kept k35 (fun _ _ h=>h);have hC5:=hC3.kept k35 (fun _ _ h=>h);have hK5:=hK4.trans k35 (fun x _ h=>h.elim);have hPlt:∀ x,(w.heap.size≤x∧x < w3.heap.size∧¬ F' x)→x < w5.heap.size:=fun x h=>by omega
   have hF5:∀ x,F' x→x < w3.heap.size:=fun x h=>hC3.lt h;clear hL hc4 hC3 hK4 k4 k5 k35 hP3;clear e0 e1 e2 e3 e4 e5 e6 e7 e8 e9;obtain⟨e0,e1,e2,e3,e4,e5,e6,e7,e8,e9⟩:=hE4.ten;have a0:=cell_of (j:=0) hA4;have a1:=cell_of (j:=1) hA4;have a2:=cell_of (j:=2) hA4;have a3:=cell_of (j:=3) hA4;have hw5':w4.alloc (.cells #[.int .i64 (f 0),.int .i64 (f 1),.int .i64 (f 2),.int .i64 (f 3),.int .i64 (f 4),.int .i64 (f 5),.int .i64 (f 6),.int .i64 (f 7),.int .i64 (f 8),.int .i64 (f 9),.int .i64 x0,.int .i64 x1,.int .i64 x2,.int .i64 x3,.slice ao lD.length co] 41)=w5:=hw5;clear hw5;rw[hz4] at hA5;go_wp2_with (at_builtin;go_loud (
    refine wpList_append_stp rfl _ _ rfl _ hPlt u5 L rfl hL5 _ _ ((f,(x0,x1,x2,x3),lD),.slice ao lD.length co) rfl hA5 hc5 (by omega) ?_;intro v6 w6 hT6 k6;have hz6:=k6.size;have hC6:Cr w6 c sD F':=hC5.kept k6 (fun x hx he=>(hL5.blk x he.symm).2.2 hx);have hK6:Kept (fun x=>w.heap.size≤x) w1 w6:=hK5.trans k6 (fun x _ he=>(hL5.blk x he.symm).1);have hT7:Steps w6 (fun x=>w.heap.size≤x∧x < w6.heap.size∧¬ F' x) v6 ((evs s0 (la.take i)).2++[(f,(x0,x1,x2,x3),lD)]):=⟨L++[((f,(x0,x1,x2,x3),lD),.slice ao lD.length co)],hT6.mono (fun x hx=>by
     rcases hx with hx|hx
     ·exact⟨hx.1,by omega,hx.2.2⟩
     ·exact⟨by omega,hx.2,fun h=>by have:=hF5 x h;omega⟩),by rw[List.map_append,hLe];rfl⟩
    clear hT6 k6 hL5 hc5 hC5 hK5 hA5 hw5' hw4))
   refine⟨⟨i+1,F',rfl,by omega,?_,?_,hF4,hK6⟩,by simp[intOf];omega⟩
   ·rw[HN.out];exact hC6
   ·rw[HN.out];exact hT7
  ·obtain rfl:i=n:=by omega
   rw[List.take_of_length_le (by omega)] at hC hT;have hBr:Below w.heap.size w wr:=hB1.trans (hK.below hB1.size (fun x hx h=>by omega));go_wp2_with fail
   go_returns
   exact⟨_,_,_,rfl,hC,hT.mono (fun x hx=>⟨hx.1,hx.2.2⟩),hF,hBr⟩
theorem bytes17_any(a:Option Addr)(cap:Nat)(zs:List Nat)(p:Nat→Prop)(w:World)(hsl:Sl .u8 w p a (P16.ib zs))(hp:∀ x,p x→x < w.heap.size)(hcap:zs.length≤cap)(hz:zs.length≤20000)(hcb:∀ c ∈ zs,c < 256)
  (L:List P16.Evt) (N E:Nat) (hR:P16.allB zs=(L,N,E)) (hL:L.length≤4095):
  Calls Tryz.prog 17 #[.slice a zs.length cap] w fun e w'=>∃ c v F,e=.returned (.tuple #[.pointer (some ⟨c,0,none⟩),v,.int .i64 N,.int .i64 E])∧Cr w' c (evs s0 L).1 F∧Steps w' (fun x=>w.heap.size≤x∧¬ F x) v (evs s0 L).2∧(∀ x,F x→w.heap.size≤x)∧Below w.heap.size w w':=by
 have hall:=P16.all_any a cap zs p w hsl hp hcap hz hcb L N E hR;clear hR hsl hcb;go_enter Tryz.func17,Tryz.ntmps17
 go_wp2_with fail
 refine hall.mono ?_;clear hall;rintro e w1 ⟨v1,rfl,hv1,hB1⟩;obtain⟨a1,c1,rfl,-,-,hse⟩:=hv1.se;have hev:=events_any a1 c1 L hL _ w1 hse (fun x hx=>hx.2);have hz1:=hB1.size;go_wp2_with fail
 refine hev.mono ?_;clear hev hv1 hse;rintro e w2 ⟨c,v,F,rfl,hC,hT,hF,hB2⟩;go_wp2_with fail
 go_returns
 exact⟨_,_,F,rfl,hC,hT.mono (fun x hx=>⟨by have:=hx.1;omega,hx.2⟩),fun x hx=>by have:=hF x hx;omega,hB1.trans (hB2.mono hz1)⟩
theorem steps_any(a:Option Addr)(ca:Nat)(la:List P16.Evt)(hla:la.length≤160)(w:World)(ha:P16.SE w (fun x=>x < w.heap.size) a la):
  Calls Tryz.prog 11 #[.slice a la.length ca] w fun e w'=>∃ v,e=.returned (.tuple #[v,.bool true])∧Steps w' (fun x=>w.heap.size≤x) v (evs s0 (P16.rlm la)).2∧Below w.heap.size w w':=by
 have hby:=P16.bytes_any a ca la hla w ha;have hall:=P16.all_encM la (by omega);have hlen:=P16.encM_len la;have hrl:=P16.rlm_len la;have hbb:=P16.encM_byte la;have hel:=evs_len s0 (P16.rlm la);go_enter Tryz.func11,Tryz.ntmps11
 go_wp2_with fail
 refine hby.mono ?_;clear hby
 rintro e w1 ⟨v1,v2,rfl,hx1,hv1,hB1⟩;obtain⟨a1,c1,rfl,hcap1,-,hsl⟩:=hx1.sl;obtain⟨a2,c2,rfl,-,-,-⟩:=hv1.se;rw[P16.ib_length] at hcap1 ⊢;have hbt:=bytes17_any a1 c1 (P16.encM la) _ w1 hsl (fun x hx=>hx.2) hcap1 (by omega) hbb _ _ _ hall (by omega);have hz1:=hB1.size;obtain⟨n,hn⟩:∃ n,(P16.encM la).length=n:=⟨_,rfl⟩;obtain⟨m,hm⟩:∃ m,(P16.rlm la).length=m:=⟨_,rfl⟩;rw[hn] at hbt hlen ⊢;rw[hm] at hel hrl ⊢;clear hx1 hv1 hsl hall;go_wp2_with fail
 refine hbt.mono ?_;clear hbt;rintro e w2 ⟨c,v,F,rfl,-,hT,-,hB2⟩;obtain⟨a3,c3,rfl,-,-⟩:=hT.shape;have hT':Steps w2 (fun x=>w.heap.size≤x) (.slice a3 (evs s0 (P16.rlm la)).2.length c3) (evs s0 (P16.rlm la)).2:=hT.mono (fun x hx=>by have:=hx.1;omega);have HT:=Lib.hid hT';clear hT hT';rw[hel] at HT ⊢;go_wp2_with fail
 go_returns
 exact⟨_,rfl,HT.out,hB1.trans (hB2.mono hz1)⟩
def mkE(l:List Int):P16.Evt:=fun j=>l.getD j.val 0
def seven:List P16.Evt:=[mkE [1,0,1,1],mkE [2,0,0,0,0,0,2,1],mkE [3,0,0,2],mkE [6],mkE [7,1],mkE [9,1],mkE [6]]
theorem seven_right:∀ e ∈ seven,P16.right e:=by decide +kernel
theorem seven_ans:((evs s0 seven).2.getD 3 nstp).2.1=(3,1,0,0)∧((evs s0 seven).2.getD 6 nstp).2.1=(2,1,0,0):=by decide +kernel
def sevenC:Array Value:=(P16.ecells seven).toArray
def encS(i:Nat):List Nat:=(seven.take i).flatMap P16.encE
theorem encS_next(i:Nat)(h:i < 7):encS (i+1)=encS i++P16.encE (seven.getD i P16.noev):=by
 unfold encS;rw[P16.take_snoc seven i h P16.noev];simp
theorem encS_zero:encS 0=[]:=rfl
theorem encS_len(i:Nat)(h:i≤7):(encS i).length≤245:=by
 have:=P16.encAll_len (l:=seven.take i) (fun f hf=>seven_right f (List.mem_of_mem_take hf));rw[List.length_take] at this;unfold encS;omega
theorem encS_byte:∀ c ∈ encS 7,c < 256:=P16.encAll_byte seven_right
theorem encS_all:P16.allB (encS 7)=(seven,(encS 7).length,0):=P16.allE_enc seven _ 0 seven_right (show 7+0≤16384 by omega) (Nat.le_refl _)
attribute [irreducible] encS
theorem alive_any(w:World):Calls Tryz.prog 9 #[] w fun e w'=>e=.returned (.bool true)∧Below w.heap.size w w':=by
 have hx0:OwnI ((w.alloc (.cells #[] 5)).alloc (.cells sevenC 28)) w.heap.size 5 .u8 (.slice (some ⟨w.heap.size,0,none⟩) 0 0) (P16.ib (encS 0)):=by rw[encS_zero];exact(OwnI.empty w w.heap.size 5 .u8 (Nat.le_refl _)).alloc _
 have hs0:P16.SE ((w.alloc (.cells #[] 5)).alloc (.cells sevenC 28)) (fun x=>x=(w.alloc (.cells #[] 5)).heap.size) (some ⟨(w.alloc (.cells #[] 5)).heap.size,0,none⟩) seven:=by
  intro i hi;refine⟨_,0,rfl,rfl,fun j=>?_⟩;rw[Nat.zero_add,cell_of (heap_alloc_new _ _),← P16.ecells_get seven i j hi];simp[sevenC]
 have kk:Kept (fun _=>False) w ((w.alloc (.cells #[] 5)).alloc (.cells sevenC 28)):=(((Kept.refl _ w).alloc _).alloc _);have hz2:((w.alloc (.cells #[] 5)).alloc (.cells sevenC 28)).heap.size=w.heap.size+2:=by simp
 rw[World.size_alloc] at hs0;obtain⟨w2,hw2⟩:∃ w2,(w.alloc (.cells #[] 5)).alloc (.cells sevenC 28)=w2:=⟨_,rfl⟩;rw[hw2] at hx0 hs0 kk hz2;have hw2':(w.alloc (.cells #[] 5)).alloc (.cells #[.int .i64 1,.int .i64 0,.int .i64 1,.int .i64 1,.int .i64 0,.int .i64 0,.int .i64 0,.int .i64 0,.int .i64 0,.int .i64 0,
  .int .i64 2,.int .i64 0,.int .i64 0,.int .i64 0,.int .i64 0,.int .i64 0,.int .i64 2,.int .i64 1,.int .i64 0,.int .i64 0,
  .int .i64 3,.int .i64 0,.int .i64 0,.int .i64 2,.int .i64 0,.int .i64 0,.int .i64 0,.int .i64 0,.int .i64 0,.int .i64 0,
  .int .i64 6,.int .i64 0,.int .i64 0,.int .i64 0,.int .i64 0,.int .i64 0,.int .i64 0,.int .i64 0,.int .i64 0,.int .i64 0,
  .int .i64 7,.int .i64 1,.int .i64 0,.int .i64 0,.int .i64 0,.int .i64 0,.int .i64 0,.int .i64 0,.int .i64 0,.int .i64 0,
  .int .i64 9,.int .i64 1,.int .i64 0,.int .i64 0,.int .i64 0,.int .i64 0,.int .i64 0,.int .i64 0,.int .i64 0,.int .i64 0,
  .int .i64 6,.int .i64 0,.int .i64 0,.int .i64 0,.int .i64 0,.int .i64 0,.int .i64 0,.int .i64 0,.int .i64 0,.int .i64 0] 28)=w2:=hw2
 clear hw2;go_enter Tryz.func9,Tryz.ntmps9
 go_wp2_with fail
 go_loopw [1,18] (fun x c wr=>∃ i:Nat,c=.int .i64 i∧i≤7∧Kept (fun _=>False) w2 wr∧OwnI wr w.heap.size 5 .u8 x (P16.ib (encS i))) (fun _ c _=>7 - (intOf c).toNat)
 case atStart=>exact⟨0,rfl,by omega,Kept.refl _ _,hx0⟩
 case round=>
  obtain⟨i,rfl,hi,hK,hx⟩:=hrel;clear hx0 hw2';by_cases hin:i < 7
  ·obtain⟨bk,off,hbk,rfl,e0,e1,e2,e3,e4,e5,e6,e7,e8,e9⟩:=P16.SE.ten (hs0.kept hK (fun _ _ h=>h)) i hin
   cases hbk
   simp only[Nat.zero_add] at e0 e1 e2 e3 e4 e5 e6 e7 e8 e9;have hnx:=encS_next i hin;have hlen:=encS_len i hi;have hrt:=seven_right (seven.getD i P16.noev) (P16.getD_mem _ _ hin _);generalize seven.getD i P16.noev=f at *;have hE:P16.Ev (wr.alloc (.cells (P16.evc f) 28)) wr.heap.size f:=P16.Ev.new _ _;have hx1:=hx.alloc (.cells (P16.evc f) 28);have hK1:=hK.alloc (.cells (P16.evc f) 28);have hz1:=hK1.size;obtain⟨q,hq⟩:∃ q,wr.heap.size=q:=⟨_,rfl⟩;obtain⟨wa,hwa⟩:∃ wa,wr.alloc (.cells (P16.evc f) 28)=wa:=⟨_,rfl⟩;rw[hwa] at hE hx1 hK1 hz1;rw[hq] at hE;obtain⟨ax,cx,rfl,-,-,hslx⟩:=hx1.sl;rw[P16.ib_length] at hx1 ⊢;have hput:=P16.putE_any ax cx (encS i) f _ wa hslx (by omega) hrt (fun x hx=>hx.2);have HE:=Lib.hid hE;simp only[P16.evc] at hwa hput;go_upto_region 5 with fail
   clear hwa hx hK hq e0 e1 e2 e3 e4 e5 e6 e7 e8 e9 hslx;obtain⟨e0,e1,e2,e3,e4,e5,e6,e7,e8,e9⟩:=HE.out.ten;go_wp2_with fail
   refine hput.mono ?_;clear hput;rintro e w5 ⟨v3,rfl,hx5,hB5⟩;have hx5':OwnI w5 w.heap.size 5 .u8 v3 (P16.ib (encS (i+1))):=by rw[hnx];exact hx5.mono (by omega)
   have hK5:=hK1.trans (Kept.of_below (F:=fun _=>False) hB5) (fun _ _ h=>h);clear hx1 hK1 hx5 hE hB5 e0 e1 e2 e3 e4 e5 e6 e7 e8 e9;go_wp2_with fail
   exact⟨⟨i+1,rfl,by omega,hK5,hx5'⟩,by simp[intOf];omega⟩
  ·obtain rfl:i=7:=by omega
   have hBr:Below w.heap.size w wr:=(kk.trans hK (fun _ _ h=>h)).below (Nat.le_refl _) (fun _ _ h=>h);obtain⟨ax,cx,rfl,hcx,-,hslx⟩:=hx.sl;rw[P16.ib_length] at hcx ⊢;have hlen:=encS_len 7 (Nat.le_refl _);have hl7:seven.length=7:=rfl;have hall:=encS_all;have hbt:=bytes17_any ax cx _ _ wr hslx (fun x hx=>hx.2) hcx (by omega) encS_byte _ _ _ hall (by rw[hl7];omega);have hel:=evs_len s0 seven;obtain⟨a3,a6⟩:=seven_ans;obtain⟨n,hn⟩:∃ n,(encS 7).length=n:=⟨_,rfl⟩;rw[hn] at hbt ⊢;rw[hl7] at hel;clear hx hslx hall hs0 kk hK;go_wp2_with fail
   refine hbt.mono ?_;clear hbt;rintro e w2 ⟨c,v,F,rfl,-,hT,-,hB2⟩;obtain⟨b3,c3,rfl,-,hsh⟩:=hT.shape;obtain⟨bk,v3,rfl,-,-,k3⟩:=hsh 3 (by omega);obtain⟨bk2,v6,hbk,-,-,k6⟩:=hsh 6 (by omega);cases hbk
   have z10:=k3 10 (by omega);have z11:=k3 11 (by omega);have z12:=k3 12 (by omega);have z13:=k3 13 (by omega);have y10:=k6 10 (by omega);have y11:=k6 11 (by omega);have y12:=k6 12 (by omega);have y13:=k6 13 (by omega);simp only[stpCells,ansc,P16.evc,a3,a6,List.cons_append,List.nil_append,List.getElem?_cons_succ,List.getElem?_cons_zero] at z10 z11 z12 z13 y10 y11 y12 y13;have hB:=hBr.trans (hB2.mono hBr.size);have q1:=eql_an 3 1 0 0 3 1 0 0;have q2:=eql_an 2 1 0 0 2 1 0 0;simp only[ac4] at q1 q2;have hgd:=guard_an;clear hsh k3 k6 hT;rw[hel];go_wp2_with fail
   go_ret
   exact⟨rfl,hB⟩
end Go.Proofs.YtigeldkbfbcpmaaGreat
