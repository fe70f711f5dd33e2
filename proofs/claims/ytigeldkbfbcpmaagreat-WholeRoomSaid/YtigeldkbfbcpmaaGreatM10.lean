/- A part of the proof: what the functions of the program come to, and what holds at all times. -/
import Derived.Laws.OwnMore
import Derived.Test.YtigeldkbfbcpmaaGreatRows
import Derived.Deep.RegionHeld3
import Derived.Deep.CutRange
import Derived.BigRegion
import Derived.BigQuiet
import Derived.Handy
import Derived.Deep.RegionWith
import Derived.Test.YtigeldkbfbcpmaaGreatM02
import Derived.Test.YtigeldkbfbcpmaaGreatM03
import Derived.Test.YtigeldkbfbcpmaaGreatM09
set_option linter.unusedVariables false
set_option linter.unusedSectionVars false
set_option linter.unusedSimpArgs false
set_option maxRecDepth 100000
set_option maxHeartbeats 8000000
namespace Go.Proofs.YtigeldkbfbcpmaaGreat.P09
open Go.RowKit Go.Kpt RatioPure HeapPure
structure Mk where
 n:Nat
 d:Nat
 id:Int
 hn:Sm n
 hd:Sm d
 pos:0 < d
instance:Inhabited Mk:=⟨⟨0,1,0,by unfold Sm;omega,by unfold Sm;omega,by omega⟩⟩
def sgnI(x y:Int):Int:=if x < y then -1 else if y < x then 1 else 0
theorem sgnI_lt{x y:Int}(h:x < y):sgnI x y=-1:=if_pos h
theorem sgnI_gt{x y:Int}(h:y < x):sgnI x y=1:=by unfold sgnI;rw[if_neg (by omega),if_pos h]
theorem sgnI_eq{x y:Int}(h:x=y):sgnI x y=0:=by unfold sgnI;rw[if_neg (by omega),if_neg (by omega)]
theorem nanI_any(x:Int)(w:World):Calls Tryz.prog 157 #[.int .i64 x] w fun e w'=>e=.returned (.bool false)∧w=w':=by
 go_enter Tryz.func157,Tryz.ntmps157
 go_wp2
 go_ret
 exact⟨by simp,rfl⟩
theorem cmpI_any(x y:Int)(w:World):Calls Tryz.prog 120 #[.int .i64 x,.int .i64 y] w fun e w'=>e=.returned (.int .i64 (sgnI x y))∧w=w':=by
 rcases Int.lt_trichotomy x y with h|h|h
 ·have H:=Lib.hid (sgnI_lt h)
  go_enter Tryz.func120,Tryz.ntmps120
  go_wp2_with fail
  refine(nanI_any _ _).mono ?_;rintro e w' ⟨rfl,rfl⟩;go_wp2_with fail
  refine(nanI_any _ _).mono ?_;rintro e w' ⟨rfl,rfl⟩;go_wp2_with fail
  go_ret
  exact⟨by rw[H.out];rfl,rfl⟩
 ·have H:=Lib.hid (sgnI_eq h)
  have h1:¬ x < y:=by omega
  have h2:¬ y < x:=by omega
  clear h;go_enter Tryz.func120,Tryz.ntmps120
  go_wp2_with fail
  refine(nanI_any _ _).mono ?_;rintro e w' ⟨rfl,rfl⟩;go_wp2_with fail
  refine(nanI_any _ _).mono ?_;rintro e w' ⟨rfl,rfl⟩;go_wp2_with fail
  go_ret
  exact⟨by rw[H.out];rfl,rfl⟩
 ·have H:=Lib.hid (sgnI_gt h)
  have h1:¬ x < y:=by omega
  go_enter Tryz.func120,Tryz.ntmps120
  go_wp2_with fail
  refine(nanI_any _ _).mono ?_;rintro e w' ⟨rfl,rfl⟩;go_wp2_with fail
  refine(nanI_any _ _).mono ?_;rintro e w' ⟨rfl,rfl⟩;go_wp2_with fail
  go_ret
  exact⟨by rw[H.out];rfl,rfl⟩
def ltn(an ad:Nat)(ai:Int)(bn bd:Nat)(bi:Int):Bool:=decide (orI (sgn (an*bd) (bn*ad)) (sgnI ai bi) < 0)
def lt(a b:Mk):Bool:=ltn a.n a.d a.id b.n b.d b.id
theorem lt_iff(a b:Mk):lt a b=true↔(a.n*b.d < b.n*a.d∨(a.n*b.d=b.n*a.d∧a.id < b.id)):=by
 unfold lt ltn orI;rw[decide_eq_true_eq];rcases Nat.lt_trichotomy (a.n*b.d) (b.n*a.d) with h|h|h
 ·rw[sgn_lt h,if_neg (by decide)];simp[h]
 ·rw[sgn_eq h,if_pos rfl]
  rcases Int.lt_trichotomy a.id b.id with h2|h2|h2
  ·rw[sgnI_lt h2];simp[h,h2]
  ·rw[sgnI_eq h2];simp;omega
  ·rw[sgnI_gt h2];simp;omega
 ·rw[sgn_gt h,if_neg (by decide)];simp;omega
theorem lt_false(a b:Mk):lt a b=false↔(b.n*a.d < a.n*b.d∨(a.n*b.d=b.n*a.d∧b.id≤a.id)):=by
 have h:=lt_iff a b;cases e:lt a b with
 | false=>
  rw[e] at h;simp only[Bool.false_eq_true,false_iff,not_or,not_and] at h;simp only[true_iff];by_cases h1:a.n*b.d=b.n*a.d
  ·exact .inr ⟨h1,by have:=h.2 h1;omega⟩
  ·exact .inl (by have:=h.1;omega)
 | true=>
  rw[e] at h;have:=h.1 rfl;simp;omega
theorem le_trans3{an ad bn bd cn cd:Nat}(hb:0 < bd)(h1:an*bd≤bn*ad)(h2:bn*cd≤cn*bd):an*cd≤cn*ad:=by
 refine Nat.le_of_mul_le_mul_right (c:=bd) ?_ hb;have e1:=Nat.mul_le_mul_right cd h1;have e2:=Nat.mul_le_mul_right ad h2;have s1:an*cd*bd=an*bd*cd:=by rw[Nat.mul_assoc,Nat.mul_comm cd bd,← Nat.mul_assoc]
 have s2:bn*ad*cd=bn*cd*ad:=by rw[Nat.mul_assoc,Nat.mul_comm ad cd,← Nat.mul_assoc]
 have s3:cn*ad*bd=cn*bd*ad:=by rw[Nat.mul_assoc,Nat.mul_comm ad bd,← Nat.mul_assoc]
 omega
theorem ord_lt:Ord lt where
 asym:=fun a b h=>by
  rw[lt_iff] at h;rw[lt_false];omega
 trans:=fun a b c h1 h2=>by
  rw[lt_false] at h1 h2 ⊢;have l1:a.n*b.d≤b.n*a.d:=by omega
  have l2:b.n*c.d≤c.n*b.d:=by omega
  have l3:=le_trans3 b.pos l1 l2;by_cases e:a.n*c.d < c.n*a.d
  ·exact .inl e
  ·have l4:c.n*a.d≤a.n*c.d:=by omega
   have l5:=le_trans3 a.pos l4 l1;have l6:=le_trans3 c.pos l2 l4;omega
abbrev mv(m:Mk):Value:=.agg #[.int .u64 m.n,.int .u64 m.d,.int .i64 m.id]
def LessC:Prop:=∀ (a b:Mk) (w:World),Calls Tryz.prog 189 #[mv a,mv b] w fun e w'=>e=.returned (.bool (lt a b))∧Below w.heap.size w w'
end Go.Proofs.YtigeldkbfbcpmaaGreat.P09
namespace Go.Proofs.YtigeldkbfbcpmaaGreat.P09
open Go.RowKit Go.Kpt HeapPure
def q4(x:Int×Mk):List Value:=[.int .i64 x.1,.int .u64 x.2.n,.int .u64 x.2.d,.int .i64 x.2.id]
def qcells(l:List (Int×Mk)):List Value:=l.flatMap q4
theorem qcells_cons(x:Int×Mk)(l:List (Int×Mk)):qcells (x :: l)=.int .i64 x.1 :: .int .u64 x.2.n :: .int .u64 x.2.d :: .int .i64 x.2.id :: qcells l:=rfl
theorem qcells_length(l:List (Int×Mk)):(qcells l).length=l.length*4:=by
 induction l with
 | nil=>rfl
 | cons x l ih=>rw[qcells_cons];simp[ih];omega
theorem qcells_append(l k:List (Int×Mk)):qcells (l++k)=qcells l++qcells k:=by simp[qcells]
theorem qcells_get(l:List (Int×Mk)):∀ j,j < l.length→(qcells l)[j*4]?=some (.int .i64 (l.getD j default).1)∧(qcells l)[j*4+1]?=some (.int .u64 (l.getD j default).2.n)∧(qcells l)[j*4+2]?=some (.int .u64 (l.getD j default).2.d)∧(qcells l)[j*4+3]?=some (.int .i64 (l.getD j default).2.id):=by
 induction l with
 | nil=>intro j h;simp at h
 | cons x l ih=>
  intro j h;rw[qcells_cons];cases j with
  | zero=>simp
  | succ j=>
   have:=ih j (by simpa using h);rw[show (j+1)*4=j*4+1+1+1+1 by omega,show j*4+1+1+1+1+1=(j*4+1)+1+1+1+1 by omega,show j*4+1+1+1+1+2=(j*4+2)+1+1+1+1 by omega,show j*4+1+1+1+1+3=(j*4+3)+1+1+1+1 by omega];simp only[List.getElem?_cons_succ];simpa using this
theorem qcells_set(l:List (Int×Mk)):∀ (j:Nat) (x:Int×Mk),j < l.length→((((qcells l).set (j*4) (.int .i64 x.1)).set (j*4+1) (.int .u64 x.2.n)).set (j*4+2) (.int .u64 x.2.d)).set (j*4+3) (.int .i64 x.2.id)=qcells (l.set j x):=by
 induction l with
 | nil=>intro j x h;simp at h
 | cons y l ih=>
  intro j x h;cases j with
  | zero=>simp[qcells_cons]
  | succ j=>
   rw[qcells_cons,show (j+1)*4=j*4+1+1+1+1 by omega,show j*4+1+1+1+1+1=(j*4+1)+1+1+1+1 by omega,show j*4+1+1+1+1+2=(j*4+2)+1+1+1+1 by omega,show j*4+1+1+1+1+3=(j*4+3)+1+1+1+1 by omega];simp only[List.set_cons_succ,qcells_cons];rw[ih j x (by simpa using h)]
theorem qcells_setV(l:List (Int×Mk))(j:Nat)(v:Mk)(h:j < l.length):(((qcells l).set (j*4+1) (.int .u64 v.n)).set (j*4+2) (.int .u64 v.d)).set (j*4+3) (.int .i64 v.id)=qcells (l.set j ((l.getD j default).1,v)):=by
 rw[← qcells_set l j _ h];congr 3
 refine List.ext_getElem? fun i=>?_;have hl:=qcells_length l;rw[List.getElem?_set];by_cases e:j*4=i
 ·subst e
  rw[if_pos rfl,if_pos (by omega),(qcells_get l j h).1]
 ·rw[if_neg e]
theorem qcells_take(l:List (Int×Mk))(n:Nat):(qcells l).take (n*4)=qcells (l.take n):=by
 induction l generalizing n with
 | nil=>simp[qcells]
 | cons x l ih=>
  cases n with
  | zero=>simp[qcells]
  | succ n=>
   rw[qcells_cons,show (n+1)*4=n*4+1+1+1+1 by omega];simp only[List.take_succ_cons,qcells_cons,ih]
def OwnQ(w:World)(base:Nat)(e:TypeId)(v:Value)(l:List (Int×Mk)):Prop:=w.ownsRow base e 4 v l.length (qcells l)
section
variable {w w':World} {base:Nat} {e:TypeId} {v:Value} {l:List (Int×Mk)}
theorem OwnQ.shape(h:OwnQ w base e v l):(v=.slice none 0 0∧l=[]) ∨
  ∃ g cap,v=.slice (some ⟨g,0,none⟩) l.length cap∧base≤g∧g < w.heap.size∧l.length≤cap∧cap≤maxLen∧(∀ j,w.frozen? ⟨g,j,none⟩=false) ∧
   ∀ j,j < l.length→w.cell? ⟨g,j*4,none⟩=some (.int .i64 (l.getD j default).1)∧w.cell? ⟨g,j*4+1,none⟩=some (.int .u64 (l.getD j default).2.n)∧w.cell? ⟨g,j*4+2,none⟩=some (.int .u64 (l.getD j default).2.d)∧w.cell? ⟨g,j*4+3,none⟩=some (.int .i64 (l.getD j default).2.id):=by
 have h':=h;unfold OwnQ at h';rcases h'.2 with ⟨h1,h2⟩|⟨g,cap,cur,rfl,hb,hg,hl,hm,hs,ht⟩
 ·exact .inl ⟨h1,List.length_eq_zero_iff.1 h2⟩
 ·refine .inr ⟨g,cap,rfl,hb,lt_of hg,hl,hm,fun j=>frozen_of hg,fun j hj=>?_⟩
  have key:∀ i,i < l.length*4→w.cell? ⟨g,i,none⟩=(qcells l)[i]?:=fun i hi=>by
   rw[cell_of hg,← ht,List.getElem?_take];rw[if_pos hi];simp
  obtain⟨h1,h2,h3,h4⟩:=qcells_get l j hj;exact⟨(key _ (by omega)).trans h1,(key _ (by omega)).trans h2,(key _ (by omega)).trans h3,(key _ (by omega)).trans h4⟩
theorem OwnQ.lt(h:OwnQ w base e v l):∀ g,v.ownBlock=some g→base≤g∧g < w.heap.size:=World.ownsRow.lt h
theorem OwnQ.kept{F:Nat→Prop}(h:OwnQ w base e v l)(hk:Kept F w w')(hF:∀ g,v.ownBlock=some g→¬ F g):OwnQ w' base e v l:=by
 refine⟨h.1,?_⟩;rcases h.2 with h1|⟨g,cap,cur,rfl,hb,hg,hr⟩
 ·exact .inl h1
 ·exact .inr ⟨g,cap,cur,rfl,hb,(hk.block g (lt_of hg) (hF g rfl)).trans hg,hr⟩
theorem OwnQ.nil(w:World)(base:Nat)(e:TypeId):OwnQ w base e (.slice none 0 0) []:=World.ownsRow_nil w base e 4
theorem row_store{s n cap g:Nat}{raw:List Value}(h:w.ownsRow base e s (.slice (some ⟨g,0,none⟩) n cap) n raw)(i:Nat)(u:Value):(w.setCell ⟨g,i,none⟩ u).ownsRow base e s (.slice (some ⟨g,0,none⟩) n cap) n (raw.set i u):=by
 refine⟨by rw[List.length_set];exact h.1,?_⟩;rcases h.2 with ⟨h1,_⟩|⟨g',cap',cur,h1,hb,hg,hle,hm,hs,ht⟩
 ·cases h1
 ·cases h1
  refine .inr ⟨g,cap,cur.setIfInBounds i u,rfl,hb,set_same u hg,hle,hm,by simpa using hs,?_⟩;rw[Array.toList_setIfInBounds,← ht,List.take_set]
theorem OwnQ.len{g n cap:Nat}(h:OwnQ w base e (.slice (some ⟨g,0,none⟩) n cap) l):n=l.length:=by
 rcases h.2 with ⟨h1,_⟩|⟨g',cap',cur,h1,_⟩ <;> cases h1;rfl
theorem OwnQ.set4{g n cap:Nat}(h:OwnQ w base e (.slice (some ⟨g,0,none⟩) n cap) l)(j:Nat)(hj:j < l.length)(x:Int×Mk):
  OwnQ ((((w.setCell ⟨g,j*4,none⟩ (.int .i64 x.1)).setCell ⟨g,j*4+1,none⟩ (.int .u64 x.2.n)).setCell ⟨g,j*4+2,none⟩ (.int .u64 x.2.d)).setCell ⟨g,j*4+3,none⟩ (.int .i64 x.2.id)) base e (.slice (some ⟨g,0,none⟩) n cap) (l.set j x):=by
 obtain rfl:=h.len;have:=row_store (row_store (row_store (row_store h (j*4) (.int .i64 x.1)) (j*4+1) (.int .u64 x.2.n)) (j*4+2) (.int .u64 x.2.d)) (j*4+3) (.int .i64 x.2.id);rw[qcells_set l j x hj] at this;unfold OwnQ;rw[List.length_set];exact this
theorem OwnQ.setV{g n cap:Nat}(h:OwnQ w base e (.slice (some ⟨g,0,none⟩) n cap) l)(j:Nat)(hj:j < l.length)(v:Mk):
  OwnQ (((w.setCell ⟨g,j*4+1,none⟩ (.int .u64 v.n)).setCell ⟨g,j*4+2,none⟩ (.int .u64 v.d)).setCell ⟨g,j*4+3,none⟩ (.int .i64 v.id)) base e (.slice (some ⟨g,0,none⟩) n cap) (l.set j ((l.getD j default).1,v)):=by
 obtain rfl:=h.len;have:=row_store (row_store (row_store h (j*4+1) (.int .u64 v.n)) (j*4+2) (.int .u64 v.d)) (j*4+3) (.int .i64 v.id);rw[qcells_setV l j v hj] at this;unfold OwnQ;rw[List.length_set];exact this
theorem OwnQ.cut{g n cap m:Nat}(h:OwnQ w base e (.slice (some ⟨g,0,none⟩) n cap) l)(hm:m≤l.length):OwnQ w base e (.slice (some ⟨g,0,none⟩) m cap) (l.take m):=by
 have hlen:(l.take m).length=m:=by simp;omega
 refine⟨by rw[qcells_length],?_⟩;rcases h.2 with ⟨h1,_⟩|⟨g',cap',cur,h1,hb,hg,hle,hmx,hs,ht⟩
 ·cases h1
 ·cases h1
  refine .inr ⟨g,cap,cur,by rw[hlen],hb,hg,by omega,hmx,hs,?_⟩;rw[hlen,← qcells_take,← ht,List.take_take];congr 1
  omega
end
theorem zeroI(w:World):(zeroValue 3).run Tryz.prog w=.ok (.int .i64 0) w:=by kernel_rfl
theorem swp_length{α:Type}(l:List α)(i j:Nat):(swp l i j).length=l.length:=length_swp l i j
def mi(l:List (Int×Mk)):Int→Option Int:=fun k=>(idx l k).map (fun i:Nat=>(i:Int))
structure Hp (w:World) (base hb:Nat) (fv v:Value) (mb:Nat) (l:List (Int×Mk)):Prop where
 blk:w.heap[hb]?=some (.cells #[fv,v,.map (some mb)] 276 (0,0))
 own:OwnQ w base 278 v l
 mp:Mp Tryz.prog 3 3 w mb l.length (mi l)
 inj:Inj l
 wf:∀ x ∈ l,(Lit.int .i64 x.1).wf=true
 len:l.length≤1000000000
theorem set_set_swp(l:List (Int×Mk))(i j:Nat)(hi:i < l.length)(hj:j < l.length):(l.set i (l.getD j default)).set j (l.getD i default)=swp l i j:=by
 unfold swp;rw[List.getElem?_eq_getElem hi,List.getElem?_eq_getElem hj];simp[List.getD_eq_getElem?_getD,hi,hj]
theorem Hp.apart{w:World}{base hb:Nat}{fv v:Value}{mb:Nat}{l:List (Int×Mk)}(h:Hp w base hb fv v mb l):hb≠mb∧∀ g,v.ownBlock=some g→g≠hb∧g≠mb:=by
 obtain⟨D,⟨es,clock,hm,-⟩,-⟩:=h.mp;refine⟨fun e=>?_,fun g hg=>?_⟩
 ·have:=h.blk
  rw[e,hm] at this;cases this
 ·rcases h.own.2 with ⟨h1,-⟩ | ⟨g',cap,cur,h1,-,hg',-⟩
  ·rw[h1] at hg;cases hg
  ·rw[h1] at hg
   cases hg
   refine⟨fun e=>?_,fun e=>?_⟩
   ·have h2:=h.blk
    dsimp only at e;rw[e] at hg';rw[h2] at hg';cases hg'
   ·dsimp only at e
    rw[e,hm] at hg';cases hg'
theorem getElem_of{l:List (Int×Mk)}{i:Nat}(hi:i < l.length):l[i]?=some (l.getD i default):=by simp[List.getD_eq_getElem?_getD,hi]
theorem idx_swp{l:List (Int×Mk)}(hI:Inj l){i j:Nat}(hi:i < l.length)(hj:j < l.length)(k:Int):
  idx (swp l i j) k=if k=(l.getD i default).1 then some j else if k=(l.getD j default).1 then some i else idx l k:=by
 have hS:=swp_inj hI hi hj;by_cases h1:k=(l.getD i default).1
 ·rw[if_pos h1]
  refine idx_of (v:=(l.getD i default).2) hS ?_;rw[get_swp l hi hj,if_pos rfl,getElem_of hi,h1]
 ·rw[if_neg h1]
  by_cases h2:k=(l.getD j default).1
  ·rw[if_pos h2]
   by_cases e:i=j
   ·exact absurd (by rw[h2,e]) h1
   ·refine idx_of (v:=(l.getD j default).2) hS ?_
    rw[get_swp l hi hj,if_neg e,if_pos rfl,getElem_of hj,h2]
  ·rw[if_neg h2]
   cases e:idx l k with
   | none=>
    cases e2:idx (swp l i j) k with
    | none=>rfl
    | some n=>
     obtain⟨m,hm⟩:=(swp_has hi hj k _).1 ⟨n,(idx_some e2).2⟩;exact absurd hm (idx_none e m _)
   | some n=>
    obtain⟨hn,hv⟩:=idx_some e;refine idx_of (v:=vv l n) hS ?_;rw[get_swp l hi hj];rw[if_neg (fun h=>h2 (by rw[← h];rw[getElem_of hn] at hv;rw[Option.some.inj hv])),if_neg (fun h=>h1 (by rw[← h];rw[getElem_of hn] at hv;rw[Option.some.inj hv]))];exact hv
theorem mi_swp{l:List (Int×Mk)}(hI:Inj l){i j:Nat}(hi:i < l.length)(hj:j < l.length):
  mput (mput (mi l) (l.getD j default).1 i) (l.getD i default).1 j=mi (swp l i j):=by
 funext k
 unfold mi mput;rw[idx_swp hI hi hj];by_cases h1:k=(l.getD i default).1
 ·rw[if_pos h1,if_pos h1];rfl
 ·rw[if_neg h1,if_neg h1]
  by_cases h2:k=(l.getD j default).1
  ·rw[if_pos h2,if_pos h2];rfl
  ·rw[if_neg h2,if_neg h2]
theorem mi_at{l:List (Int×Mk)}(hI:Inj l){i:Nat}(hi:i < l.length):mi l (l.getD i default).1=some (i:Int):=by
 unfold mi;rw[idx_of (k:=(l.getD i default).1) (v:=(l.getD i default).2) hI (getElem_of hi)];rfl
theorem swap_any(base hb:Nat)(fv v:Value)(mb:Nat)(l:List (Int×Mk))(i j:Nat)(hi:i < l.length)(hj:j < l.length)(w:World)(h:Hp w base hb fv v mb l):
  Calls Tryz.prog 190 #[.pointer (some ⟨hb,0,none⟩),.int .i64 i,.int .i64 j] w fun e w'=>e=.returned (.tuple #[])∧Hp w' base hb fv v mb (swp l i j)∧Kept (fun x=>x=mb∨some x=v.ownBlock) w w':=by
 rcases h.own.shape with ⟨-,rfl⟩|⟨g,cap,rfl,hg1,hg2,hlc,hcm,hfz,hcl⟩
 ·simp at hi
 obtain⟨ap1,ap2⟩:=h.apart;obtain⟨ap2,ap3⟩:=ap2 g rfl;have q1:w.cell? ⟨hb,1,none⟩=some (.slice (some ⟨g,0,none⟩) l.length cap):=cell_of h.blk;have q2:w.cell? ⟨hb,2,none⟩=some (.map (some mb)):=cell_of h.blk;obtain⟨a0,a1,a2,a3⟩:=hcl i hi;obtain⟨b0,b1,b2,b3⟩:=hcl j hj;have fa0:=hfz (i*4);have fa1:=hfz (i*4+1);have fa2:=hfz (i*4+2);have fa3:=hfz (i*4+3);have fb0:=hfz (j*4);have fb1:=hfz (j*4+1);have fb2:=hfz (j*4+2);have fb3:=hfz (j*4+3);have hi':(i:Int) < (l.length:Int):=by omega
 have hj':(j:Int) < (l.length:Int):=by omega
 have hlen:=h.len
 have hswp:=set_set_swp l i j hi hj;have hmi:=mi_swp h.inj hi hj;have hmiI:=mi_at h.inj hi;have hmiJ:=mi_at h.inj hj;have hwI:=h.wf _ (List.mem_of_getElem? (getElem_of hi));have hwJ:=h.wf _ (List.mem_of_getElem? (getElem_of hj));have hown2:=(h.own.set4 i hi (l.getD j default)).set4 j (by simpa using hj) (l.getD i default);rw[hswp] at hown2;have hk2:Kept (fun x=>x=g) w ((((((((w.setCell ⟨g,i*4,none⟩ (.int .i64 (l.getD j default).1)).setCell ⟨g,i*4+1,none⟩ (.int .u64 (l.getD j default).2.n)).setCell ⟨g,i*4+2,none⟩ (.int .u64 (l.getD j default).2.d)).setCell ⟨g,i*4+3,none⟩ (.int .i64 (l.getD j default).2.id)).setCell ⟨g,j*4,none⟩ (.int .i64 (l.getD i default).1)).setCell ⟨g,j*4+1,none⟩ (.int .u64 (l.getD i default).2.n)).setCell ⟨g,j*4+2,none⟩ (.int .u64 (l.getD i default).2.d)).setCell ⟨g,j*4+3,none⟩ (.int .i64 (l.getD i default).2.id)):=
  (((((((Kept.set1 w g _ _).trans (Kept.set1 _ g _ _) (fun _ _ h=>h)).trans (Kept.set1 _ g _ _) (fun _ _ h=>h)).trans (Kept.set1 _ g _ _) (fun _ _ h=>h)).trans (Kept.set1 _ g _ _) (fun _ _ h=>h)).trans (Kept.set1 _ g _ _) (fun _ _ h=>h)).trans (Kept.set1 _ g _ _) (fun _ _ h=>h)).trans (Kept.set1 _ g _ _) (fun _ _ h=>h)
 have hown2:OwnQ ((((((((w.setCell ⟨g,i*4,none⟩ (.int .i64 (l.getD j default).1)).setCell ⟨g,i*4+1,none⟩ (.int .u64 (l.getD j default).2.n)).setCell ⟨g,i*4+2,none⟩ (.int .u64 (l.getD j default).2.d)).setCell ⟨g,i*4+3,none⟩ (.int .i64 (l.getD j default).2.id)).setCell ⟨g,j*4,none⟩ (.int .i64 (l.getD i default).1)).setCell ⟨g,j*4+1,none⟩ (.int .u64 (l.getD i default).2.n)).setCell ⟨g,j*4+2,none⟩ (.int .u64 (l.getD i default).2.d)).setCell ⟨g,j*4+3,none⟩ (.int .i64 (l.getD i default).2.id)).drew base 278 (.slice (some ⟨g,0,none⟩) l.length cap) (swp l i j):=hown2.kept ((Kept.refl (fun _=>False) _).drew) (fun _ _ h=>h);have hk2:=hk2.drew;have hrest:Inj (swp l i j)∧(∀ x ∈ swp l i j,(Lit.int .i64 x.1).wf=true)∧(swp l i j).length≤1000000000:=by
  refine⟨swp_inj h.inj hi hj,fun x hx=>?_,by rw[swp_length];exact h.len⟩;obtain⟨n,hn⟩:=List.mem_iff_getElem?.1 hx;obtain⟨m,hm⟩:=(swp_has hi hj x.1 x.2).1 ⟨n,hn⟩;exact h.wf _ (List.mem_of_getElem? hm)
 have hcl2:∀ W,OwnQ W base 278 (.slice (some ⟨g,0,none⟩) l.length cap) (swp l i j)→W.cell? ⟨g,i*4,none⟩=some (.int .i64 (l.getD j default).1)∧W.cell? ⟨g,j*4,none⟩=some (.int .i64 (l.getD i default).1):=by
  intro W hW;rcases hW.shape with ⟨h1,-⟩|⟨g',cap',h1,-,-,-,-,-,hc⟩
  ·cases h1
  ·injection h1 with e1 _ _
   injection e1 with e1
   injection e1 with e1 _ _
   subst e1;have e1:(swp l i j).getD i default=l.getD j default:=by
    rw[List.getD_eq_getElem?_getD,get_swp l hi hj];by_cases e:i=j
    ·subst e;rw[if_pos rfl,getElem_of hi];rfl
    ·rw[if_neg e,if_pos rfl,getElem_of hj];rfl
   have e2:(swp l i j).getD j default=l.getD i default:=by
    rw[List.getD_eq_getElem?_getD,get_swp l hi hj,if_pos rfl,getElem_of hi];rfl
   have c1:=(hc i (by rw[swp_length];exact hi)).1;have c2:=(hc j (by rw[swp_length];exact hj)).1;rw[e1] at c1;rw[e2] at c2;exact⟨c1,c2⟩
 obtain⟨x,hx⟩:∃ x,l.getD i default=x:=⟨_,rfl⟩;obtain⟨y,hy⟩:∃ y,l.getD j default=y:=⟨_,rfl⟩;rw[hx] at a0 a1 a2 a3 hown2 hk2 hmi hmiI hwI hcl2;rw[hy] at b0 b1 b2 b3 hown2 hk2 hmi hmiJ hwJ hcl2;obtain⟨x0,x1,x2,x3,_,_,_⟩:=x;obtain⟨y0,y1,y2,y3,_,_,_⟩:=y;dsimp only at a0 a1 a2 a3 b0 b1 b2 b3 hown2 hk2 hmi hmiI hmiJ hwI hwJ hcl2;have hsl:=swp_length l i j;have hmp:=h.mp;have hblk:=h.blk;have HC:=Lib.hid hcl2;have HO:=Lib.hid hown2;have HK:=Lib.hid hk2;have HM:=Lib.hid hmp;have HB:=Lib.hid hblk;have HR:=Lib.hid hrest;have HI:=Lib.hid (And.intro hmi (And.intro hmiI hmiJ));have HS:=Lib.hid hsl;clear hcl hfz hown2 hk2 hmp hblk hcl2 hswp hrest hmi hmiI hmiJ hsl h;go_enter Tryz.func190,Tryz.ntmps190
 go_upto_region 0 with fail
 go_cut [6] from 6 (fun _ wx=>OwnQ wx base 278 (.slice (some ⟨g,0,none⟩) l.length cap) (swp l i j)∧Kept (fun x=>x=g) w wx)
 case first=>
  have hij:i=j∨¬ i=j:=by omega
  rcases hij with rfl|hij
  ·rw[hx] at hy
   injection hy with hy1 hy2
   injection hy2 with hy2 hy3 hy4
   subst hy1 hy2 hy3 hy4;clear hx;go_region
   go_wp2
   go_meet
   case rel=>exact⟨HO.out,HK.out⟩
  ·clear hx hy
   go_region
   go_wp2
   go_meet
   case rel=>exact⟨HO.out,HK.out⟩
 case rest=>
  obtain⟨hown2,hk2⟩:=hcut;clear HO HK a0 a1 a2 a3 b0 b1 b2 b3 q1 q2 fa0 fa1 fa2 fa3 fb0 fb1 fb2 fb3 hx hy;have hblk2:=(hk2.block hb (lt_of HB.out) (Ne.symm ap2)).trans HB.out;have hmp2:=HM.out.kept hk2 (Ne.symm ap3);clear HM HB;have hD:Kept (fun _=>False) wc wc.drew:=(Kept.refl _ _).drew;have hmpD:=hmp2.kept hD (fun h=>h);obtain⟨hmi,hmiI,hmiJ⟩:=HI.out;obtain⟨z1,z2,z3,t1,t2,w1,w2,ent1,ent2,st1,ent3,st2,mp3,kp1,kp2⟩:=mp_two hmpD Tryz.underlying3 Tryz.underlying32 Tryz.underlying3 zeroI (by unfold maxLen;omega) y0 x0 i j hwJ hwI (by exact WalkArith.wf_i64 (by omega)) (by exact WalkArith.wf_i64 (by omega)) (by rw[hmiJ];rfl) (by rw[hmiI];rfl);rw[hmi] at mp3;clear hmi hmiI hmiJ HI;have hownD:=hown2.kept hD (fun _ _ h=>h);have hblkD:=(hD.block hb (lt_of hblk2) (fun h=>h)).trans hblk2;have hown3:=hownD.kept kp1 (fun g' h1 h2=>by cases h1;exact ap3 h2);have hblk3:=(kp1.block hb (lt_of hblkD) ap1).trans hblkD;have hown4:=hownD.kept kp2 (fun g' h1 h2=>by cases h1;exact ap3 h2);have hblk4:=(kp2.block hb (lt_of hblkD) ap1).trans hblkD;have HS1:=Lib.hid (And.intro (show wc.cell? ⟨hb,1,none⟩=some (.slice (some ⟨g,0,none⟩) l.length cap) from cell_of hblk2) (And.intro (show wc.cell? ⟨hb,2,none⟩=some (.map (some mb)) from cell_of hblk2) (HC.out wc hown2)));have HSD:=Lib.hid (And.intro (show wc.drew.cell? ⟨hb,1,none⟩=some (.slice (some ⟨g,0,none⟩) l.length cap) from cell_of hblk2) (And.intro (show wc.drew.cell? ⟨hb,2,none⟩=some (.map (some mb)) from cell_of hblk2) (HC.out wc.drew hownD)));have HS2:=Lib.hid (And.intro (show w1.cell? ⟨hb,1,none⟩=some (.slice (some ⟨g,0,none⟩) l.length cap) from cell_of hblk3) (And.intro (show w1.cell? ⟨hb,2,none⟩=some (.map (some mb)) from cell_of hblk3) (HC.out w1 hown3)));have HS3:=Lib.hid (And.intro (show w2.cell? ⟨hb,1,none⟩=some (.slice (some ⟨g,0,none⟩) l.length cap) from cell_of hblk4) (And.intro (show w2.cell? ⟨hb,2,none⟩=some (.map (some mb)) from cell_of hblk4) (HC.out w2 hown4)));have HEND:Hid (Hp w2 base hb fv (.slice (some ⟨g,0,none⟩) l.length cap) mb (swp l i j)∧Kept (fun x=>x=mb∨some x=(Value.slice (some ⟨g,0,none⟩) l.length cap).ownBlock) w w2):=
   ⟨⟨hblk4,hown4,HS.out.symm ▸ mp3,HR.out.1,HR.out.2.1,HR.out.2.2⟩,((hk2.drew).mono (G:=fun x=>x=mb∨some x=some g) (fun x _ h=>.inr (by rw[h]))).trans kp2 (fun x _ h=>.inl h)⟩
  clear HC HR HS hown2 hk2 hmp2 hblk2 hmpD hownD hblkD hD hown3 hblk3 kp1 kp2 hown4 hblk4 mp3 hwI hwJ;go_wp2_with fail
  go_region_held3 (fun V=>V.cell? ⟨hb,1,none⟩=some (.slice (some ⟨g,0,none⟩) l.length cap)∧V.cell? ⟨hb,2,none⟩=some (.map (some mb))∧V.cell? ⟨g,i*4,none⟩=some (.int .i64 y0)∧V.cell? ⟨g,j*4,none⟩=some (.int .i64 x0))
   (first | exact HS1.out | exact HSD.out | exact HS2.out | exact HS3.out)
   (first | fail | fail)
  all_goals
   go_wp2
   go_end0
   exact⟨rfl,HEND.out.1,HEND.out.2⟩
abbrev fv20:Value:=.func (.func 189) #[] #[]
theorem up_go{l:List (Int×Mk)}{i:Nat}(h:0 < i)(hl:lt (vv l i) (vv l (par i))=true):up lt l i=up lt (swp l i (par i)) (par i):=by rw[up,dif_pos ⟨h,hl⟩]
theorem up_stop{l:List (Int×Mk)}{i:Nat}(h:¬ (0 < i∧lt (vv l i) (vv l (par i))=true)):up lt l i=(l,i):=by rw[up,dif_neg h]
theorem down_stop{l:List (Int×Mk)}{i:Nat}(h:least lt l i=i):down lt l i=l:=by rw[down,dif_pos h]
theorem down_go{l:List (Int×Mk)}{i:Nat}(h:¬ least lt l i=i):down lt l i=down lt (swp l i (least lt l i)) (least lt l i):=by rw[down,dif_neg h]
theorem vv_getD(l:List (Int×Mk))(i:Nat):vv l i=(l.getD i default).2:=rfl
theorem Hp.kept{w w':World}{base hb:Nat}{fv v:Value}{mb:Nat}{l:List (Int×Mk)}(h:Hp w base hb fv v mb l){F:Nat→Prop}(k:Kept F w w')(h1:¬ F hb)(h2:¬ F mb)(h3:∀ g,v.ownBlock=some g→¬ F g):Hp w' base hb fv v mb l:=
 ⟨(k.block hb (lt_of h.blk) h1).trans h.blk,h.own.kept k h3,h.mp.kept k h2,h.inj,h.wf,h.len⟩
theorem Hp.drewN{w:World}{base hb:Nat}{fv v:Value}{mb:Nat}{l:List (Int×Mk)}(h:Hp w base hb fv v mb l)(n:Nat):Hp (w.drewN n) base hb fv v mb l:=
 h.kept (F:=fun _=>False) ((Kept.refl _ _).drewN n) (fun h=>h) (fun h=>h) (fun _ _ h=>h)
abbrev own(mb:Nat)(v:Value)(x:Nat):Prop:=x=mb∨some x=v.ownBlock
theorem wraps{q:Nat}(h:q≤1000000000):IntKind.i64.wrap (q:Int)=(q:Int)∧wrap64 (q:Int)=(q:Int):=⟨IntWalk.i64_in _ ⟨by omega,by omega⟩,IntWalk.wrap64_in _ ⟨by omega,by omega⟩⟩
theorem wraps1{q:Nat}(h0:0 < q)(h:q≤1000000000):IntKind.i64.wrap ((q:Int) - 1)=(q:Int) - 1∧wrap64 ((q:Int) - 1)=(q:Int) - 1:=⟨IntWalk.i64_in _ ⟨by omega,by omega⟩,IntWalk.wrap64_in _ ⟨by omega,by omega⟩⟩
theorem up_any(HL:LessC)(base hb:Nat)(v:Value)(mb:Nat)(l:List (Int×Mk))(i0:Nat)(hi0:i0 < l.length)(w:World)(h:Hp w base hb fv20 v mb l):
  Calls Tryz.prog 200 #[.pointer (some ⟨hb,0,none⟩),.int .i64 i0] w fun e w'=>e=.returned (.bool ((((up lt l i0).2:Nat):Int) != (i0:Int)))∧Hp w' base hb fv20 v mb (up lt l i0).1∧Kept (own mb v) w w':=by
 go_enter Tryz.func200,Tryz.ntmps200
 go_wp2_with fail
 go_loopw [1] (fun x wr=>∃ (i:Nat) (l':List (Int×Mk)),x=.int .i64 i∧i < l'.length∧up lt l' i=up lt l i0∧Hp wr base hb fv20 v mb l'∧Kept (own mb v) w wr) (fun x _=>(intOf x).toNat)
 case atStart=>exact⟨i0,l,rfl,hi0,rfl,h,Kept.refl _ _⟩
 case round=>
  clear h;obtain⟨i,l',rfl,hi,hup,h,hk⟩:=hrel;rcases h.own.shape with ⟨-,rfl⟩|⟨g,cap,rfl,hg1,hg2,hlc,hcm,hfz,hcl⟩
  ·simp at hi
  have hlen:=h.len;have q0:wr.cell? ⟨hb,0,none⟩=some fv20:=cell_of h.blk;have q1:wr.cell? ⟨hb,1,none⟩=some (.slice (some ⟨g,0,none⟩) l'.length cap):=cell_of h.blk;obtain⟨-,c1,c2,c3⟩:=hcl i hi;have HH:=Lib.hid h;have HK:=Lib.hid hk;by_cases hpos:0 < i
  ·have hp:=par_lt hpos
   obtain⟨-,p1,p2,p3⟩:=hcl (par i) (by omega);have hpe:((i:Int) - 1).tdiv 2=(par i:Int):=by
    rw[Int.tdiv_eq_ediv_of_nonneg (by omega)];unfold par;omega
   obtain⟨p,hpp⟩:∃ p,par i=p:=⟨_,rfl⟩;have hvi:=vv_getD l' i;have hvp:=vv_getD l' p;rw[hpp] at hp p1 p2 p3 hpe;rw[← hvi] at c1 c2 c3;rw[← hvp] at p1 p2 p3;obtain⟨a,ha⟩:∃ a,vv l' i=a:=⟨_,rfl⟩;obtain⟨b,hb'⟩:∃ b,vv l' p=b:=⟨_,rfl⟩;rw[ha] at c1 c2 c3;rw[hb'] at p1 p2 p3;have j1:(0:Int) < (i:Int):=by omega
   have j2:(i:Int) < (l'.length:Int):=by omega
   have j3:(p:Int) < (l'.length:Int):=by omega
   have n5:(0:Int)≤(p:Int):=Int.natCast_nonneg _;have n6:(0:Int)≤(i:Int):=Int.natCast_nonneg _;have hple:p≤1000000000:=by omega
   have hile:i≤1000000000:=by omega
   have hsw:=fun W (hW:Hp W base hb fv20 (.slice (some ⟨g,0,none⟩) l'.length cap) mb l')=>swap_any base hb fv20 _ mb l' i p hi (by omega) W hW;have hls:=fun W=>HL a b W;have hlH:=lt_of h.blk;have hlM:=h.mp;have HS:=Lib.hid (show ∀ W,Kept (fun _=>False) wr W→(W.cell? ⟨hb,0,none⟩=some fv20∧W.cell? ⟨hb,1,none⟩=some (.slice (some ⟨g,0,none⟩) l'.length cap)∧W.cell? ⟨g,i*4+1,none⟩=some (.int .u64 a.n)∧W.cell? ⟨g,i*4+2,none⟩=some (.int .u64 a.d)∧W.cell? ⟨g,i*4+3,none⟩=some (.int .i64 a.id)∧W.cell? ⟨g,p*4+1,none⟩=some (.int .u64 b.n)∧W.cell? ⟨g,p*4+2,none⟩=some (.int .u64 b.d)∧W.cell? ⟨g,p*4+3,none⟩=some (.int .i64 b.id)∧Kept (fun _=>False) wr W) from fun W k=>by
    have kc:=fun (q:Addr) (u:Value) (hq:wr.cell? q=some u)=>(k.cell (block_lt_of_cell hq) (fun h=>h)).trans hq;exact⟨kc _ _ q0,kc _ _ q1,kc _ _ c1,kc _ _ c2,kc _ _ c3,kc _ _ p1,kc _ _ p2,kc _ _ p3,k⟩)
   have HW:=Lib.hid (show ∀ W,Kept (fun _=>False) wr W→Hp W base hb fv20 (.slice (some ⟨g,0,none⟩) l'.length cap) mb l'∧Kept (own mb (.slice (some ⟨g,0,none⟩) l'.length cap)) w W from fun W k=>⟨h.kept k (fun h=>h) (fun h=>h) (fun _ _ h=>h),hk.trans k (fun _ _ h=>h.elim)⟩);have hst:=fun (hab:lt a b=false)=>up_stop (l:=l') (i:=i) (fun hh=>by rw[hpp,ha,hb',hab] at hh;cases hh.2);have hgo:=fun (hab:lt a b=true)=>up_go (l:=l') hpos (by rw[hpp,ha,hb',hab]);rw[hpp] at hgo;have HST:=Lib.hid hst;have HGO:=Lib.hid hgo;clear hcl hfz h hk hvi hvp ha hb' hpp hlM HH HK hst hgo;generalize lt a b=R at *;go_upto_region 2 with fail
   go_cut [1,33] from 7 to 42 (fun x y wx=>x=.int .i64 i∧y=.bool R∧Kept (fun _=>False) wr wx)
   case first=>
    clear hsw HW HST HGO hup;obtain⟨n2,n4⟩:=wraps (q:=p) hple;obtain⟨n1,n3⟩:=wraps1 (q:=i) hpos hile;go_region_held3 (fun W=>W.cell? ⟨hb,0,none⟩=some fv20∧W.cell? ⟨hb,1,none⟩=some (.slice (some ⟨g,0,none⟩) l'.length cap)∧W.cell? ⟨g,i*4+1,none⟩=some (.int .u64 a.n)∧W.cell? ⟨g,i*4+2,none⟩=some (.int .u64 a.d)∧W.cell? ⟨g,i*4+3,none⟩=some (.int .i64 a.id)∧W.cell? ⟨g,p*4+1,none⟩=some (.int .u64 b.n)∧W.cell? ⟨g,p*4+2,none⟩=some (.int .u64 b.d)∧W.cell? ⟨g,p*4+3,none⟩=some (.int .i64 b.id)∧Kept (fun _=>False) wr W)
     (first | exact HS.out _ ((Kept.refl _ wr).drew) | (go_split_ands;exact HS.out _ (Kept.trans (by assumption) (Kept.of_below hBn) (fun _ _ h=>h))))
     (first | (go_at_call 189;with_reducible refine(hls _).mono ?_;rintro e w' ⟨rfl,hBn⟩)|fail)
    obtain⟨-,-,-,-,-,-,-,-,hkw⟩:=‹_∧_›;go_wp2_with fail
    go_meet
    case rel=>exact⟨rfl,rfl,hkw⟩
   case rest=>
    obtain⟨rfl,rfl,hkw⟩:=hcut;obtain⟨h2,k2⟩:=HW.out _ hkw;clear q0 q1 c1 c2 c3 p1 p2 p3 HS HW hls hkw;cases R
    ·rw[HST.out rfl] at hup
     clear hsw HGO HST;go_wp2_with fail
     go_ret
     rw[← hup];exact⟨rfl,h2,k2⟩
    ·rw[HGO.out rfl] at hup
     clear HGO HST;go_wp2_with fail
     refine(hsw _ h2).mono ?_;rintro e w2 ⟨rfl,h3,k3⟩;have hk2:Kept (own mb (.slice (some ⟨g,0,none⟩) l'.length cap)) w w2:=k2.trans k3 (fun _ _ h=>h);have hsl:p < (swp l' i p).length:=by rw[length_swp];omega
     clear hsw k2 k3 h2;go_wp2_with fail
     go_roundw
     case rel=>exact⟨p,_,rfl,hsl,hup,h3,hk2⟩
     case measure=>simp[intOf];omega
  ·obtain rfl:i=0:=by omega
   have hst:=up_stop (l:=l') (i:=0) (fun hh=>hpos hh.1);rw[hst] at hup;have j1:decide ((0:Int) < (0:Int))=false:=rfl;clear hcl hfz h hk hst;go_wp2_with fail
   go_quiet (fail)
   go_wp2_with fail
   go_ret
   rw[← hup];exact⟨rfl,HH.out.drewN _,HK.out.drewN _⟩
def least1(l:List (Int×Mk))(i:Nat):Nat:=if lt (vv l (2*i+1)) (vv l i)=true then 2*i+1 else i
theorem least_none{l:List (Int×Mk)}{i:Nat}(h:¬ 2*i+1 < l.length):least lt l i=i:=by
 unfold least;rw[if_neg (fun hh=>by have:=hh.1;omega),if_neg (fun hh=>h hh.1)]
theorem least_one{l:List (Int×Mk)}{i:Nat}(h1:2*i+1 < l.length)(h:¬ 2*i+2 < l.length):least lt l i=least1 l i:=by
 unfold least least1;dsimp only;rw[if_neg (fun hh=>h hh.1)];by_cases hl:lt (vv l (2*i+1)) (vv l i)=true
 ·rw[if_pos ⟨h1,hl⟩,if_pos hl]
 ·rw[if_neg (fun hh=>hl hh.2),if_neg hl]
theorem least_two{l:List (Int×Mk)}{i:Nat}(h:2*i+2 < l.length):least lt l i=if lt (vv l (2*i+2)) (vv l (least1 l i))=true then 2*i+2 else least1 l i:=by
 have e:(if 2*i+1 < l.length∧lt (vv l (2*i+1)) (vv l i)=true then 2*i+1 else i)=least1 l i:=by
  unfold least1;by_cases hl:lt (vv l (2*i+1)) (vv l i)=true
  ·rw[if_pos ⟨by omega,hl⟩,if_pos hl]
  ·rw[if_neg (fun hh=>hl hh.2),if_neg hl]
 unfold least;dsimp only;rw[e];by_cases hl:lt (vv l (2*i+2)) (vv l (least1 l i))=true
 ·rw[if_pos ⟨h,hl⟩,if_pos hl]
 ·rw[if_neg (fun hh=>hl hh.2),if_neg hl]
theorem down_any(HL:LessC)(base hb:Nat)(v:Value)(mb:Nat)(l:List (Int×Mk))(i0:Nat)(hi0:i0 < l.length)(w:World)(h:Hp w base hb fv20 v mb l):
  Calls Tryz.prog 201 #[.pointer (some ⟨hb,0,none⟩),.int .i64 i0] w fun e w'=>e=.returned (.tuple #[])∧Hp w' base hb fv20 v mb (down lt l i0)∧Kept (own mb v) w w':=by
 go_enter Tryz.func201,Tryz.ntmps201
 go_wp2_with fail
 go_loopw [1] (fun x wr=>∃ (i:Nat) (l':List (Int×Mk)),x=.int .i64 i∧i < l'.length∧l'.length=l.length∧down lt l' i=down lt l i0∧Hp wr base hb fv20 v mb l'∧Kept (own mb v) w wr) (fun x _=>l.length - (intOf x).toNat)
 case atStart=>exact⟨i0,l,rfl,hi0,rfl,rfl,h,Kept.refl _ _⟩
 case round=>
  clear h;obtain⟨i,l',rfl,hi,hll,hdn,h,hk⟩:=hrel;rcases h.own.shape with ⟨-,rfl⟩|⟨g,cap,rfl,hg1,hg2,hlc,hcm,-,-⟩
  ·simp at hi
  have hlen:=h.len;clear hg1 hg2;go_wp2_with fail
  go_loopw [5,4] (fun x y wr=>∃ (c m:Nat),x=.int .i64 c∧y=.int .i64 m∧m < l'.length∧((c=2*i+1∧m=i)∨(c=2*i+2∧2*i+1 < l'.length∧m=least1 l' i)∨(c=2*i+3∧2*i+2 < l'.length∧m=least lt l' i))∧Hp wr base hb fv20 (.slice (some ⟨g,0,none⟩) l'.length cap) mb l'∧Kept (own mb (.slice (some ⟨g,0,none⟩) l'.length cap)) w wr) (fun x _ _=>2*i+3 - (intOf x).toNat)
  case atStart=>exact⟨2*i+1,i,by go_num,rfl,hi,.inl ⟨rfl,rfl⟩,h,hk⟩
  case round=>
   clear h hk;obtain⟨c,m,rfl,rfl,hm,hcm',h,hk⟩:=hrel;rcases h.own.shape with ⟨-,rfl⟩|⟨g',cap',hsh,-,-,-,-,-,hcl⟩
   ·simp at hi
   injection hsh with e1 e2 e3
   injection e1 with e1
   injection e1 with e1 e4 e5
   subst e1;subst e3;clear e2 e4 e5;have q0:wr.cell? ⟨hb,0,none⟩=some fv20:=cell_of h.blk;have q1:wr.cell? ⟨hb,1,none⟩=some (.slice (some ⟨g,0,none⟩) l'.length cap):=cell_of h.blk;have HH:=Lib.hid h;have HK:=Lib.hid hk;have hcle:c≤2*i+3:=by omega
   by_cases hgo:c≤2*i+2∧c < l'.length
   ·obtain⟨hg1,hg2⟩:=hgo
    obtain⟨-,c1,c2,c3⟩:=hcl c hg2;obtain⟨-,m1,m2,m3⟩:=hcl m hm;rw[← vv_getD] at c1 c2 c3 m1 m2 m3;have j1:(c:Int)≤2*(i:Int)+2:=by omega
    have j2:(c:Int) < (l'.length:Int):=by omega
    have j3:(m:Int) < (l'.length:Int):=by omega
    have hnext:∀ t,lt (vv l' c) (vv l' m)=t→((c+1=2*i+1∧(if t=true then c else m)=i)∨(c+1=2*i+2∧2*i+1 < l'.length∧(if t=true then c else m)=least1 l' i)∨(c+1=2*i+3∧2*i+2 < l'.length∧(if t=true then c else m)=least lt l' i)):=by
     intro t ht;rcases hcm' with ⟨rfl,rfl⟩|⟨rfl,h2,rfl⟩|⟨rfl,h2,rfl⟩
     ·right;left
      refine⟨by omega,hg2,?_⟩;unfold least1;rw[ht]
     ·right;right
      refine⟨by omega,hg2,?_⟩;rw[least_two hg2,ht]
     ·omega
    obtain⟨a,ha⟩:∃ a,vv l' c=a:=⟨_,rfl⟩;obtain⟨b,hb'⟩:∃ b,vv l' m=b:=⟨_,rfl⟩;rw[ha] at c1 c2 c3;rw[hb'] at m1 m2 m3;rw[ha,hb'] at hnext;have hls:=fun W=>HL a b W;have HS:=Lib.hid (show ∀ W,Kept (fun _=>False) wr W→W.cell? ⟨hb,0,none⟩=some fv20∧W.cell? ⟨hb,1,none⟩=some (.slice (some ⟨g,0,none⟩) l'.length cap)∧W.cell? ⟨g,c*4+1,none⟩=some (.int .u64 a.n)∧W.cell? ⟨g,c*4+2,none⟩=some (.int .u64 a.d)∧W.cell? ⟨g,c*4+3,none⟩=some (.int .i64 a.id)∧W.cell? ⟨g,m*4+1,none⟩=some (.int .u64 b.n)∧W.cell? ⟨g,m*4+2,none⟩=some (.int .u64 b.d)∧W.cell? ⟨g,m*4+3,none⟩=some (.int .i64 b.id)∧Kept (fun _=>False) wr W from fun W k=>by
     have kc:=fun (q:Addr) (u:Value) (hq:wr.cell? q=some u)=>(k.cell (block_lt_of_cell hq) (fun h=>h)).trans hq;exact⟨kc _ _ q0,kc _ _ q1,kc _ _ c1,kc _ _ c2,kc _ _ c3,kc _ _ m1,kc _ _ m2,kc _ _ m3,k⟩)
    have HW:=Lib.hid (show ∀ W,Kept (fun _=>False) wr W→Hp W base hb fv20 (.slice (some ⟨g,0,none⟩) l'.length cap) mb l'∧Kept (own mb (.slice (some ⟨g,0,none⟩) l'.length cap)) w W from fun W k=>⟨h.kept k (fun h=>h) (fun h=>h) (fun _ _ h=>h),hk.trans k (fun _ _ h=>h.elim)⟩);have n5:(0:Int)≤(c:Int):=Int.natCast_nonneg _;have n6:(0:Int)≤(m:Int):=Int.natCast_nonneg _;have hmle:m≤1000000000:=by omega
    have hcle2:c≤1000000000:=by omega
    generalize lt a b=R at *;clear hcl h hk ha hb' hcm' HH HK;go_upto_region 4 with fail
    go_cut [5,4,46] from 10 to 47 (fun x y z wx=>x=.int .i64 c∧y=.int .i64 m∧z=.bool R∧Kept (fun _=>False) wr wx)
    case first=>
     clear hnext HW;clear hll;go_region_held3 (fun W=>W.cell? ⟨hb,0,none⟩=some fv20∧W.cell? ⟨hb,1,none⟩=some (.slice (some ⟨g,0,none⟩) l'.length cap)∧W.cell? ⟨g,c*4+1,none⟩=some (.int .u64 a.n)∧W.cell? ⟨g,c*4+2,none⟩=some (.int .u64 a.d)∧W.cell? ⟨g,c*4+3,none⟩=some (.int .i64 a.id)∧W.cell? ⟨g,m*4+1,none⟩=some (.int .u64 b.n)∧W.cell? ⟨g,m*4+2,none⟩=some (.int .u64 b.d)∧W.cell? ⟨g,m*4+3,none⟩=some (.int .i64 b.id)∧Kept (fun _=>False) wr W)
      (first | exact HS.out _ ((Kept.refl _ wr).drew) | (go_split_ands;exact HS.out _ (Kept.trans (by assumption) (Kept.of_below hBn) (fun _ _ h=>h))))
      (first | (go_at_call 189;with_reducible refine(hls _).mono ?_;rintro e w' ⟨rfl,hBn⟩)|fail)
     obtain⟨-,-,-,-,-,-,-,-,hkw⟩:=‹_∧_›
     all_goals (go_wp2_with fail)
     all_goals go_meet
     all_goals exact⟨rfl,rfl,rfl,by assumption⟩
    case rest=>
     obtain⟨rfl,rfl,rfl,hkw⟩:=hcut;obtain⟨h2,k2⟩:=HW.out _ hkw;have hnext:=hnext _ rfl;clear q0 q1 c1 c2 c3 m1 m2 m3 HS HW hls hkw;cases R
     ·go_wp2_with fail
      go_roundw
      case rel=>exact⟨c+1,m,by go_num,rfl,hm,hnext,h2,k2⟩
      case measure=>simp[intOf];omega
     ·go_wp2_with fail
      go_roundw
      case rel=>exact⟨c+1,c,by go_num,rfl,hg2,hnext,h2,k2⟩
      case measure=>simp[intOf];omega
   ·have hml:m=least lt l' i:=by
     rcases hcm' with ⟨rfl,rfl⟩|⟨rfl,h2,rfl⟩|⟨rfl,h2,rfl⟩
     ·rw[least_none (by omega)]
     ·rw[least_one h2 (by omega)]
     ·rfl
    have hstop:(¬ (c:Int)≤2*(i:Int)+2)∨((c:Int)≤2*(i:Int)+2∧¬ (c:Int) < (l'.length:Int)):=by omega
    have hsw:=fun W (hW:Hp W base hb fv20 (.slice (some ⟨g,0,none⟩) l'.length cap) mb l')=>swap_any base hb fv20 _ mb l' i m hi hm W hW;clear hcl h hk hcm' hgo;by_cases hmi:m=i
    ·have hds:=down_stop (l:=l') (i:=i) (by rw[← hml];exact hmi)
     rw[hds] at hdn;have heq:((m:Int) == (i:Int))=true:=by rw[hmi];simp
     have HDN:=Lib.hid hdn;clear hml hsw hdn;subst hmi;rcases hstop with hs|⟨hs1,hs2⟩
     all_goals
      go_wp2_with fail
      go_returns
      rw[← HDN.out,← hll];exact⟨rfl,HH.out,HK.out⟩
    ·have hdg:=down_go (l:=l') (i:=i) (by rw[← hml];exact hmi)
     rw[← hml] at hdg;rw[hdg] at hdn;have hlt:i < m:=by
      rcases least_cases lt l' i with h1|⟨h1,-⟩
      ·exact absurd (hml.trans h1) hmi
      ·rw[hml];exact h1
     have heq:((m:Int) == (i:Int))=false:=beq_eq_false_iff_ne.2 (by omega);clear hml hdg;rcases hstop with hs|⟨hs1,hs2⟩
     all_goals
      go_wp2_with fail
      refine(hsw _ HH.out).mono ?_;rintro e w2 ⟨rfl,h2,k2⟩;have hk2:Kept (own mb (.slice (some ⟨g,0,none⟩) l'.length cap)) w w2:=HK.out.trans k2 (fun _ _ h=>h);clear hsw q0 q1 HH HK k2;go_wp2_with fail
      go_roundw
      case rel=>exact⟨m,_,rfl,by rw[length_swp];exact hm,by rw[length_swp];exact hll,hdn,h2,hk2⟩
      case measure=>simp[intOf];omega
theorem fix_any(HL:LessC)(base hb:Nat)(v:Value)(mb:Nat)(l:List (Int×Mk))(i:Nat)(hi:i < l.length)(w:World)(h:Hp w base hb fv20 v mb l):
  Calls Tryz.prog 191 #[.pointer (some ⟨hb,0,none⟩),.int .i64 i] w fun e w'=>e=.returned (.tuple #[])∧Hp w' base hb fv20 v mb (fix lt l i)∧Kept (own mb v) w w':=by
 have hu:=up_any HL base hb v mb l i hi w h;obtain⟨hal,hle⟩:=up_alike lt i l hi;have hlen:(up lt l i).1.length=l.length:=hal.len;have hd:=fun W (hW:Hp W base hb fv20 v mb (up lt l i).1)=>down_any HL base hb v mb (up lt l i).1 i (by rw[hlen];exact hi) W hW;by_cases hc:(up lt l i).2=i
 ·have hf:fix lt l i=down lt (up lt l i).1 i:=by unfold fix;rw[if_pos hc]
  rw[hc] at hu;rw[show (((i:Nat):Int) != (i:Int))=false by simp] at hu;rw[hf];go_enter Tryz.func191,Tryz.ntmps191
  go_wp2_with fail
  refine hu.mono ?_;rintro e w1 ⟨rfl,h1,k1⟩;go_wp2_with fail
  refine(hd _ h1).mono ?_;rintro e w2 ⟨rfl,h2,k2⟩;go_wp2_with fail
  go_end0
  exact⟨rfl,h2,k1.trans k2 (fun _ _ h=>h)⟩
 ·have hf:fix lt l i=(up lt l i).1:=by unfold fix;rw[if_neg hc]
  rw[show ((((up lt l i).2:Nat):Int) != (i:Int))=true by simp;omega] at hu;rw[hf];go_enter Tryz.func191,Tryz.ntmps191
  go_wp2_with fail
  refine hu.mono ?_;rintro e w1 ⟨rfl,h1,k1⟩;go_wp2_with fail
  go_end0
  exact⟨rfl,h1,k1⟩
end Go.Proofs.YtigeldkbfbcpmaaGreat.P09
