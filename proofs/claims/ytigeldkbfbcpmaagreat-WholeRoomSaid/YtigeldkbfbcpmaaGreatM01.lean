/- A part of the proof: what the functions of the program come to, and what holds at all times. -/
import Derived.WalkKit
import Derived.Lib.Hide
import Derived.Deep.Draws
import Derived.Test.YtigeldkbfbcpmaaGreatRows
import Derived.BigRegion
import Derived.BigQuiet
import Derived.Handy
import Derived.Deep.MidRow
import Derived.Deep.CutRange
import Derived.ProofKit
import Derived.OpenShut
import Derived.Deep.Slices
import Derived.ChangeSame
import Derived.Laws.Bits128
set_option linter.unusedVariables false
set_option linter.unusedSectionVars false
set_option linter.unusedSimpArgs false
set_option maxRecDepth 100000
set_option maxHeartbeats 8000000
namespace Go.Kpt
open Go.RowKit
structure Kept (F:Nat→Prop) (w w':World):Prop where
 os:w'.os=w.os
 tape:w'.tape=w.tape
 output:w'.output=w.output
 size:w.heap.size≤w'.heap.size
 block:∀ k,k < w.heap.size→¬ F k→w'.heap[k]?=w.heap[k]?
theorem Kept.refl(F:Nat→Prop)(w:World):Kept F w w:=⟨rfl,rfl,rfl,Nat.le_refl _,fun _ _ _=>rfl⟩
theorem Kept.trans{F G:Nat→Prop}{a b c:World}(h:Kept F a b)(k:Kept G b c)(hG:∀ x,x < a.heap.size→G x→F x):Kept F a c:=
 ⟨k.os.trans h.os,k.tape.trans h.tape,k.output.trans h.output,Nat.le_trans h.size k.size,
  fun x hx hF=>(k.block x (Nat.lt_of_lt_of_le hx h.size) (fun g=>hF (hG x hx g))).trans (h.block x hx hF)⟩
theorem Kept.mono{F G:Nat→Prop}{w w':World}(h:Kept F w w')(hG:∀ x,x < w.heap.size→F x→G x):Kept G w w':=
 ⟨h.os,h.tape,h.output,h.size,fun x hx hF=>h.block x hx (fun g=>hF (hG x hx g))⟩
theorem Kept.drew{F:Nat→Prop}{a w:World}(h:Kept F a w):Kept F a w.drew:=⟨h.os,h.tape,h.output,h.size,h.block⟩
theorem Kept.drewN{F:Nat→Prop}{a w:World}(h:Kept F a w)(n:Nat):Kept F a (w.drewN n):=⟨h.os,h.tape,h.output,h.size,h.block⟩
theorem below_drewN{B:Nat}{a w:World}(h:Below B a w)(n:Nat):Below B a (w.drewN n):=⟨h.os,h.tape,h.output,h.size,h.block⟩
theorem Kept.alloc{F:Nat→Prop}{a w:World}(h:Kept F a w)(o:Obj):Kept F a (w.alloc o):=
 ⟨h.os,h.tape,h.output,Nat.le_trans h.size (by simp),fun x hx hF=>(Below.heap_alloc w o x (Nat.lt_of_lt_of_le hx h.size)).trans (h.block x hx hF)⟩
theorem Kept.setCell{F:Nat→Prop}{a w:World}(h:Kept F a w){p:Addr}(hp:p.block < a.heap.size→F p.block)(u:Value):Kept F a (w.setCell p u):=
 ⟨h.os,h.tape,h.output,by rw[World.size_setCell];exact h.size,
  fun x hx hF=>(Below.heap_setCell w p u x (fun e=>hF (by rw[e];exact hp (by rw[← e];exact hx)))).trans (h.block x hx hF)⟩
theorem Kept.of_below{F:Nat→Prop}{w w':World}(h:Below w.heap.size w w'):Kept F w w':=
 ⟨h.os,h.tape,h.output,h.size,fun x hx _=>h.block x hx⟩
theorem Kept.below{F:Nat→Prop}{w w':World}(h:Kept F w w'){B:Nat}(hB:B≤w.heap.size)(hF:∀ x,x < B→¬ F x):Below B w w':=
 ⟨h.os,h.tape,h.output,h.size,fun x hx=>h.block x (Nat.lt_of_lt_of_le hx hB) (hF x hx)⟩
theorem Kept.cell{F:Nat→Prop}{w w':World}(h:Kept F w w'){p:Addr}(hp:p.block < w.heap.size)(hF:¬ F p.block):w'.cell? p=w.cell? p:=
 World.cell?_of_block (w:=w) (h.block p.block hp hF)
theorem cell_of{w:World}{b j:Nat}{cs:Array Value}{t:TypeId}(h:w.heap[b]?=some (.cells cs t (0,0))):w.cell? ⟨b,j,none⟩=cs[j]?:=
 cell_of_row w b j cs t (0,0) h
theorem frozen_of{w:World}{b j:Nat}{cs:Array Value}{t:TypeId}(h:w.heap[b]?=some (.cells cs t (0,0))):w.frozen? ⟨b,j,none⟩=false:=
 frozen_of_row w b j cs t h
theorem set_same{w:World}{b i:Nat}{cs:Array Value}{t:TypeId}(v:Value)(h:w.heap[b]?=some (.cells cs t (0,0))):
  (w.setCell ⟨b,i,none⟩ v).heap[b]?=some (.cells (cs.setIfInBounds i v) t (0,0)):=heap_setCell_same w b i cs t v h
theorem Kept.set1(w:World)(b i:Nat)(u:Value):Kept (fun x=>x=b) w (w.setCell ⟨b,i,none⟩ u):=Kept.setCell (F:=fun x=>x=b) (p:=⟨b,i,none⟩) (Kept.refl (fun x=>x=b) w) (fun _=>rfl) u
theorem lt_of{w:World}{b:Nat}{o:Obj}(h:w.heap[b]?=some o):b < w.heap.size:=(Array.getElem?_eq_some_iff.1 h).1
end Go.Kpt
namespace Go.Proofs.YtigeldkbfbcpmaaGreat
open Go.RowKit Go.Kpt
structure Hst where
 bins:Nat→Int
 inn:Int
 over:Int
def h0:Hst:=⟨fun _=>0,0,0⟩
def Hh(w:World)(b:Nat)(h:Hst):Prop:=
 ∃ cs:Array Value,w.heap[b]?=some (.cells cs 219 (0,0))∧cs.size=242∧(∀ i,i < 240→cs[i]?=some (.int .i64 (h.bins i)))∧cs[240]?=some (.int .i64 h.inn)∧cs[241]?=some (.int .i64 h.over)
theorem Hh.kept{F:Nat→Prop}{w w':World}{b:Nat}{h:Hst}(q:Hh w b h)(k:Kept F w w')(hF:¬ F b):Hh w' b h:=by
 obtain⟨cs,h1,h2⟩:=q;exact⟨cs,(k.block b (lt_of h1) hF).trans h1,h2⟩
theorem Hh.cells{w:World}{b:Nat}{h:Hst}(q:Hh w b h):(∀ i,i < 240→w.cell? ⟨b,i,none⟩=some (.int .i64 (h.bins i)))∧w.cell? ⟨b,240,none⟩=some (.int .i64 h.inn)∧w.cell? ⟨b,241,none⟩=some (.int .i64 h.over):=by
 obtain⟨cs,h1,hs,h2,h3,h4⟩:=q;exact⟨fun i hi=>(cell_of h1).trans (h2 i hi),(cell_of h1).trans h3,(cell_of h1).trans h4⟩
theorem Hh.frozen{w:World}{b:Nat}{h:Hst}(q:Hh w b h)(j:Nat):w.frozen? ⟨b,j,none⟩=false:=by
 obtain⟨cs,h1,-⟩:=q;exact frozen_of h1
def hput(f:Nat→Int)(i:Nat)(x:Int):Nat→Int:=fun k=>if k=i then x else f k
theorem Hh.setBin{w:World}{b:Nat}{h:Hst}(q:Hh w b h)(i:Nat)(hi:i < 240)(x:Int):Hh (w.setCell ⟨b,i,none⟩ (.int .i64 x)) b { h with bins:=hput h.bins i x }:=by
 obtain⟨cs,h1,hs,h2,h3,h4⟩:=q;refine⟨cs.setIfInBounds i (.int .i64 x),set_same _ h1,by simp[hs],fun k hk=>?_,?_,?_⟩ <;> simp only[Array.getElem?_setIfInBounds]
 ·show _=some (Value.int .i64 (hput h.bins i x k))
  unfold hput;by_cases e:k=i
  ·subst e;rw[if_pos rfl,if_pos rfl,if_pos (by omega)]
  ·rw[if_neg (fun h=>e h.symm),if_neg e];exact h2 k hk
 ·rw[if_neg (by omega)];exact h3
 ·rw[if_neg (by omega)];exact h4
theorem Hh.setIn{w:World}{b:Nat}{h:Hst}(q:Hh w b h)(x:Int):Hh (w.setCell ⟨b,240,none⟩ (.int .i64 x)) b { h with inn:=x }:=by
 obtain⟨cs,h1,hs,h2,h3,h4⟩:=q;refine⟨cs.setIfInBounds 240 (.int .i64 x),set_same _ h1,by simp[hs],fun k hk=>?_,?_,?_⟩ <;> simp only[Array.getElem?_setIfInBounds]
 ·rw[if_neg (by omega)];exact h2 k hk
 ·rw[if_pos trivial,if_pos (by omega)]
 ·rw[if_neg (by omega)];exact h4
theorem Hh.setOver{w:World}{b:Nat}{h:Hst}(q:Hh w b h)(x:Int):Hh (w.setCell ⟨b,241,none⟩ (.int .i64 x)) b { h with over:=x }:=by
 obtain⟨cs,h1,hs,h2,h3,h4⟩:=q;refine⟨cs.setIfInBounds 241 (.int .i64 x),set_same _ h1,by simp[hs],fun k hk=>?_,?_,?_⟩ <;> simp only[Array.getElem?_setIfInBounds]
 ·rw[if_neg (by omega)];exact h2 k hk
 ·rw[if_neg (by omega)];exact h3
 ·rw[if_pos trivial,if_pos (by omega)]
def hz:Array Value:=(List.replicate 242 (Value.int .i64 0)).toArray
theorem zero219(w:World):(zeroValue 219).run Tryz.prog w=.ok (.agg hz) w:=by kernel_rfl
theorem hz_at(i:Nat)(hi:i < 242):hz[i]?=some (.int .i64 0):=by
 unfold hz;rw[List.getElem?_toArray,List.getElem?_replicate,if_pos hi]
theorem hz_size:hz.size=242:=by simp[hz]
attribute [irreducible] hz
theorem hnew_any(w:World):Calls Tryz.prog 76 #[] w fun e w'=>e=.returned (.pointer (some ⟨w.heap.size,0,none⟩))∧Hh w' w.heap.size h0∧Below w.heap.size w w'∧w'.heap.size=w.heap.size+1:=by
 have hzz:=zero219 w;go_enter Tryz.func76,Tryz.ntmps76
 go_wp2_with fail
 go_ret
 exact⟨rfl,⟨hz,heap_alloc_new _ _,hz_size,fun i hi=>hz_at i (by omega),hz_at 240 (by omega),hz_at 241 (by omega)⟩,by go_grown,by simp⟩
structure HGood (h:Hst) (n:Nat):Prop where
 bins:∀ i,i < 240→0≤h.bins i∧h.bins i≤n
 inn:0≤h.inn
 over:0≤h.over
 sum:h.inn+h.over≤n
theorem hgood0:HGood h0 0:=⟨fun i _=>⟨Int.le_refl _,Int.le_refl _⟩,Int.le_refl _,Int.le_refl _,Int.le_refl _⟩
def hadd(h:Hst)(x:Int):Hst:=
 if x < 0 then h else if x < 240 then ⟨hput h.bins x.toNat (h.bins x.toNat+1),h.inn+1,h.over⟩ else ⟨h.bins,h.inn,h.over+1⟩
theorem hadd_good{h:Hst}{n:Nat}(g:HGood h n)(x:Int):HGood (hadd h x) (n+1):=by
 have h1:=g.inn;have h2:=g.over;have h3:=g.sum;unfold hadd;split
 ·exact⟨fun i hi=>by have:=g.bins i hi;push_cast;omega,h1,h2,by push_cast;omega⟩
 ·split
  ·refine⟨fun i hi=>?_,by show 0≤h.inn+1;omega,h2,by show h.inn+1+h.over≤_;push_cast;omega⟩
   show 0≤hput h.bins x.toNat (h.bins x.toNat+1) i∧hput h.bins x.toNat (h.bins x.toNat+1) i≤_;unfold hput;split
   ·rename_i e;subst e;have:=g.bins _ hi;push_cast;omega
   ·have:=g.bins i hi;push_cast;omega
  ·exact⟨fun i hi=>by have:=g.bins i hi;push_cast;omega,h1,by show 0≤h.over+1;omega,by show h.inn+(h.over+1)≤_;push_cast;omega⟩
theorem Kept.hset{a w:World}{b:Nat}(h:Kept (fun x=>x=b) a w)(i:Nat)(u:Value):Kept (fun x=>x=b) a (w.setCell ⟨b,i,none⟩ u):=h.setCell (p:=⟨b,i,none⟩) (fun _=>rfl) u
theorem hadd_any(b:Nat)(h:Hst)(n:Nat)(g:HGood h n)(hn:n < 4095)(x:Int)(w:World)(q:Hh w b h):
  Calls Tryz.prog 138 #[.pointer (some ⟨b,0,none⟩),.int .i64 x] w fun e w'=>e=.returned (.tuple #[])∧Hh w' b (hadd h x)∧Kept (fun y=>y=b) w w':=by
 have gi:=g.inn;have go_:=g.over;have gs:=g.sum;obtain⟨c0,c1,c2⟩:=q.cells;unfold hadd;by_cases hx:x < 0
 ·rw[if_pos hx]
  clear c0 c1 c2;go_enter Tryz.func138,Tryz.ntmps138
  go_wp2_with fail
  refine bodyPost_ret (results_none rfl _ _ _) rfl ?_;exact⟨rfl,q,Kept.refl _ _⟩
 ·rw[if_neg hx]
  by_cases hx2:x < 240
  ·rw[if_pos hx2]
   obtain⟨i,rfl⟩:∃ i:Nat,x=i:=⟨x.toNat,by omega⟩;rw[Int.toNat_natCast];have hi:i < 240:=by omega
   have gb:=g.bins i hi;have ci:=c0 i hi;have fi:=q.frozen i;have hq1:=q.setBin i hi (h.bins i+1);have hk1:Kept (fun y=>y=b) w (w.setCell ⟨b,i,none⟩ (.int .i64 (h.bins i+1))):=Kept.hset (Kept.refl _ w) _ _;have HR:=Lib.hid (And.intro hq1 hk1);clear c0 c1 c2 hq1 hk1 q g;generalize h.bins i=B at *;go_enter Tryz.func138,Tryz.ntmps138
   go_wp2_with fail
   go_region
   all_goals
    obtain⟨w1,hw1⟩:∃ w1,w.setCell ⟨b,i,none⟩ (.int .i64 (B+1))=w1:=⟨_,rfl⟩;have hqk:=HR.out
    try simp only[hw1]
    rw[hw1] at hqk;have hq1:Hh w1.drew b { h with bins:=hput h.bins i (B+1) }:=hqk.1.kept (F:=fun _=>False) ((Kept.refl _ w1).drew) (fun h=>h);have hk1:=hqk.2.drew;clear HR hw1 hqk ci fi;generalize w1.drew=w2 at *;obtain⟨-,c1,c2⟩:=hq1.cells;have f1:=hq1.frozen 240;have hq2:=hq1.setIn (h.inn+1);have hk2:=Kept.hset hk1 240 (.int .i64 (h.inn+1));clear hq1 hk1;go_upto_region 5 with fail
    obtain⟨w3,hw3⟩:∃ w3,w2.setCell ⟨b,240,none⟩ (.int .i64 (h.inn+1))=w3:=⟨_,rfl⟩
    try simp only[hw3]
    rw[hw3] at hq2 hk2;clear hw3 c1 c2 f1;obtain⟨-,c1,c2⟩:=hq2.cells;have c1:w3.cell? ⟨b,240,none⟩=some (.int .i64 (h.inn+1)):=c1;have c2:w3.cell? ⟨b,241,none⟩=some (.int .i64 h.over):=c2;go_wp2_with fail
    go_quiet (fail)
    have hq3:=hq2.kept (F:=fun _=>False) ((Kept.refl _ w3).drewN nq) (fun h=>h);have hk3:=hk2.drewN nq;go_wp2_with fail
    go_end0
    exact⟨rfl,hq3,hk3⟩
  ·rw[if_neg hx2]
   have f1:=q.frozen 241;have hq2:=q.setOver (h.over+1);have hk2:Kept (fun y=>y=b) w (w.setCell ⟨b,241,none⟩ (.int .i64 (h.over+1))):=Kept.hset (Kept.refl _ w) 241 _;clear c0 q;go_enter Tryz.func138,Tryz.ntmps138
   go_upto_region 5 with fail
   obtain⟨w3,hw3⟩:∃ w3,w.setCell ⟨b,241,none⟩ (.int .i64 (h.over+1))=w3:=⟨_,rfl⟩
   try simp only[hw3]
   rw[hw3] at hq2 hk2;clear hw3 c1 c2 f1;obtain⟨-,c1,c2⟩:=hq2.cells;have c1:w3.cell? ⟨b,240,none⟩=some (.int .i64 h.inn):=c1;have c2:w3.cell? ⟨b,241,none⟩=some (.int .i64 (h.over+1)):=c2;go_wp2_with fail
   go_quiet (fail)
   have hq3:=hq2.kept (F:=fun _=>False) ((Kept.refl _ w3).drewN nq) (fun h=>h);have hk3:=hk2.drewN nq;go_wp2_with fail
   go_end0
   exact⟨rfl,hq3,hk3⟩
theorem hin_any(b:Nat)(h:Hst)(w:World)(q:Hh w b h):Calls Tryz.prog 104 #[.pointer (some ⟨b,0,none⟩)] w fun e w'=>e=.returned (.int .i64 h.inn)∧w'=w:=by
 obtain⟨c0,c1,c2⟩:=q.cells;clear c0;go_enter Tryz.func104,Tryz.ntmps104
 go_wp2_with fail
 go_ret
 exact⟨rfl,rfl⟩
theorem hover_any(b:Nat)(h:Hst)(w:World)(q:Hh w b h):Calls Tryz.prog 105 #[.pointer (some ⟨b,0,none⟩)] w fun e w'=>e=.returned (.int .i64 h.over)∧w'=w:=by
 obtain⟨c0,c1,c2⟩:=q.cells;clear c0;go_enter Tryz.func105,Tryz.ntmps105
 go_wp2_with fail
 go_ret
 exact⟨rfl,rfl⟩
theorem wp_load_at{P:Program}{op:Oper}{a:Act}{w:World}{K:Act→World→Prop}{Q:Exit→Act→World→Prop}(ty:TypeId)(x:Operand)(ho:op.op=.load ty x)(b o:Nat)
  (hx:a.eval x=.pointer (some ⟨b,o,none⟩)) (v:Value) (hr:(loadVar ty ⟨b,o,none⟩).run P w=.ok v w) (h:K (a.put op.dst v) w):op.wp P a w K Q:=by
 unfold Oper.wp execOp;simp only[ho,hx,Instr.loadAt,Instr.sureAddr,Sem.run_bind,Sem.run_pure,Result.andThen_ok,hr];exact h
theorem Hh.row{w:World}{b:Nat}{h:Hst}(q:Hh w b h):∃ R:Array Value,(loadVar 217 ⟨b,0,none⟩).run Tryz.prog w=.ok (.agg R) w∧∀ i,i < 240→R[i]?=some (.int .i64 (h.bins i)):=by
 obtain⟨cs,hb,hs,h2,-⟩:=q;refine⟨cs.extract 0 240,?_,fun i hi=>?_⟩
 ·have:=run_loadVar_mid (P:=Tryz.prog) w b 0 217 (cs.extract 0 240).toList _ (World.rangeAt_of_block hb 0 240) Tryz.underlying217 rfl (by rw[show (Tryz.prog.info? 217).map (·.size)=some 240 by kernel_rfl];simp[hs])
  rw[Array.toArray_toList] at this;exact this
 ·rw[Array.getElem?_extract,if_pos (by omega),Nat.zero_add];exact h2 i hi
theorem index_bin(w:World)(k:Nat)(hk:k < 240)(R:Array Value)(x:Int)(hx:R[k]?=some (.int .i64 x)):(Instr.index 217 (.agg R) (.int .i64 k)).run Tryz.prog w=.ok (.int .i64 x) w:=by
 have h0:(k:Int) < 240:=by omega
 simp[Instr.index,asIntOf,run_underlying Tryz.underlying217,part,Tryz.isAgg3,Tryz.sizeOf3,hx,go_sem];intro h;omega
def bsum(f:Nat→Int):Nat→Int
 | 0=>0
 | k+1=>bsum f k+f k
def bsq(f:Nat→Int):Nat→Int
 | 0=>0
 | k+1=>bsq f k+f k*f k
theorem bsum_bd{f:Nat→Int}{n:Nat}(h:∀ i,i < 240→0≤f i∧f i≤n):∀ k,k≤240→0≤bsum f k∧bsum f k≤(n:Int)*k:=by
 intro k
 induction k with
 | zero=>intro _;simp[bsum]
 | succ k ih=>
  intro hk;have h1:=ih (by omega);have h2:=h k (by omega);have e:(n:Int)*((k+1:Nat):Int)=(n:Int)*k+n:=by push_cast;rw[Int.mul_add,Int.mul_one]
  simp only[bsum];rw[e];omega
theorem bsq_bd{f:Nat→Int}(h:∀ i,i < 240→0≤f i∧f i≤4096):∀ k,k≤240→0≤bsq f k∧bsq f k≤16777216*(k:Int):=by
 intro k
 induction k with
 | zero=>intro _;simp[bsq]
 | succ k ih=>
  intro hk;have h1:=ih (by omega);have h2:=h k (by omega);have h3:f k*f k≤4096*4096:=Int.mul_le_mul h2.2 h2.2 h2.1 (by omega);have h4:0≤f k*f k:=Int.mul_nonneg h2.1 h2.1;simp only[bsq];push_cast;omega
def spread(h:Hst):Bool:=decide (0 < h.inn) && decide (5*h.inn*h.inn≤240*bsq h.bins 240)
def cutFrom(h:Hst)(p:Int):Nat→Nat→Nat
 | 0,_=>239
 | n+1,i=>if 0 < bsum h.bins (i+1)∧p*h.inn≤bsum h.bins (i+1)*100 then i else cutFrom h p n (i+1)
theorem cutFrom_zero(h:Hst)(p:Int)(i:Nat):cutFrom h p 0 i=239:=rfl
theorem cutFrom_succ(h:Hst)(p:Int)(n i:Nat):cutFrom h p (n+1) i=if 0 < bsum h.bins (i+1)∧p*h.inn≤bsum h.bins (i+1)*100 then i else cutFrom h p n (i+1):=rfl
theorem cutFrom_le(h:Hst)(p:Int):∀ n i,n+i=240→cutFrom h p n i < 240:=by
 intro n
 induction n with
 | zero=>intro i _;show 239 < 240;omega
 | succ n ih=>
  intro i hi;unfold cutFrom;split
  ·omega
  ·exact ih (i+1) (by omega)
attribute [irreducible] cutFrom
theorem spread_any(b:Nat)(h:Hst)(n:Nat)(g:HGood h n)(hn:n≤4096)(w:World)(q:Hh w b h):Calls Tryz.prog 110 #[.pointer (some ⟨b,0,none⟩)] w fun e w'=>e=.returned (.bool (spread h))∧Below w.heap.size w w':=by
 obtain⟨R,hld,hX⟩:=q.row;have gi:=g.inn;have go_:=g.over;have gs:=g.sum;have gb:∀ i,i < 240→0≤h.bins i∧h.bins i≤4096:=fun i hi=>by have:=g.bins i hi;omega
 obtain⟨r,hr⟩:∃ r,spread h=r:=⟨_,rfl⟩;rw[hr];have HR:=Lib.hid hr;clear hr;go_enter Tryz.func110,Tryz.ntmps110
 go_wp2_with fail
 refine wp_load_at 217 _ rfl b 0 rfl _ hld ?_;go_wp2_with fail
 go_loopw [10,3] (fun x y wr=>∃ (k:Nat),x=.int .i64 k∧k≤240∧y=.int .i64 (bsq h.bins k)∧wr=w) (fun x _ _=>240 - (intOf x).toNat)
 case atStart=>exact⟨0,rfl,by omega,rfl,rfl⟩
 case round=>
  obtain⟨k,rfl,hk,rfl,rfl⟩:=hrel;have b1:=bsq_bd gb k hk;by_cases hlt:k < 240
  ·have e1:bsq h.bins (k+1)=bsq h.bins k+h.bins k*h.bins k:=rfl
   have hx:=hX k hlt;have hgk:=gb k hlt;have hix:=index_bin wr k hlt R _ hx;have j1:(k:Int) < 240:=by omega
   have h3:h.bins k*h.bins k≤4096*4096:=Int.mul_le_mul hgk.2 hgk.2 hgk.1 (by omega);have h4:0≤h.bins k*h.bins k:=Int.mul_nonneg hgk.1 hgk.1;clear hX hld hx gb g;generalize h.bins k=B at *;generalize bsq h.bins k=S at *;obtain⟨BB,hBB⟩:∃ BB,B*B=BB:=⟨_,rfl⟩;rw[hBB] at h3 h4 e1;go_wp2_with fail
   go_roundw
   case rel=>exact⟨k+1,by go_num,by omega,by rw[e1],trivial⟩
   case measure=>simp[intOf];omega
  ·obtain rfl:k=240:=by omega
   obtain⟨c0,c1,c2⟩:=q.cells;clear c0 hX hld gb;have hi2:h.inn*h.inn≤4096*4096:=Int.mul_le_mul (by omega) (by omega) gi (by omega);have hi0:0≤h.inn*h.inn:=Int.mul_nonneg gi gi;have hr:=HR.out;clear HR;unfold spread at hr;generalize bsq h.bins 240=S at *;have hass:5*h.inn*h.inn=5*(h.inn*h.inn):=Int.mul_assoc _ _ _;generalize h.inn*h.inn=I2 at *;obtain⟨M,hM⟩:∃ M,5*h.inn*h.inn=M:=⟨_,rfl⟩;rw[hM] at hass hr;have hM1:0≤M∧M≤83886080:=by omega
   have hi1:h.inn≤4096:=by omega
   clear hass hi2 hi0 go_ gs g;have hways:(h.inn≤0∧r=false)∨(0 < h.inn∧M≤240*S∧r=true)∨(0 < h.inn∧240*S < M∧r=false):=by
    by_cases a1:0 < h.inn
    ·by_cases a2:M≤240*S
     ·right;left;exact⟨a1,a2,by rw[← hr];simp[a1,a2]⟩
     ·right;right;exact⟨a1,by omega,by rw[← hr];simp[a2]⟩
    ·left;exact⟨by omega,by rw[← hr];simp[a1]⟩
   clear hr;rcases hways with ⟨a1,rfl⟩|⟨a1,a2,rfl⟩|⟨a1,a2,rfl⟩
   case' inl=>have d1:decide (0 < h.inn)=false:=decide_eq_false (by omega)
   case' inr.inl=>
    have d1:decide (0 < h.inn)=true:=decide_eq_true a1;have d2:decide (M≤240*S)=true:=decide_eq_true a2
   case' inr.inr=>
    have d1:decide (0 < h.inn)=true:=decide_eq_true a1;have d2:decide (M≤240*S)=false:=decide_eq_false (by omega)
   all_goals
    go_wp2_with fail
    go_quiet (fail)
    go_wp2_with fail
    go_ret
    exact⟨rfl,below_drewN (Below.refl _ _) _⟩
theorem cut_any(b:Nat)(h:Hst)(n:Nat)(g:HGood h n)(hn:n≤4096)(p:Nat)(hp:p=5∨p=99)(w:World)(q:Hh w b h)(h0:0 < h.inn):
  Calls Tryz.prog 111 #[.pointer (some ⟨b,0,none⟩),.int .i64 p] w fun e w'=>e=.returned (.tuple #[.int .i64 (cutFrom h p 240 0),.bool true])∧Below w.heap.size w w':=by
 obtain⟨R,hld,hX⟩:=q.row;have gi:=g.inn;have go_:=g.over;have gs:=g.sum;obtain⟨c0,c1,c2⟩:=q.cells;clear c0;have d0:(h.inn == 0)=false:=by simp;omega
 have hpi:(p:Int)*h.inn≤100*4096:=Int.mul_le_mul (by omega) (by omega) gi (by omega);have hpi0:0≤(p:Int)*h.inn:=Int.mul_nonneg (by omega) gi;obtain⟨C,hC⟩:∃ C,cutFrom h p 240 0=C:=⟨_,rfl⟩;rw[hC];have hrel:∀ m i,cutFrom h p (m+1) i=if 0 < bsum h.bins (i+1)∧(p:Int)*h.inn≤bsum h.bins (i+1)*100 then i else cutFrom h p m (i+1):=fun m i=>cutFrom_succ h p m i
 have h239:=fun i=>cutFrom_zero h p i;generalize cutFrom h (p:Int)=D at *;have HRL:=Lib.hid hrel;have HC:=Lib.hid hC;have H239:=Lib.hid h239;clear hrel hC h239;obtain⟨PI,hPI⟩:∃ PI,(p:Int)*h.inn=PI:=⟨_,rfl⟩;rw[hPI] at hpi hpi0;have HPI:=Lib.hid hPI;rcases hp with rfl|rfl
 all_goals
  go_enter Tryz.func111,Tryz.ntmps111
  go_upto_region 5 with fail
  clear c1 c2;go_wp2_with fail
  refine wp_load_at 217 _ rfl b 0 rfl _ hld ?_;go_wp2_with fail
  go_loopw [21,6] (fun x y wr=>∃ (k:Nat),x=.int .i64 k∧k≤240∧y=.int .i64 (bsum h.bins k)∧D (240 - k) k=C∧wr=w) (fun x _ _=>240 - (intOf x).toNat)
  case atStart=>exact⟨0,rfl,by omega,rfl,HC.out,rfl⟩
  case round=>
   obtain⟨k,rfl,hk,rfl,hCk,rfl⟩:=hrel;have b1:=bsum_bd g.bins k hk;by_cases hlt:k < 240
   ·have e1:bsum h.bins (k+1)=bsum h.bins k+h.bins k:=rfl
    have hx:=hX k hlt;have hgk:=g.bins k hlt;have hix:=index_bin wr k hlt R _ hx;have j1:(k:Int) < 240:=by omega
    have hkn:(n:Int)*k≤4096*240:=Int.mul_le_mul (by omega) (by omega) (by omega) (by omega);have hst:=HRL.out (240 - (k+1)) k;rw[show 240 - (k+1)+1=240 - k by omega,hCk,e1,HPI.out] at hst;obtain⟨-,c1,c2⟩:=q.cells;clear hX hld hx HC HRL hCk;generalize h.bins k=B at *;generalize bsum h.bins k=S at *;by_cases hstop:0 < S+B∧PI≤(S+B)*100
    ·rw[if_pos hstop] at hst
     subst hst;obtain⟨s1,s2⟩:=hstop;go_wp2_with fail
     go_returns
     exact⟨rfl,Below.refl _ _⟩
    ·rw[if_neg hstop] at hst
     have hno:S+B≤0∨(0 < S+B∧(S+B)*100 < PI):=by omega
     clear hstop;rcases hno with hno|⟨hno,hno2⟩
     case' inl=>have hno3:¬ 0 < S+B:=by omega
     case' inr=>have hno3:¬ PI≤(S+B)*100:=by omega
     all_goals
      go_wp2_with fail
      go_roundw
      case rel=>exact⟨k+1,by go_num,by omega,by rw[e1],hst.symm,trivial⟩
      case measure=>simp[intOf];omega
   ·obtain rfl:k=240:=by omega
    have:(239:Nat)=C:=by rw[Nat.sub_self,H239.out] at hCk;exact hCk
    subst this;clear hX hld HC HRL hCk;go_wp2_with fail
    go_returns
    exact⟨rfl,Below.refl _ _⟩
end Go.Proofs.YtigeldkbfbcpmaaGreat
namespace Go.Kpt
open Go.RowKit Go.ChangeShapes Go.WideShapes Go.ChangeAt Go.Deep
def IsInts(k:IntKind)(w:World)(a:Option Addr)(zs:List Int):Prop:=
 zs.length≤maxLen∧(∀ n ∈ zs,(Lit.int k n).wf=true) ∧
 ∀ i,i < zs.length→∃ b off,a=some ⟨b,off,none⟩∧w.cell? ⟨b,off+i,none⟩=some (.int k (zs.getD i 0))
def IsBools(w:World)(a:Option Addr)(zs:List Bool):Prop:=
 zs.length≤maxLen∧∀ i,i < zs.length→∃ b off,a=some ⟨b,off,none⟩∧w.cell? ⟨b,off+i,none⟩=some (.bool (zs.getD i false))
def IsStructs(n:Nat)(w:World)(a:Option Addr)(zs:List (Nat→Int)):Prop:=
 zs.length≤maxLen∧(∀ f ∈ zs,∀ j,(Lit.int .i64 (f j)).wf=true) ∧
 ∀ i,i < zs.length→∃ b off,a=some ⟨b,off,none⟩∧∀ j,j < n→w.cell? ⟨b,off+i*n+j,none⟩=some (.int .i64 (zs.getD i (fun _=>0) j))
theorem wf_get{k:IntKind}{zs:List Int}(h:∀ n ∈ zs,(Lit.int k n).wf=true)(h0:(Lit.int k 0).wf=true)(i:Nat):(Lit.int k (zs.getD i 0)).wf=true:=by
 rw[List.getD_eq_getElem?_getD];cases e:zs[i]? with
 | none=>exact h0
 | some x=>exact h x (List.mem_of_getElem? e)
theorem addr_of_cell{w:World}{a:Addr}{v:Value}(h:w.cell? a=some v):a=⟨a.block,a.off,none⟩:=by
 have:=World.cell?_spot h;cases a;simp_all
theorem add_form(b off i:Nat):(⟨b,off,none⟩:Addr).add i=⟨b,off+i,none⟩:=by
 unfold Addr.add;split
 ·rename_i h;subst h;rfl
 ·rfl
section
variable {H:Type} {enc:TypeId×Value→H} {P:Program} {w:World} {base:Nat} {spare:Nat→Bool} {held:Bool}
theorem read_ints{t e:TypeId}{k:IntKind}{a:Option Addr}{len cap:Nat}{d:DataW H}{p:List MemPlace}(ht:P.underlying t=some (.slice e))(he:P.underlying e=some (.int k))(hc:P.cellsOf e=1)
  (h:DataW.Trod enc P w base spare held t (.slice a len cap) d p):∃ zs,len=zs.length∧IsInts k w a zs∧zs.length≤cap:=by
 obtain⟨fuel,hf⟩:=h;rcases open_ints ht he hc hf with ⟨hcs,_⟩|⟨x,l,c,zs,hcs,_,hl,hm,hz,_,hcell,hwz⟩
 ·simp[Value.cells] at hcs
  obtain⟨rfl,rfl,rfl⟩:=hcs;exact⟨[],rfl,⟨Nat.zero_le _,by simp,by simp⟩,Nat.zero_le _⟩
 ·simp[Value.cells] at hcs
  obtain⟨rfl,rfl,rfl⟩:=hcs;have hle:len≤zs.length:=by rw[hz];split <;> omega
  refine⟨zs.take len,by simp;omega,⟨by simp;omega,fun n hn=>hwz n (List.mem_of_mem_take hn),fun i hi=>?_⟩,by simp;omega⟩;have hi':i < len:=by simp at hi;omega
  have h0:=hcell 0 (by omega);have hx:x=⟨x.block,x.off,none⟩:=addr_of_cell (by simpa[Addr.add] using h0);refine⟨x.block,x.off,by rw[← hx],?_⟩;have:=hcell i (by omega);rw[hx,add_form] at this;rw[this];simp[List.getD_eq_getElem?_getD,hi']
theorem read_bools{t e:TypeId}{a:Option Addr}{len cap:Nat}{d:DataW H}{p:List MemPlace}(ht:P.underlying t=some (.slice e))(he:P.underlying e=some .bool)(hc:P.cellsOf e=1)
  (h:DataW.Trod enc P w base spare held t (.slice a len cap) d p):∃ zs,len=zs.length∧IsBools w a zs∧zs.length≤cap:=by
 obtain⟨fuel,hf⟩:=h;rcases open_slice1 ht hc hf with ⟨hcs,_⟩|⟨x,l,c,m,n,V,D,Pl,hcs,_,hl,hm,hmm,_,hx⟩
 ·simp[Value.cells] at hcs
  obtain⟨rfl,rfl,rfl⟩:=hcs;exact⟨[],rfl,⟨Nat.zero_le _,by simp⟩,Nat.zero_le _⟩
 ·simp[Value.cells] at hcs
  obtain⟨rfl,rfl,rfl⟩:=hcs;have hle:len≤m:=by rw[hmm];split <;> omega
  refine⟨(List.range len).map fun i=>(match V i with | .bool q=>q | _=>false),by simp,⟨by simp;omega,fun i hi=>?_⟩,by simp;omega⟩;have hi':i < len:=by simpa using hi
  have h0:=(hx 0 (by omega)).1;have hxx:x=⟨x.block,x.off,none⟩:=addr_of_cell (by simpa[Addr.add] using h0);refine⟨x.block,x.off,by rw[← hxx],?_⟩;obtain⟨hc1,hc2⟩:=hx i (by omega);rw[hxx,add_form] at hc1;obtain⟨q,hq⟩:∃ q,V i=.bool q:=by
   cases n with
   | zero=>simp[DataW.trod] at hc2
   | succ n=>unfold DataW.trod at hc2;rw[he] at hc2;cases hV:V i <;> simp[hV] at hc2 <;> exact⟨_,rfl⟩
  rw[hc1];simp[List.getD_eq_getElem?_getD,hi',hq]
end
theorem arg_cell{w wr:World}{b off:Nat}{v:Value}(hB:Below w.heap.size w wr)(h:w.cell? ⟨b,off,none⟩=some v):wr.cell? ⟨b,off,none⟩=some v:=
 (hB.cell (p:=⟨b,off,none⟩) (block_lt_of_cell h)).trans h
section
variable {H:Type} {enc:TypeId×Value→H} {P:Program} {w:World} {base:Nat} {spare:Nat→Bool} {held:Bool}
def intFields(P:Program)(fs:Array Field):Bool:=(List.range fs.size).all fun j=>match fs[j]? with
 | some f=>f.offset == j && P.cellsOf f.type == 1 && (match P.underlying f.type with | some (.int .i64)=>true | _=>false)
 | none=>false
theorem intFields_at{fs:Array Field}(h:intFields P fs=true){j:Nat}{f:Field}(hj:fs[j]?=some f):f.offset=j∧P.cellsOf f.type=1∧P.underlying f.type=some (.int .i64):=by
 have hl:=(Array.getElem?_eq_some_iff.1 hj).1;have:=List.all_eq_true.1 h j (List.mem_range.2 hl);rw[hj] at this;simp only[Bool.and_eq_true,beq_iff_eq] at this;obtain⟨⟨a,b⟩,c⟩:=this;refine⟨a,b,?_⟩;split at c
 ·assumption
 ·cases c
theorem struct_ints{e:TypeId}{fs:Array Field}{fuel:Nat}{cs:List Value}{x:DataW H×List MemPlace}(he:P.underlying e=some (.struct fs))(hone:intFields P fs=true)(hC:P.cellsOf e=fs.size)
  (h:DataW.trod enc P w base spare held fuel e cs=some x):cs.length=fs.size∧∃ f:Nat→Int,(∀ j,(Lit.int .i64 (f j)).wf=true)∧∀ j,j < fs.size→cs[j]?=some (.int .i64 (f j)):=by
 obtain⟨xs,n,_,_,hlen,hxl,hg⟩:=DataW.trod_struct he h;rw[hC] at hlen;have each:∀ j,j < fs.size→∃ z,cs[j]?=some (.int .i64 z)∧(Lit.int .i64 z).wf=true:=by
  intro j hj;have hf:fs[j]?=some fs[j]:=Array.getElem?_eq_getElem hj;obtain⟨ho,h1,h2⟩:=intFields_at hone hf;have ht:=hg j _ hf;rw[ho,h1] at ht;have hx:xs[j]?=some xs[j]:=List.getElem?_eq_getElem (by omega);rw[hx] at ht;obtain⟨z,hz,_,hw⟩:=DataW.trod_int h2 ht;refine⟨z,?_,hw⟩;have:((cs.drop j).take 1)[0]?=some (.int .i64 z):=by rw[hz];rfl
  simpa[List.getElem?_take,List.getElem?_drop] using this
 obtain⟨F,hF⟩:=choose_lt (α:=Int) each;refine⟨hlen,fun j=>if j < fs.size then F j else 0,fun j=>?_,fun j hj=>?_⟩
 ·dsimp only
  split
  ·rename_i hj;exact(hF j hj).2
  ·decide
 ·show cs[j]?=some (.int .i64 (if j < fs.size then F j else 0))
  rw[if_pos hj];exact(hF j hj).1
theorem read_structs{t e:TypeId}{fs:Array Field}{a:Option Addr}{len cap:Nat}{d:DataW H}{p:List MemPlace}(ht:P.underlying t=some (.slice e))(he:P.underlying e=some (.struct fs))(hone:intFields P fs=true)(hC:P.cellsOf e=fs.size)(hpos:0 < fs.size)
  (h:DataW.Trod enc P w base spare held t (.slice a len cap) d p):∃ zs,len=zs.length∧IsStructs fs.size w a zs∧zs.length≤cap:=by
 obtain⟨fuel,hf⟩:=h;rcases open_slice ht hf with ⟨hcs,_⟩|⟨x,l,c,m,n,D,Pl,hcs,_,hl,hm,hmm,_,hx⟩
 ·simp[Value.cells] at hcs
  obtain⟨rfl,rfl,rfl⟩:=hcs;exact⟨[],rfl,⟨Nat.zero_le _,by simp,by simp⟩,Nat.zero_le _⟩
 ·simp[Value.cells] at hcs
  obtain⟨rfl,rfl,rfl⟩:=hcs;have hle:len≤m:=by rw[hmm];split <;> omega
  have each:∀ i,i < len→∃ f:Nat→Int,(∀ j,(Lit.int .i64 (f j)).wf=true)∧∀ j,j < fs.size→w.cell? (x.add (i*fs.size+j))=some (.int .i64 (f j)):=by
   intro i hi;obtain⟨cs',hc,ht'⟩:=hx i (by omega);rw[hC] at hc;obtain⟨_,f,hw,hf'⟩:=struct_ints he hone hC ht';obtain⟨_,hcl,hat⟩:=World.cells?_some hc;refine⟨f,hw,fun j hj=>?_⟩;rw[← Go.Deep.add_add,hat j hj,hf' j hj]
  obtain⟨F,hF⟩:=choose_lt (α:=Nat→Int) each;refine⟨(List.range len).map F,by simp,⟨by simp;omega,fun f hf=>?_,fun i hi=>?_⟩,by simp;omega⟩
  ·obtain⟨i,hi,rfl⟩:=List.mem_map.1 hf
   exact(hF i (List.mem_range.1 hi)).1
  ·have hi':i < len:=by simpa using hi
   have h0:=(hF 0 (by omega)).2 0 hpos;have hxx:x=⟨x.block,x.off,none⟩:=addr_of_cell (by simpa[Addr.add] using h0);refine⟨x.block,x.off,by rw[← hxx],fun j hj=>?_⟩;have:=(hF i hi').2 j hj;rw[hxx,add_form,← Nat.add_assoc] at this;rw[this];simp[List.getD_eq_getElem?_getD,hi']
theorem read_struct{r:Reach}{b0:Nat}{t:TypeId}{fs:Array Field}{v:Value}{d:DataW H}{p:List MemPlace}(hs:P.underlying t=some (.struct fs))(hone:intFields P fs=true)(hC:P.cellsOf t=fs.size)
  (hv:Value.okWide P w r b0 t v) (h:DataW.Trod enc P w base spare held t v d p):
  ∃ f:Nat→Int,(∀ j,(Lit.int .i64 (f j)).wf=true)∧v=.agg ((List.range fs.size).map fun j=>Value.int .i64 (f j)).toArray:=by
 obtain⟨cs,rfl,hsz⟩:=okWide_struct hs hv;obtain⟨fuel,hf⟩:=h;obtain⟨hl,f,hw,hc⟩:=struct_ints hs hone hC hf;refine⟨f,hw,?_⟩;congr 1
 apply Array.ext'
 simp only;apply List.ext_getElem?
 intro j;by_cases hj:j < fs.size
 ·have:=hc j hj
  simp only[Value.cells] at this;rw[this];simp[hj]
 ·simp only[Value.cells] at hl
  rw[List.getElem?_eq_none (by omega),List.getElem?_eq_none (by simp;omega)]
end
end Go.Kpt
namespace Go.Kpt
theorem i64_mask(i:Nat)(hi:i≤62)(n:Int):bits .and .i64 n ((2 ^ i - 1:Nat):Int)=n % ((2 ^ i:Nat):Int):=by
 have hle:2 ^ i≤2 ^ 62:=Nat.pow_le_pow_right (by omega) hi;have hpos:0 < 2 ^ i:=Nat.two_pow_pos i;have h127:(BitVec.ofInt 64 ((2 ^ i - 1:Nat):Int)).toNat=2 ^ i - 1:=by
  rw[BitVec.ofInt_natCast,BitVec.toNat_ofNat];exact Nat.mod_eq_of_lt (by omega)
 have key:(BitVec.ofInt 64 n &&& BitVec.ofInt 64 ((2 ^ i - 1:Nat):Int)).toNat=(n % ((2 ^ 64:Nat):Int)).toNat % 2 ^ i:=by
  rw[BitVec.toNat_and,BitVec.toNat_ofInt,h127,Nat.and_two_pow_sub_one_eq_mod]
 show IntKind.i64.wrap ((BitVec.ofInt 64 n &&& BitVec.ofInt 64 ((2 ^ i - 1:Nat):Int)).toNat:Nat)=_;rw[key,IntKind.wrap_i64];have hdvd:((2 ^ i:Nat):Int) ∣ ((2 ^ 64:Nat):Int):=by
  refine⟨((2 ^ (64 - i):Nat):Int),?_⟩;rw[← Int.natCast_mul,← Nat.pow_add];congr 2;omega
 have h1:(((n % ((2 ^ 64:Nat):Int)).toNat % 2 ^ i:Nat):Int)=n % ((2 ^ i:Nat):Int):=by
  rw[Int.natCast_emod,Int.toNat_of_nonneg (Int.emod_nonneg _ (by decide)),Int.emod_emod_of_dvd _ hdvd]
 rw[h1];have h2:0≤n % ((2 ^ i:Nat):Int):=Int.emod_nonneg _ (by omega);have h3:n % ((2 ^ i:Nat):Int) < ((2 ^ i:Nat):Int):=Int.emod_lt_of_pos _ (by omega);omega
theorem i64_and3(n:Int):bits .and .i64 n 3=n % 4:=i64_mask 2 (by omega) n
theorem i64_and15(n:Int):bits .and .i64 n 15=n % 16:=i64_mask 4 (by omega) n
end Go.Kpt
namespace RatioPure
def sgn(p q:Nat):Int:=if p < q then -1 else if q < p then 1 else 0
def cf:Nat→Nat→Nat→Nat→Nat→Int
 | 0,_,_,_,_=>0
 | k+1,an,ad,bn,bd=>
  if an / ad < bn / bd then -1 else if bn / bd < an / ad then 1
  else if an % ad=0∧bn % bd=0 then 0 else if an % ad=0 then -1 else if bn % bd=0 then 1
  else cf k bd (bn % bd) ad (an % ad)
theorem sgn_lt{p q:Nat}(h:p < q):sgn p q=-1:=by unfold sgn;rw[if_pos h]
theorem sgn_gt{p q:Nat}(h:q < p):sgn p q=1:=by unfold sgn;rw[if_neg (by omega),if_pos h]
theorem sgn_eq{p q:Nat}(h:p=q):sgn p q=0:=by unfold sgn;rw[if_neg (by omega),if_neg (by omega)]
theorem sgn_congr{p q p' q':Nat}(h1:p < q↔p' < q')(h2:q < p↔q' < p'):sgn p q=sgn p' q':=by
 unfold sgn;by_cases c:p < q
 ·rw[if_pos c,if_pos (h1.1 c)]
 ·rw[if_neg c,if_neg (fun x=>c (h1.2 x))]
  by_cases d:q < p
  ·rw[if_pos d,if_pos (h2.1 d)]
  ·rw[if_neg d,if_neg (fun x=>d (h2.2 x))]
end RatioPure
