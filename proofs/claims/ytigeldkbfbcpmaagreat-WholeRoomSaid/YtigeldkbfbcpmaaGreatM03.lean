/- A part of the proof: what the functions of the program come to, and what holds at all times. -/
import Derived.Maps.AppendAt
import Derived.Test.YtigeldkbfbcpmaaGreatM02
import Derived.Test.YtigeldkbfbcpmaaGreatM01
set_option linter.unusedVariables false
set_option linter.unusedSectionVars false
set_option linter.unusedSimpArgs false
set_option maxRecDepth 100000
set_option maxHeartbeats 8000000
namespace Go.Proofs.YtigeldkbfbcpmaaGreat
open Go.RowKit Go.Kpt
theorem div64_any(x d:Nat)(hx:x < 9223372036854775808)(hd:0 < d)(hd1:d < 9223372036854775808)(w:World):
  Calls Tryz.prog 173 #[.int .u64 0,.int .u64 x,.int .u64 d] w fun e w'=>e=.returned (.tuple #[.int .u64 ((x / d:Nat):Int),.int .u64 ((x % d:Nat):Int)])∧Below w.heap.size w w':=by
 have h1:((d:Int) == 0)=false:=by simp;omega
 have h2:¬ (d:Int)≤0:=by omega
 have h3:¬ (d:Int)=0:=by omega
 have hle:=Nat.div_le_self x d;have hml:=Nat.mod_le x d;have e1:(x:Int) / (d:Int)=((x / d:Nat):Int):=by rw[Int.natCast_ediv]
 have e2:(x:Int) % (d:Int)=((x % d:Nat):Int):=by rw[Int.natCast_emod]
 have e1':Int.tdiv (x:Int) (d:Int)=((x / d:Nat):Int):=by rw[Int.tdiv_eq_ediv_of_nonneg (by omega)];exact e1
 have e2':Int.tmod (x:Int) (d:Int)=((x % d:Nat):Int):=by rw[Int.tmod_eq_emod_of_nonneg (by omega)];exact e2
 generalize x / d=A at *;generalize x % d=B at *;have hA:A < 9223372036854775808:=by omega
 have hB:B < 9223372036854775808:=by omega
 have x1:IntKind.u64.wrap (A:Int)=(A:Int):=IntWalk.u64_in _ ⟨Int.natCast_nonneg _,by clear e1 e2 e1' e2';omega⟩;have x2:IntKind.u64.wrap (B:Int)=(B:Int):=IntWalk.u64_in _ ⟨Int.natCast_nonneg _,by clear e1 e2 e1' e2';omega⟩;go_enter Tryz.func173,Tryz.ntmps173
 go_wp2_with fail
 go_quiet (fail)
 go_wp2_with fail
 go_returns
 exact⟨rfl,below_drewN (Below.refl _ _) _⟩
theorem signed_any(x:Nat)(hx:x < 9223372036854775808)(w:World):
  Calls Tryz.prog 174 #[.int .u64 0,.int .u64 x,.bool false] w fun e w'=>e=.returned (.int .i64 x)∧Below w.heap.size w w':=by
 have h1:¬ 9223372036854775807 < (x:Int):=by omega
 have h2:¬ 9223372036854775808 < (x:Int):=by omega
 have x1:IntKind.i64.wrap (x:Int)=(x:Int):=IntWalk.i64_in _ ⟨by omega,by omega⟩;go_enter Tryz.func174,Tryz.ntmps174
 go_wp2_with fail
 go_ret
 exact⟨rfl,Below.refl _ _⟩
theorem part_any(n up down:Nat)(hn:n*up < 9223372036854775808)(hn1:n < 9223372036854775808)(hu:up < 9223372036854775808)(hd:0 < down)(hd1:down < 9223372036854775808)(w:World):
  Calls Tryz.prog 152 #[.int .i64 n,.int .i64 up,.int .i64 down] w fun e w'=>e=.returned (.tuple #[.int .i64 ((n*up / down:Nat):Int),.int .u64 ((n*up % down:Nat):Int)])∧Below w.heap.size w w':=by
 have hmul:=fun W=>P09.mul_any n up (by unfold P09.Sm;omega) (by unfold P09.Sm;omega) W;have e1:P09.hi n up=0:=Nat.div_eq_of_lt (by omega);have e2:P09.lo n up=n*up:=Nat.mod_eq_of_lt (by omega);rw[e1,e2] at hmul;generalize n*up=M at *;have hdiv:=fun W=>div64_any M down hn hd hd1 W;have hsg:=fun W=>signed_any (M / down) (by have:=Nat.div_le_self M down;omega) W;generalize M / down=Q at *;generalize M % down=R at *;have c1:¬ (n:Int) < 0:=by omega
 have c2:¬ (up:Int) < 0:=by omega
 have c3:¬ (down:Int)≤0:=by omega
 have x1:IntKind.u64.wrap (n:Int)=(n:Int):=IntWalk.u64_in _ ⟨by omega,by omega⟩;have x2:IntKind.u64.wrap (up:Int)=(up:Int):=IntWalk.u64_in _ ⟨by omega,by omega⟩;have x3:IntKind.u64.wrap (down:Int)=(down:Int):=IntWalk.u64_in _ ⟨by omega,by omega⟩;clear e1 e2;go_enter Tryz.func152,Tryz.ntmps152
 go_wp2_with fail
 refine(hmul _).mono ?_;rintro e w1 ⟨rfl,rfl⟩;clear hmul;go_wp2_with fail
 refine(hdiv _).mono ?_;rintro e w1 ⟨rfl,k1⟩;clear hdiv;go_wp2_with fail
 refine(hsg _).mono ?_;rintro e w2 ⟨rfl,k2⟩;go_wp2_with fail
 go_returns
 exact⟨rfl,k1.trans (k2.mono k1.size)⟩
theorem frac_any(n up down:Nat)(hn:n*up < 9223372036854775808)(hn1:n < 9223372036854775808)(hu:up < 9223372036854775808)(hd:0 < down)(hd1:down < 9223372036854775808)(w:World):
  Calls Tryz.prog 112 #[.int .i64 n,.int .i64 up,.int .i64 down] w fun e w'=>e=.returned (.int .i64 ((n*up / down:Nat):Int))∧Below w.heap.size w w':=by
 have hp:=part_any n up down hn hn1 hu hd hd1 w;generalize n*up / down=Q at *;generalize n*up % down=R at *;go_enter Tryz.func112,Tryz.ntmps112
 go_wp2_with fail
 refine hp.mono ?_;rintro e w1 ⟨rfl,k1⟩;go_wp2_with fail
 go_ret
 exact⟨rfl,k1⟩
theorem add1_any(a:Nat)(ha:a < 4611686018427387904)(w:World):
  Calls Tryz.prog 57 #[.int .i64 a,.int .i64 1] w fun e w'=>e=.returned (.int .i64 ((a+1:Nat):Int))∧w=w':=by
 have e1:(a:Int)+1=((a+1:Nat):Int):=by push_cast;rfl
 have hc:¬ ((a+1:Nat):Int)≤0:=by omega
 have h1:¬ (a:Int) < 0:=by omega
 by_cases h0:a=0
 ·subst h0
  go_enter Tryz.func57,Tryz.ntmps57
  go_wp2_with fail
  go_ret
  exact⟨rfl,rfl⟩
 ·have h2:(0:Int) < a:=by omega
  have hb:((a+1:Nat):Int)≤4611686018427387904:=by omega
  generalize ((a+1:Nat):Int)=C at *;go_enter Tryz.func57,Tryz.ntmps57
  go_wp2_with fail
  go_ret
  exact⟨rfl,rfl⟩
def fracUp(n up down:Nat):Nat:=n*up / down+if 0 < n*up % down then 1 else 0
theorem fracUp_any(n up down:Nat)(hn:n*up < 4611686018427387904)(hn1:n < 9223372036854775808)(hu:up < 9223372036854775808)(hd:0 < down)(hd1:down < 9223372036854775808)(w:World):
  Calls Tryz.prog 113 #[.int .i64 n,.int .i64 up,.int .i64 down] w fun e w'=>e=.returned (.int .i64 ((fracUp n up down:Nat):Int))∧Below w.heap.size w w':=by
 have hp:=part_any n up down (by omega) hn1 hu hd hd1 w;have hle:=Nat.div_le_self (n*up) down;unfold fracUp;have hadd:=fun W=>add1_any (n*up / down) (by omega) W;generalize n*up / down=Q at *;generalize n*up % down=R at *;by_cases hr:0 < R
 ·rw[if_pos hr]
  have hr':(0:Int) < R:=by omega
  go_enter Tryz.func113,Tryz.ntmps113
  go_wp2_with fail
  refine hp.mono ?_;rintro e w1 ⟨rfl,k1⟩;go_wp2_with fail
  refine(hadd _).mono ?_;rintro e w2 ⟨rfl,rfl⟩;go_wp2_with fail
  go_ret
  exact⟨rfl,k1⟩
 ·rw[if_neg hr,Nat.add_zero]
  obtain rfl:R=0:=by omega
  go_enter Tryz.func113,Tryz.ntmps113
  go_wp2_with fail
  refine hp.mono ?_;rintro e w1 ⟨rfl,k1⟩;go_wp2_with fail
  go_ret
  exact⟨rfl,k1⟩
def clamp(x:Int):Int:=if x < 0 then 0 else if 1099511627776 < x then 1099511627776 else x
theorem clamp_bd(x:Int):0≤clamp x∧clamp x≤1099511627776:=by unfold clamp;split <;> (try split) <;> omega
theorem clamp_any(x:Int)(w:World):Calls Tryz.prog 150 #[.int .i64 x,.int .i64 0,.int .i64 1099511627776] w fun e w'=>e=.returned (.int .i64 (clamp x))∧w=w':=by
 have e:max 0 (min x 1099511627776)=clamp x:=by unfold clamp;split <;> (try split) <;> omega
 rcases (show x < 0∨(0=x)∨(0 < x∧x < 1099511627776)∨x=1099511627776∨1099511627776 < x by omega) with h|h|h|h|h
 ·have e1:clamp x=0:=by unfold clamp;rw[if_pos h]
  have H:=Lib.hid e1;clear e e1;go_enter Tryz.func150,Tryz.ntmps150
  go_wp2
  all_goals
   go_ret
   exact⟨by rw[H.out];rfl,rfl⟩
 ·subst h
  go_enter Tryz.func150,Tryz.ntmps150
  go_wp2
  all_goals
   go_ret
   exact⟨rfl,rfl⟩
 ·have e1:clamp x=x:=by unfold clamp;rw[if_neg (by omega),if_neg (by omega)]
  have H:=Lib.hid e1;obtain⟨h2,h3⟩:=h;clear e e1;go_enter Tryz.func150,Tryz.ntmps150
  go_wp2
  all_goals
   go_ret
   exact⟨by rw[H.out];rfl,rfl⟩
 ·subst h
  go_enter Tryz.func150,Tryz.ntmps150
  go_wp2
  all_goals
   go_ret
   exact⟨rfl,rfl⟩
 ·have e1:clamp x=1099511627776:=by unfold clamp;rw[if_neg (by omega),if_pos h]
  have H:=Lib.hid e1;clear e e1;go_enter Tryz.func150,Tryz.ntmps150
  go_wp2
  all_goals
   go_ret
   exact⟨by rw[H.out];rfl,rfl⟩
end Go.Proofs.YtigeldkbfbcpmaaGreat
namespace Go.Kpt
open Go.RowKit
def OwnI(w:World)(base:Nat)(e:TypeId)(k:IntKind)(v:Value)(xs:List Int):Prop:=w.ownsRow base e 1 v xs.length (xs.map (Value.int k))
theorem Kept.of_grown{w w':World}{row:Option Nat}(h:w.grownBy w' row):Kept (fun x=>some x=row) w w':=⟨h.os,h.tape,h.output,h.size,h.block⟩
section
variable {w w':World} {base:Nat} {e:TypeId} {k:IntKind} {v:Value} {xs:List Int}
theorem OwnI.shape(h:OwnI w base e k v xs):(v=.slice none 0 0∧xs=[]) ∨
  ∃ g cap,v=.slice (some ⟨g,0,none⟩) xs.length cap∧base≤g∧g < w.heap.size∧xs.length≤cap∧cap≤maxLen∧∀ j,j < xs.length→w.cell? ⟨g,j,none⟩=some (.int k (xs.getD j 0)):=by
 have h':=h;unfold OwnI at h';rcases h'.2 with ⟨h1,h2⟩|⟨g,cap,cur,rfl,hb,hg,hl,hm,hs,ht⟩
 ·exact .inl ⟨h1,List.length_eq_zero_iff.1 h2⟩
 ·refine .inr ⟨g,cap,rfl,hb,lt_of hg,hl,hm,fun j hj=>?_⟩
  rw[h'.cellAt j (by omega)];simp[hj]
theorem OwnI.lt(h:OwnI w base e k v xs):∀ g,v.ownBlock=some g→base≤g∧g < w.heap.size:=World.ownsRow.lt h
theorem OwnI.kept{F:Nat→Prop}(h:OwnI w base e k v xs)(hk:Kept F w w')(hF:∀ g,v.ownBlock=some g→¬ F g):OwnI w' base e k v xs:=by
 refine⟨h.1,?_⟩;rcases h.2 with h1|⟨g,cap,cur,rfl,hb,hg,hr⟩
 ·exact .inl h1
 ·exact .inr ⟨g,cap,cur,rfl,hb,(hk.block g (lt_of hg) (hF g rfl)).trans hg,hr⟩
theorem OwnI.alloc(h:OwnI w base e k v xs)(o:Obj):OwnI (w.alloc o) base e k v xs:=World.ownsRow.alloc h o
theorem OwnI.mono{base':Nat}(h:OwnI w base e k v xs)(hb:base'≤base):OwnI w base' e k v xs:=by
 refine⟨h.1,?_⟩;rcases h.2 with h1|⟨g,cap,cur,h0,hb',hr⟩
 ·exact .inl h1
 ·exact .inr ⟨g,cap,cur,h0,Nat.le_trans hb hb',hr⟩
theorem OwnI.nil(w:World)(base:Nat)(e:TypeId)(k:IntKind):OwnI w base e k (.slice none 0 0) []:=World.ownsRow_nil w base e 1
theorem OwnI.empty(w:World)(base:Nat)(e:TypeId)(k:IntKind)(hb:base≤w.heap.size):OwnI (w.alloc (.cells #[] e)) base e k (.slice (some ⟨w.heap.size,0,none⟩) 0 0) []:=
 ⟨rfl,.inr ⟨w.heap.size,0,#[],rfl,hb,heap_alloc_new _ _,Nat.le_refl _,by unfold maxLen;omega,rfl,rfl⟩⟩
theorem OwnI.snoc{x:Int}{v':Value}(h:w'.ownsRow base e 1 v' (xs.length+1) (xs.map (Value.int k)++[.int k x])):OwnI w' base e k v' (xs++[x]):=by
 unfold OwnI;simpa using h
def Sl(k:IntKind)(w:World)(p:Nat→Prop)(a:Option Addr)(zs:List Int):Prop:=
 ∀ i,i < zs.length→∃ b off,a=some ⟨b,off,none⟩∧p b∧w.cell? ⟨b,off+i,none⟩=some (.int k (zs.getD i 0))
theorem OwnI.sl(h:OwnI w base e k v xs):∃ a cap,v=.slice a xs.length cap∧xs.length≤cap∧cap≤maxLen∧Sl k w (fun x=>base≤x∧x < w.heap.size) a xs:=by
 rcases h.shape with ⟨rfl,rfl⟩|⟨g,cap,rfl,hb,hg,hl,hm,hc⟩
 ·exact⟨none,0,rfl,Nat.le_refl _,by unfold maxLen;omega,fun i hi=>by simp at hi⟩
 ·exact⟨some ⟨g,0,none⟩,cap,rfl,hl,hm,fun i hi=>⟨g,0,rfl,⟨hb,hg⟩,by rw[Nat.zero_add];exact hc i hi⟩⟩
theorem Sl.kept{p F:Nat→Prop}{a:Option Addr}{zs:List Int}(h:Sl k w p a zs)(hk:Kept F w w')(hF:∀ x,p x→¬ F x):Sl k w' p a zs:=by
 intro i hi;obtain⟨b,off,ha,hb,hc⟩:=h i hi;exact⟨b,off,ha,hb,(hk.cell (p:=⟨b,off+i,none⟩) (block_lt_of_cell hc) (hF b hb)).trans hc⟩
end
end Go.Kpt
namespace RingPure
structure Rep (l:List Int) (n:Nat) (h:List Int):Prop where
 len:l.length=8
 mod:n % 8=h.length % 8
 lo:h.length < 8→n=h.length
 hi:8≤h.length→8≤n∧n < 16
 at_:∀ i,i < h.length→h.length≤i+8→l.getD (i % 8) 0=h.getD i 0
def lastl(h:List Int):List Int:=h.drop (h.length - 8)
theorem lastl_length(h:List Int):(lastl h).length=if h.length < 8 then h.length else 8:=by
 unfold lastl;rw[List.length_drop];split <;> omega
theorem lastl_get(h:List Int)(i:Nat):(lastl h).getD i 0=h.getD (h.length - 8+i) 0:=by
 unfold lastl;simp[List.getD_eq_getElem?_getD,List.getElem?_drop]
theorem Rep.lt{l:List Int}{n:Nat}{h:List Int}(r:Rep l n h):n < 16:=by
 by_cases c:h.length < 8
 ·have:=r.lo c;omega
 ·exact(r.hi (by omega)).2
theorem Rep.count{l:List Int}{n:Nat}{h:List Int}(r:Rep l n h):(if n < 8 then n else 8)=(lastl h).length:=by
 rw[lastl_length];by_cases c:h.length < 8
 ·rw[if_pos c,r.lo c,if_pos c]
 ·have:=r.hi (by omega);rw[if_neg c,if_neg (by omega)]
theorem Rep.nil:Rep (List.replicate 8 0) 0 []:=⟨rfl,rfl,fun _=>rfl,fun h=>by simp at h,fun i h=>by simp at h⟩
theorem Rep.push{l:List Int}{n:Nat}{h:List Int}(r:Rep l n h)(x:Int):
  Rep (l.set (n % 8) x) (if n+1=16 then 8 else n+1) (h++[x]):=by
 have hm:=r.mod;refine⟨by rw[List.length_set];exact r.len,?_,?_,?_,?_⟩
 ·simp only[List.length_append,List.length_singleton];split <;> omega
 ·intro hl
  simp only[List.length_append,List.length_singleton] at hl ⊢;have:=r.lo (by omega);rw[if_neg (by omega)];omega
 ·intro hl
  simp only[List.length_append,List.length_singleton] at hl;by_cases c:h.length < 8
  ·have:=r.lo c;rw[if_neg (by omega)];omega
  ·have:=r.hi (by omega);split <;> omega
 ·intro i hi hl
  simp only[List.length_append,List.length_singleton] at hi hl;by_cases c:i < h.length
  ·have hne:i % 8≠n % 8:=by omega
   rw[List.getD_eq_getElem?_getD,List.getElem?_set_ne (by omega),← List.getD_eq_getElem?_getD];rw[r.at_ i c (by omega)];simp[List.getD_eq_getElem?_getD,List.getElem?_append,c]
  ·obtain rfl:i=h.length:=by omega
   have hlt:n % 8 < l.length:=by rw[r.len];omega
   rw[← hm];simp[List.getD_eq_getElem?_getD,hlt]
theorem Rep.told{l:List Int}{n:Nat}{h:List Int}(r:Rep l n h)(k:Nat)(hk:k < (lastl h).length):
  l.getD ((n - (lastl h).length+k) % 8) 0=(lastl h).getD k 0:=by
 rw[lastl_get];have hm:=r.mod;rw[lastl_length] at hk ⊢;by_cases c:h.length < 8
 ·rw[if_pos c] at hk ⊢
  have:=r.lo c;have e:n - h.length+k=h.length - 8+k:=by omega
  rw[e];exact r.at_ _ (by omega) (by omega)
 ·rw[if_neg c] at hk ⊢
  have:=r.hi (by omega);have e:(n - 8+k) % 8=(h.length - 8+k) % 8:=by omega
  rw[e];exact r.at_ _ (by omega) (by omega)
theorem Rep.told'{l:List Int}{n:Nat}{h:List Int}(r:Rep l n h):(lastl h).length≤n∧(lastl h).length≤8:=by
 rw[← r.count];split <;> omega
end RingPure
namespace HeapPure
section
variable {α:Type}
def swp(l:List α)(i j:Nat):List α:=
 match l[i]?,l[j]? with
 | some x,some y=>(l.set i y).set j x
 | _,_=>l
@[simp] theorem length_swp (l:List α) (i j:Nat):(swp l i j).length=l.length:=by
 unfold swp;split <;> simp
theorem get_swp(l:List α){i j:Nat}(hi:i < l.length)(hj:j < l.length)(k:Nat):
  (swp l i j)[k]?=if k=j then l[i]? else if k=i then l[j]? else l[k]?:=by
 have ei:l[i]?=some l[i]:=List.getElem?_eq_getElem hi;have ej:l[j]?=some l[j]:=List.getElem?_eq_getElem hj;unfold swp;rw[ei,ej];by_cases h1:k=j
 ·subst h1;simp[hj]
 ·by_cases h2:k=i
  ·subst h2;simp[h1,Ne.symm h1,hi]
  ·simp[h1,h2,Ne.symm h1,Ne.symm h2]
end
section
variable {K V:Type} [Inhabited K] [Inhabited V]
def vv(l:List (K×V))(i:Nat):V:=(l.getD i default).2
def kk(l:List (K×V))(i:Nat):K:=(l.getD i default).1
def par(i:Nat):Nat:=(i - 1) / 2
theorem par_lt{i:Nat}(h:0 < i):par i < i:=by unfold par;omega
theorem getD_swp(l:List (K×V)){i j:Nat}(hi:i < l.length)(hj:j < l.length)(k:Nat):
  (swp l i j).getD k default=if k=j then l.getD i default else if k=i then l.getD j default else l.getD k default:=by
 simp only[List.getD_eq_getElem?_getD,get_swp l hi hj];split
 ·rfl
 ·split <;> rfl
theorem vv_swp(l:List (K×V)){i j:Nat}(hi:i < l.length)(hj:j < l.length)(k:Nat):
  vv (swp l i j) k=if k=j then vv l i else if k=i then vv l j else vv l k:=by
 unfold vv;rw[getD_swp l hi hj];split
 ·rfl
 ·split <;> rfl
def up(lt:V→V→Bool)(l:List (K×V))(i:Nat):List (K×V)×Nat:=
 if h:0 < i∧lt (vv l i) (vv l (par i))=true then up lt (swp l i (par i)) (par i) else (l,i)
termination_by i
decreasing_by exact par_lt h.1
def least(lt:V→V→Bool)(l:List (K×V))(i:Nat):Nat:=
 let m:=if 2*i+1 < l.length∧lt (vv l (2*i+1)) (vv l i)=true then 2*i+1 else i
 if 2*i+2 < l.length∧lt (vv l (2*i+2)) (vv l m)=true then 2*i+2 else m
theorem least_cases(lt:V→V→Bool)(l:List (K×V))(i:Nat):
  least lt l i=i∨(i < least lt l i∧least lt l i < l.length∧(least lt l i=2*i+1∨least lt l i=2*i+2)):=by
 have key:∀ m:Nat,(m=i∨m=2*i+1∧m < l.length)→∀ r,(r=if 2*i+2 < l.length∧lt (vv l (2*i+2)) (vv l m)=true then 2*i+2 else m) →
   r=i∨(i < r∧r < l.length∧(r=2*i+1∨r=2*i+2)):=by
  intro m hm r hr;split at hr <;> omega
 refine key _ ?_ _ rfl;split <;> omega
def down(lt:V→V→Bool)(l:List (K×V))(i:Nat):List (K×V):=
 if h:least lt l i=i then l else down lt (swp l i (least lt l i)) (least lt l i)
termination_by l.length - i
decreasing_by
 rcases least_cases lt l i with h'|⟨h1,h2,_⟩
 ·exact absurd h' h
 ·simp only[length_swp];omega
def fix(lt:V→V→Bool)(l:List (K×V))(i:Nat):List (K×V):=
 if (up lt l i).2=i then down lt (up lt l i).1 i else (up lt l i).1
variable [DecidableEq K]
def idx(l:List (K×V))(k:K):Option Nat:=l.findIdx? (fun x=>decide (x.1=k))
def setAt(lt:V→V→Bool)(l:List (K×V))(k:K)(v:V):List (K×V):=
 match idx l k with
 | some i=>fix lt (l.set i (k,v)) i
 | none=>fix lt (l++[(k,v)]) l.length
def drop(lt:V→V→Bool)(l:List (K×V))(k:K):List (K×V):=
 match idx l k with
 | some i=>let l1:=(swp l i (l.length - 1)).take (l.length - 1);if i < l.length - 1 then fix lt l1 i else l1
 | none=>l
def get(l:List (K×V))(k:K):Option V:=(idx l k).map (vv l)
end
section
variable {K V:Type}
def Has(l:List (K×V))(k:K)(v:V):Prop:=∃ i:Nat,l[i]?=some (k,v)
def Inj(l:List (K×V)):Prop:=∀ (i j:Nat) (k:K) (v u:V),l[i]?=some (k,v)→l[j]?=some (k,u)→i=j
theorem Has.unique{l:List (K×V)}(h:Inj l){k:K}{v u:V}(hv:Has l k v)(hu:Has l k u):v=u:=by
 obtain⟨i,hi⟩:=hv;obtain⟨j,hj⟩:=hu;have:=h i j k v u hi hj;subst this;rw[hi] at hj;simpa using hj
theorem Inj.nil:Inj ([]:List (K×V)):=by intro i j k v u h;simp at h
theorem not_has_nil(k:K)(v:V):¬ Has ([]:List (K×V)) k v:=by rintro⟨i,h⟩;simp at h
theorem swp_inj{l:List (K×V)}(h:Inj l){i j:Nat}(hi:i < l.length)(hj:j < l.length):Inj (swp l i j):=by
 intro a b k v u ha hb;rw[get_swp l hi hj] at ha hb;split at ha <;> split at hb
 ·omega
 ·split at hb
  ·have:=h _ _ _ _ _ ha hb;omega
  ·have:=h _ _ _ _ _ ha hb;omega
 ·split at ha
  ·have:=h _ _ _ _ _ ha hb;omega
  ·have:=h _ _ _ _ _ ha hb;omega
 ·split at ha <;> split at hb
  ·omega
  ·have:=h _ _ _ _ _ ha hb;omega
  ·have:=h _ _ _ _ _ ha hb;omega
  ·exact h _ _ _ _ _ ha hb
theorem swp_has{l:List (K×V)}{i j:Nat}(hi:i < l.length)(hj:j < l.length)(k:K)(v:V):Has (swp l i j) k v↔Has l k v:=by
 constructor
 ·rintro⟨a,ha⟩
  rw[get_swp l hi hj] at ha;split at ha
  ·exact⟨_,ha⟩
  ·split at ha
   ·exact⟨_,ha⟩
   ·exact⟨_,ha⟩
 ·rintro⟨a,ha⟩
  by_cases h1:a=i
  ·subst h1;exact⟨j,by rw[get_swp l hi hj];simpa using ha⟩
  ·by_cases h2:a=j
   ·subst h2;refine⟨i,?_⟩;rw[get_swp l hi hj]
    by_cases h3:i=a
    ·subst h3;simpa using ha
    ·rw[if_neg h3,if_pos rfl];exact ha
   ·exact⟨a,by rw[get_swp l hi hj,if_neg h2,if_neg h1];exact ha⟩
structure Alike (l l':List (K×V)):Prop where
 len:l'.length=l.length
 inj:Inj l→Inj l'
 has:∀ k v,Has l' k v↔Has l k v
theorem Alike.refl(l:List (K×V)):Alike l l:=⟨rfl,id,fun _ _=>Iff.rfl⟩
theorem Alike.trans{a b c:List (K×V)}(h:Alike a b)(g:Alike b c):Alike a c:=
 ⟨g.len.trans h.len,fun x=>g.inj (h.inj x),fun k v=>(g.has k v).trans (h.has k v)⟩
theorem Alike.swp{l:List (K×V)}{i j:Nat}(hi:i < l.length)(hj:j < l.length):Alike l (swp l i j):=
 ⟨length_swp l i j,fun h=>swp_inj h hi hj,fun k v=>swp_has hi hj k v⟩
variable [Inhabited K] [Inhabited V]
theorem up_alike(lt:V→V→Bool)(i:Nat):∀ (l:List (K×V)),i < l.length→Alike l (up lt l i).1∧(up lt l i).2≤i:=by
 induction i using Nat.strongRecOn with
 | _ i ih=>
  intro l hi;unfold up;split
  ·rename_i h
   have hp:=par_lt h.1;have:=ih (par i) hp (HeapPure.swp l i (par i)) (by simp;omega);exact⟨(Alike.swp hi (by omega)).trans this.1,by omega⟩
  ·exact⟨Alike.refl l,Nat.le_refl _⟩
theorem up_stays(lt:V→V→Bool)(l:List (K×V))(i:Nat)(hi:i < l.length)(h:(up lt l i).2=i):
  (up lt l i).1=l∧¬ (0 < i∧lt (vv l i) (vv l (par i))=true):=by
 by_cases hc:0 < i∧lt (vv l i) (vv l (par i))=true
 ·have hp:=par_lt hc.1
  have:=(up_alike lt (par i) (HeapPure.swp l i (par i)) (by simp;omega)).2;unfold up at h;rw[dif_pos hc] at h;omega
 ·refine⟨?_,hc⟩
  unfold up;rw[dif_neg hc]
theorem down_alike(lt:V→V→Bool)(n:Nat):∀ (l:List (K×V)) (i:Nat),l.length - i=n→i < l.length→Alike l (down lt l i):=by
 induction n using Nat.strongRecOn with
 | _ n ih=>
  intro l i hn hi;unfold down;split
  ·exact Alike.refl l
  ·rename_i h
   rcases least_cases lt l i with h'|⟨h1,h2,_⟩
   ·exact absurd h' h
   ·exact(Alike.swp hi h2).trans (ih (l.length - least lt l i) (by omega) (HeapPure.swp l i (least lt l i)) (least lt l i) (by simp) (by simpa using h2))
theorem fix_alike(lt:V→V→Bool)(l:List (K×V))(i:Nat)(hi:i < l.length):Alike l (fix lt l i):=by
 unfold fix;have hu:=(up_alike lt i l hi).1;split
 ·exact hu.trans (down_alike lt _ _ i rfl (by rw[hu.len];exact hi))
 ·exact hu
end
section
variable {K V:Type} [Inhabited K] [Inhabited V]
structure Ord (lt:V→V→Bool):Prop where
 asym:∀ a b,lt a b=true→lt b a=false
 trans:∀ a b c,lt b a=false→lt c b=false→lt c a=false
def Heaped(lt:V→V→Bool)(l:List (K×V)):Prop:=∀ j,0 < j→j < l.length→lt (vv l j) (vv l (par j))=false
def Hole(lt:V→V→Bool)(l:List (K×V))(i:Nat):Prop:=
 (∀ j,0 < j→j < l.length→j≠i→par j≠i→lt (vv l j) (vv l (par j))=false) ∧
 (0 < i→∀ j,0 < j→j < l.length→par j=i→lt (vv l j) (vv l (par i))=false)
def UpInv(lt:V→V→Bool)(l:List (K×V))(i:Nat):Prop:=
 (∀ j,0 < j→j < l.length→j≠i→lt (vv l j) (vv l (par j))=false) ∧
 (0 < i→∀ j,0 < j→j < l.length→par j=i→lt (vv l j) (vv l (par i))=false)
def DownInv(lt:V→V→Bool)(l:List (K×V))(i:Nat):Prop:=
 (∀ j,0 < j→j < l.length→par j≠i→lt (vv l j) (vv l (par j))=false) ∧
 (0 < i→∀ j,0 < j→j < l.length→par j=i→lt (vv l j) (vv l (par i))=false)
variable {lt:V→V→Bool}
theorem up_heaped(O:Ord lt)(i:Nat):∀ (l:List (K×V)),i < l.length→UpInv lt l i→Heaped lt (up lt l i).1:=by
 induction i using Nat.strongRecOn with
 | _ i ih=>
  intro l hi hI;unfold up;split
  ·rename_i h
   have hp:=par_lt h.1;have hpl:par i < l.length:=by omega
   have hle:=O.asym _ _ h.2;refine ih (par i) hp _ (by simp;omega) ⟨?_,?_⟩
   ·intro j h0 hj hne
    rw[length_swp] at hj;have hpj:=par_lt h0;rw[vv_swp l hi hpl,vv_swp l hi hpl,if_neg hne];by_cases h1:j=i
    ·subst h1;rw[if_pos rfl,if_pos rfl];exact hle
    ·rw[if_neg h1]
     by_cases h2:par j=par i
     ·rw[h2,if_pos rfl]
      have:=hI.1 j h0 hj h1;rw[h2] at this;exact O.trans _ _ _ hle this
     ·rw[if_neg h2]
      by_cases h3:par j=i
      ·rw[h3,if_pos rfl];exact hI.2 h.1 j h0 hj h3
      ·rw[if_neg h3];exact hI.1 j h0 hj h1
   ·intro hp0 j h0 hj hpj
    rw[length_swp] at hj;have hpp:=par_lt hp0;have hq:lt (vv l (par i)) (vv l (par (par i)))=false:=hI.1 _ hp0 hpl (by omega);have hjne:j≠par i:=by intro e;rw[e] at hpj;omega
    rw[vv_swp l hi hpl,vv_swp l hi hpl,if_neg hjne,if_neg (show ¬ par (par i)=par i by omega),if_neg (show ¬ par (par i)=i by omega)];by_cases h1:j=i
    ·rw[if_pos h1];exact hq
    ·rw[if_neg h1]
     have:=hI.1 j h0 hj h1;rw[hpj] at this;exact O.trans _ _ _ hq this
  ·rename_i h
   intro j h0 hj;by_cases h1:j=i
   ·subst h1
    cases e:lt (vv l j) (vv l (par j)) with
    | false=>rfl
    | true=>exact absurd ⟨h0,e⟩ h
   ·exact hI.1 j h0 hj h1
theorem least_le(O:Ord lt)(l:List (K×V))(i:Nat):
  (∀ j,0 < j→j < l.length→par j=i→lt (vv l j) (vv l (least lt l i))=false)∧lt (vv l i) (vv l (least lt l i))=false:=by
 have irr:∀ a,lt a a=false:=fun a=>by
  cases h:lt a a with
  | false=>rfl
  | true=>have:=O.asym _ _ h;rw[h] at this;exact this
 have key:∀ m0 m1:Nat,(m0=if 2*i+1 < l.length∧lt (vv l (2*i+1)) (vv l i)=true then 2*i+1 else i) →
   (m1=if 2*i+2 < l.length∧lt (vv l (2*i+2)) (vv l m0)=true then 2*i+2 else m0) →
   lt (vv l i) (vv l m1)=false∧(2*i+1 < l.length→lt (vv l (2*i+1)) (vv l m1)=false)∧(2*i+2 < l.length→lt (vv l (2*i+2)) (vv l m1)=false):=by
  intro m0 m1 e0 e1;have a0:lt (vv l i) (vv l m0)=false∧(2*i+1 < l.length→lt (vv l (2*i+1)) (vv l m0)=false):=by
   split at e0
   ·rename_i h;subst e0;exact⟨O.asym _ _ h.2,fun _=>irr _⟩
   ·rename_i h;subst e0
    refine⟨irr _,fun hl=>?_⟩;cases e:lt (vv l (2*m0+1)) (vv l m0) with
    | false=>rfl
    | true=>exact absurd ⟨hl,e⟩ h
  split at e1
  ·rename_i h;subst e1
   have hb:=O.asym _ _ h.2;exact⟨O.trans _ _ _ hb a0.1,fun hl=>O.trans _ _ _ hb (a0.2 hl),fun _=>irr _⟩
  ·rename_i h;subst e1
   refine⟨a0.1,a0.2,fun hl=>?_⟩;cases e:lt (vv l (2*i+2)) (vv l m1) with
   | false=>rfl
   | true=>exact absurd ⟨hl,e⟩ h
 obtain⟨k0,k1,k2⟩:=key _ (least lt l i) rfl rfl;refine⟨fun j h0 hj hp=>?_,k0⟩;have:j=2*i+1∨j=2*i+2:=by unfold par at hp;omega
 rcases this with rfl|rfl
 ·exact k1 hj
 ·exact k2 hj
theorem down_heaped(O:Ord lt)(n:Nat):∀ (l:List (K×V)) (i:Nat),l.length - i=n→i < l.length→DownInv lt l i→Heaped lt (down lt l i):=by
 induction n using Nat.strongRecOn with
 | _ n ih=>
  intro l i hn hi hI;have hL:=least_le O l i;unfold down;split
  ·rename_i h
   rw[h] at hL;intro j h0 hj;by_cases h1:par j=i
   ·rw[h1];exact hL.1 j h0 hj h1
   ·exact hI.1 j h0 hj h1
  ·rename_i h
   rcases least_cases lt l i with h'|⟨h1,h2,h3⟩
   ·exact absurd h' h
   ·generalize hm:least lt l i=m at *
    have hpm:par m=i:=by unfold par;omega
    refine ih _ (show l.length - m < n by omega) _ m (by simp) (by simpa using h2) ⟨?_,?_⟩
    ·intro j h0 hj hne
     rw[length_swp] at hj;have hpj:=par_lt h0;rw[vv_swp l hi h2,vv_swp l hi h2,if_neg hne];by_cases e1:j=m
     ·subst e1;rw[if_pos rfl,hpm,if_pos rfl];exact hL.2
     ·rw[if_neg e1]
      by_cases e2:j=i
      ·subst e2;rw[if_pos rfl,if_neg (by omega)];exact hI.2 h0 m (by omega) h2 hpm
      ·rw[if_neg e2]
       by_cases e3:par j=i
       ·rw[if_pos e3];exact hL.1 j h0 hj e3
       ·rw[if_neg e3];exact hI.1 j h0 hj e3
    ·intro _ j h0 hj hpj
     rw[length_swp] at hj;have hlt:=par_lt h0;rw[vv_swp l hi h2,vv_swp l hi h2,if_neg (show ¬ j=m by omega),if_neg (show ¬ j=i by omega),hpm,if_neg (show ¬ i=m by omega),if_pos rfl];have:=hI.1 j h0 hj (by omega);rw[hpj] at this;exact this
theorem fix_heaped(O:Ord lt)(l:List (K×V))(i:Nat)(hi:i < l.length)(hI:Hole lt l i):Heaped lt (fix lt l i):=by
 unfold fix;by_cases hc:0 < i∧lt (vv l i) (vv l (par i))=true
 ·have hne:(up lt l i).2≠i:=fun h=>(up_stays lt l i hi h).2 hc
  rw[if_neg hne];refine up_heaped O i l hi ⟨fun j h0 hj hji=>?_,hI.2⟩;by_cases hp:par j=i
  ·have:=hI.2 hc.1 j h0 hj hp
   rw[hp];exact O.trans _ _ _ (O.asym _ _ hc.2) this
  ·exact hI.1 j h0 hj hji hp
 ·have hu:up lt l i=(l,i):=by unfold up;rw[dif_neg hc]
  rw[hu,if_pos rfl];refine down_heaped O _ l i rfl hi ⟨fun j h0 hj hp=>?_,hI.2⟩;by_cases hji:j=i
  ·subst hji
   cases e:lt (vv l j) (vv l (par j)) with
   | false=>rfl
   | true=>exact absurd ⟨h0,e⟩ hc
  ·exact hI.1 j h0 hj hji hp
variable [DecidableEq K]
theorem idx_some{l:List (K×V)}{k:K}{i:Nat}(h:idx l k=some i):i < l.length∧l[i]?=some (k,vv l i):=by
 unfold idx at h;rw[List.findIdx?_eq_some_iff_getElem] at h;obtain⟨hi,hk,_⟩:=h;refine⟨hi,?_⟩;have hk':l[i].1=k:=of_decide_eq_true hk;rw[List.getElem?_eq_getElem hi];unfold vv;rw[List.getD_eq_getElem?_getD,List.getElem?_eq_getElem hi,Option.getD_some,← hk']
theorem idx_none{l:List (K×V)}{k:K}(h:idx l k=none):∀ (i:Nat) (v:V),l[i]?≠some (k,v):=by
 intro i v hi;unfold idx at h;rw[List.findIdx?_eq_none_iff] at h;have hm:=List.mem_of_getElem? hi;have:=h _ hm;simp at this
theorem idx_of{l:List (K×V)}(hI:Inj l){i:Nat}{k:K}{v:V}(h:l[i]?=some (k,v)):idx l k=some i:=by
 cases e:idx l k with
 | none=>exact absurd h (idx_none e i v)
 | some j=>rw[hI i j k v _ h (idx_some e).2]
theorem get_some{l:List (K×V)}{k:K}{v:V}(h:get l k=some v):Has l k v:=by
 unfold get at h;cases e:idx l k with
 | none=>rw[e] at h;simp at h
 | some j=>rw[e] at h;simp at h;subst h;exact⟨j,(idx_some e).2⟩
theorem get_none{l:List (K×V)}{k:K}(h:get l k=none)(v:V):¬ Has l k v:=by
 unfold get at h;rintro⟨i,hi⟩;cases e:idx l k with
 | none=>exact idx_none e i v hi
 | some j=>rw[e] at h;simp at h
theorem get_eq_some{l:List (K×V)}(hI:Inj l){k:K}{v:V}:get l k=some v↔Has l k v:=by
 constructor
 ·exact get_some
 ·intro hv
  cases e:get l k with
  | none=>exact absurd hv (get_none e v)
  | some u=>rw[Has.unique hI (get_some e) hv]
structure Good (lt:V→V→Bool) (l:List (K×V)):Prop where
 inj:Inj l
 heaped:Heaped lt l
theorem Good.nil:Good lt ([]:List (K×V)):=⟨Inj.nil,fun j _ h=>by simp at h⟩
theorem vv_set(l:List (K×V))(i:Nat)(hi:i < l.length)(x:K×V)(j:Nat):vv (l.set i x) j=if j=i then x.2 else vv l j:=by
 unfold vv;rw[List.getD_eq_getElem?_getD,List.getD_eq_getElem?_getD,List.getElem?_set];by_cases h:i=j
 ·subst h;simp[hi]
 ·simp[h,Ne.symm h]
theorem vv_append(l:List (K×V))(x:K×V)(j:Nat):vv (l++[x]) j=if j=l.length then x.2 else vv l j:=by
 unfold vv;rw[List.getD_eq_getElem?_getD,List.getD_eq_getElem?_getD,List.getElem?_append];by_cases h:j < l.length
 ·simp[h,Nat.ne_of_lt h]
 ·by_cases e:j=l.length
  ·subst e;simp
  ·have h2:([x]:List (K×V))[j - l.length]?=none:=List.getElem?_eq_none (by simp;omega)
   simp[h,e,h2]
theorem hole_set{l:List (K×V)}(O:Ord lt)(h:Heaped lt l)(i:Nat)(hi:i < l.length)(x:K×V):Hole lt (l.set i x) i:=by
 refine⟨fun j h0 hj hji hp=>?_,fun hi0 j h0 hj hp=>?_⟩
 ·rw[List.length_set] at hj
  rw[vv_set l i hi,vv_set l i hi,if_neg hji,if_neg hp];exact h j h0 hj
 ·rw[List.length_set] at hj
  have h1:=par_lt hi0;have h2:=par_lt h0;rw[vv_set l i hi,vv_set l i hi,if_neg (by omega),if_neg (by omega)];have a:=h j h0 hj;rw[hp] at a;exact O.trans _ _ _ (h i hi0 hi) a
theorem hole_append{l:List (K×V)}(h:Heaped lt l)(x:K×V):Hole lt (l++[x]) l.length:=by
 refine⟨fun j h0 hj hji hp=>?_,fun hi0 j h0 hj hp=>?_⟩
 ·rw[List.length_append,List.length_singleton] at hj
  rw[vv_append,vv_append,if_neg hji,if_neg hp];exact h j h0 (by omega)
 ·rw[List.length_append,List.length_singleton] at hj
  have h2:=par_lt h0;omega
theorem set_inj{l:List (K×V)}(h:Inj l){i:Nat}{k:K}{v:V}(hi:idx l k=some i):Inj (l.set i (k,v)):=by
 obtain⟨hlt,hk⟩:=idx_some hi;intro a b k' v' u' ha hb;rw[List.getElem?_set] at ha hb;split at ha <;> split at hb
 ·omega
 ·rename_i e1 e2
  simp at ha;obtain⟨rfl,_⟩:=ha;have:=h _ _ _ _ _ hk hb;omega
 ·rename_i e1 e2
  simp at hb;obtain⟨rfl,_⟩:=hb;have:=h _ _ _ _ _ hk ha;omega
 ·exact h _ _ _ _ _ ha hb
theorem set_has{l:List (K×V)}(h:Inj l){i:Nat}{k:K}{v:V}(hi:idx l k=some i)(k':K)(v':V):
  Has (l.set i (k,v)) k' v'↔if k'=k then v'=v else Has l k' v':=by
 obtain⟨hlt,hk⟩:=idx_some hi;by_cases e:k'=k
 ·subst e
  rw[if_pos rfl];constructor
  ·intro hv
   exact Has.unique (set_inj h hi) hv ⟨i,by simp[hlt]⟩
  ·rintro rfl;exact⟨i,by simp[hlt]⟩
 ·rw[if_neg e]
  constructor
  ·rintro⟨a,ha⟩
   rw[List.getElem?_set] at ha;split at ha
   ·simp at ha;exact absurd ha.1.symm e
   ·exact⟨a,ha⟩
  ·rintro⟨a,ha⟩
   refine⟨a,?_⟩;rw[List.getElem?_set,if_neg]
   ·exact ha
   ·rintro rfl;rw[hk] at ha;simp at ha;exact e ha.1.symm
theorem append_inj{l:List (K×V)}(h:Inj l){k:K}{v:V}(hn:idx l k=none):Inj (l++[(k,v)]):=by
 intro a b k' v' u' ha hb;rw[List.getElem?_append] at ha hb;split at ha <;> split at hb
 ·exact h _ _ _ _ _ ha hb
 ·have:b - l.length=0:=by
   have:=(List.getElem?_eq_some_iff.1 hb).1;simp at this;omega
  rw[this] at hb;simp at hb;obtain⟨rfl,_⟩:=hb;exact absurd ha (idx_none hn _ _)
 ·have:a - l.length=0:=by
   have:=(List.getElem?_eq_some_iff.1 ha).1;simp at this;omega
  rw[this] at ha;simp at ha;obtain⟨rfl,_⟩:=ha;exact absurd hb (idx_none hn _ _)
 ·have h1:=(List.getElem?_eq_some_iff.1 ha).1
  have h2:=(List.getElem?_eq_some_iff.1 hb).1;simp at h1 h2;omega
theorem append_has{l:List (K×V)}{k:K}{v:V}(hn:idx l k=none)(k':K)(v':V):
  Has (l++[(k,v)]) k' v'↔if k'=k then v'=v else Has l k' v':=by
 constructor
 ·rintro⟨a,ha⟩
  rw[List.getElem?_append] at ha;split at ha
  ·rw[if_neg (fun e=>by subst e;exact idx_none hn _ _ ha)];exact⟨a,ha⟩
  ·have:a - l.length=0:=by
    have:=(List.getElem?_eq_some_iff.1 ha).1;simp at this;omega
   rw[this] at ha;simp at ha;obtain⟨rfl,rfl⟩:=ha;simp
 ·intro hh
  split at hh
  ·rename_i e;subst e;subst hh;exact⟨l.length,by simp⟩
  ·obtain⟨a,ha⟩:=hh
   have:=(List.getElem?_eq_some_iff.1 ha).1;exact⟨a,by rw[List.getElem?_append,if_pos this];exact ha⟩
theorem setAt_good(O:Ord lt){l:List (K×V)}(h:Good lt l)(k:K)(v:V):Good lt (setAt lt l k v):=by
 unfold setAt;split
 ·rename_i i e
  obtain⟨hlt,_⟩:=idx_some e;have hA:=fix_alike lt (l.set i (k,v)) i (by simpa using hlt);exact⟨hA.inj (set_inj h.inj e),fix_heaped O _ i (by simpa using hlt) (hole_set O h.heaped i hlt _)⟩
 ·rename_i e
  have hA:=fix_alike lt (l++[(k,v)]) l.length (by simp);exact⟨hA.inj (append_inj h.inj e),fix_heaped O _ _ (by simp) (hole_append h.heaped _)⟩
theorem setAt_has{l:List (K×V)}(h:Inj l)(k:K)(v:V)(k':K)(v':V):
  Has (setAt lt l k v) k' v'↔if k'=k then v'=v else Has l k' v':=by
 unfold setAt;split
 ·rename_i i e
  obtain⟨hlt,_⟩:=idx_some e;rw[(fix_alike lt (l.set i (k,v)) i (by simpa using hlt)).has];exact set_has h e k' v'
 ·rename_i e
  rw[(fix_alike lt (l++[(k,v)]) l.length (by simp)).has];exact append_has e k' v'
def cut(l:List (K×V))(i:Nat):List (K×V):=(swp l i (l.length - 1)).take (l.length - 1)
theorem length_cut(l:List (K×V))(i:Nat):(cut l i).length=l.length - 1:=by
 unfold cut;simp
theorem get_cut(l:List (K×V)){i:Nat}(hi:i < l.length)(j:Nat):
  (cut l i)[j]?=if j < l.length - 1 then (if j=i then l[l.length - 1]? else l[j]?) else none:=by
 unfold cut;rw[List.getElem?_take];by_cases h:j < l.length - 1
 ·rw[if_pos h,if_pos h,get_swp l hi (by omega),if_neg (by omega)]
 ·rw[if_neg h,if_neg h]
theorem vv_cut(l:List (K×V)){i:Nat}(hi:i < l.length){j:Nat}(hj:j < l.length - 1):vv (cut l i) j=if j=i then vv l (l.length - 1) else vv l j:=by
 unfold vv;rw[List.getD_eq_getElem?_getD,get_cut l hi,if_pos hj];split <;> rw[List.getD_eq_getElem?_getD]
theorem cut_inj{l:List (K×V)}(h:Inj l){i:Nat}(hi:i < l.length):Inj (cut l i):=by
 intro a b k v u ha hb;rw[get_cut l hi] at ha hb;split at ha
 ·split at hb
  ·split at ha <;> split at hb
   ·omega
   ·have:=h _ _ _ _ _ ha hb;omega
   ·have:=h _ _ _ _ _ ha hb;omega
   ·exact h _ _ _ _ _ ha hb
  ·cases hb
 ·cases ha
theorem cut_has{l:List (K×V)}(h:Inj l){i:Nat}{k:K}(e:idx l k=some i)(k':K)(v':V):
  Has (cut l i) k' v'↔k'≠k∧Has l k' v':=by
 obtain⟨hi,hk⟩:=idx_some e;constructor
 ·rintro⟨a,ha⟩
  rw[get_cut l hi] at ha;split at ha
  ·split at ha
   ·refine⟨?_,_,ha⟩
    rintro rfl;have:=h _ _ _ _ _ hk ha;omega
   ·refine⟨?_,_,ha⟩
    rintro rfl;have:=h _ _ _ _ _ hk ha;omega
  ·cases ha
 ·rintro⟨hne,a,ha⟩
  have hal:=(List.getElem?_eq_some_iff.1 ha).1;have hai:a≠i:=by rintro rfl;rw[hk] at ha;simp at ha;exact hne ha.1.symm
  by_cases hl:a=l.length - 1
  ·refine⟨i,?_⟩
   rw[get_cut l hi,if_pos (by omega),if_pos rfl,← hl];exact ha
  ·exact⟨a,by rw[get_cut l hi,if_pos (by omega),if_neg hai];exact ha⟩
theorem hole_cut(O:Ord lt){l:List (K×V)}(h:Heaped lt l){i:Nat}(hi:i < l.length - 1):Hole lt (cut l i) i:=by
 have hil:i < l.length:=by omega
 refine⟨fun j h0 hj hji hp=>?_,fun hi0 j h0 hj hp=>?_⟩
 ·rw[length_cut] at hj
  have h2:=par_lt h0;rw[vv_cut l hil hj,vv_cut l hil (by omega),if_neg hji,if_neg hp];exact h j h0 (by omega)
 ·rw[length_cut] at hj
  have h1:=par_lt hi0;have h2:=par_lt h0;rw[vv_cut l hil hj,vv_cut l hil (by omega),if_neg (by omega),if_neg (by omega)];have a:=h j h0 (by omega);rw[hp] at a;exact O.trans _ _ _ (h i hi0 hil) a
theorem heaped_cut_last{l:List (K×V)}(h:Heaped lt l){i:Nat}(hi:i < l.length)(hl:¬ i < l.length - 1):Heaped lt (cut l i):=by
 intro j h0 hj;rw[length_cut] at hj;have h2:=par_lt h0;rw[vv_cut l hi hj,vv_cut l hi (by omega),if_neg (by omega),if_neg (by omega)];exact h j h0 (by omega)
theorem drop_eq{l:List (K×V)}{k:K}{i:Nat}(e:idx l k=some i):drop lt l k=if i < l.length - 1 then fix lt (cut l i) i else cut l i:=by
 unfold drop cut;rw[e]
theorem drop_alike{l:List (K×V)}{k:K}{i:Nat}(e:idx l k=some i):Alike (cut l i) (drop lt l k):=by
 rw[drop_eq e];split
 ·rename_i h;exact fix_alike lt _ i (by rw[length_cut];exact h)
 ·exact Alike.refl _
theorem drop_good(O:Ord lt){l:List (K×V)}(h:Good lt l)(k:K):Good lt (drop lt l k):=by
 cases e:idx l k with
 | none=>unfold drop;rw[e];exact h
 | some i=>
  obtain⟨hi,_⟩:=idx_some e;refine⟨(drop_alike e).inj (cut_inj h.inj hi),?_⟩;rw[drop_eq e];split
  ·rename_i hc;exact fix_heaped O _ i (by rw[length_cut];exact hc) (hole_cut O h.heaped hc)
  ·rename_i hc;exact heaped_cut_last h.heaped hi hc
theorem drop_has{l:List (K×V)}(h:Inj l)(k:K)(k':K)(v':V):Has (drop lt l k) k' v'↔k'≠k∧Has l k' v':=by
 cases e:idx l k with
 | none=>
  unfold drop;rw[e];refine⟨fun hh=>⟨?_,hh⟩,fun hh=>hh.2⟩;rintro rfl;obtain⟨a,ha⟩:=hh;exact idx_none e _ _ ha
 | some i=>rw[(drop_alike e).has,cut_has h e]
theorem drop_length(l:List (K×V))(k:K):(drop lt l k).length=if (idx l k).isSome then l.length - 1 else l.length:=by
 cases e:idx l k with
 | none=>unfold drop;rw[e];simp
 | some i=>rw[(drop_alike e).len,length_cut];simp
theorem drop_get(O:Ord lt){l:List (K×V)}(h:Good lt l)(k k':K):get (drop lt l k) k'=if k'=k then none else get l k':=by
 have g:=drop_good O h k;cases e:get (drop lt l k) k' with
 | some u=>
  have:=get_some e;rw[drop_has h.inj] at this;rw[if_neg this.1,(get_eq_some h.inj).2 this.2]
 | none=>
  split
  ·rfl
  ·rename_i hk
   cases e2:get l k' with
   | none=>rfl
   | some u=>exact absurd ((drop_has h.inj k k' u).2 ⟨hk,get_some e2⟩) (get_none e u)
theorem get_isSome(l:List (K×V))(k:K):(get l k).isSome=(idx l k).isSome:=by unfold get;simp
end
end HeapPure
