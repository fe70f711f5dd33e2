/- A part of the proof: what the functions of the program come to, and what holds at all times. -/
import Derived.Deep.RegionHeld3
import Derived.Deep.RegionWith
import Derived.Handy
import Derived.Test.YtigeldkbfbcpmaaGreatM15
import Derived.Test.YtigeldkbfbcpmaaGreatM14
import Derived.Test.YtigeldkbfbcpmaaGreatM09
set_option linter.unusedVariables false
set_option linter.unusedSectionVars false
set_option linter.unusedSimpArgs false
set_option maxRecDepth 100000
set_option maxHeartbeats 8000000
namespace Go.Proofs.YtigeldkbfbcpmaaGreat.P14
open Go.RowKit Go.Kpt HeapPure
theorem step_ki_del{ops:Array Oper}{o:Oper}{a:Act}{w:World}{K:Act→World→Prop}{Q:Exit→Act→World→Prop}{E:Prop}(hg:o.guard=none)(x y:Operand)(hop:o.op=Op.call { callee:=Callee.builtin Builtin.delete,args:=#[x,y],argTypes:=#[203,160] })
  (mb c:Nat) (m:Ke→Option Int) (hm:a.eval x=.map (some mb)) (h:Gm keyY intE w mb c m) (k:Ke) (hx:a.eval y=kv k) (hw:kok k)
  (hK:∀ w',Gm keyY intE w' mb (if (m k).isSome then c - 1 else c) (gdel m k)→Kept (fun x=>x=mb) w w'→K (a.put o.dst (.tuple #[])) w'):
  if Region.wanted o (yielded ops a.tmps)=true then Oper.wp Tryz.prog o a w K Q else E:=by
 have hwd:Region.wanted o (yielded ops a.tmps)=true:=by simp[Region.wanted,hg]
 rw[if_pos hwd];obtain⟨D,h1,h2⟩:=h;obtain⟨w',hrun,r1,r2⟩:=h1.drop keyY.keyed Tryz.underlying203 (keyY.of k hw) o.type;have hrun:(Builtin.delete_ #[203,160] o.type #[.map (some mb),kv k]).run Tryz.prog w=.ok (.tuple #[]) w':=hrun;have h3:=h2.del (h1.tidy keyY.keyed) k hw;have h4:=Go.Kpt.own_size r1;rw[h3.size] at h4;have hfin:=hK w' ⟨_,h4,h3⟩ (Kept.of_grown1 r2.grown);unfold Oper.wp;simp[execOp,hop,resolve,invoke,builtin,hm,hx,hrun,Result.andThen];exact hfin
theorem drop_none(base hb:Nat)(v:Value)(mb:Nat)(l:List (Ke×Tm))(k:Ke)(hk:kok k)(e:idx l k=none)(w:World)(h:Hp w base hb fv17 v mb l):
  Calls Tryz.prog 122 #[.pointer (some ⟨hb,0,none⟩),kv k] w fun e w'=>e=.returned (.bool false)∧Below w.heap.size w w':=by
 have hA0:Kb (w.alloc (.cells #[.int .i64 k.1,.int .i64 k.2] 160)) w.heap.size k:=heap_alloc_new _ _;have k0:Below w.heap.size w (w.alloc (.cells #[.int .i64 k.1,.int .i64 k.2] 160)):=(Below.refl _ _).alloc (Nat.le_refl _) _;obtain⟨w0,hw0⟩:∃ w1,w.alloc (.cells #[.int .i64 k.1,.int .i64 k.2] 160)=w1:=⟨_,rfl⟩;rw[hw0] at hA0 k0;have h1:=h.kept (Kept.of_below (F:=fun _=>False) k0) (fun h=>h) (fun h=>h) (fun _ _ h=>h);have q2:w0.cell? ⟨hb,2,none⟩=some (.map (some mb)):=cell_of h1.blk;obtain⟨a0,a1⟩:=hA0.cells;have hm:mi l k=none:=by unfold mi;rw[e];rfl
 have hlk:=fun n=>ki_run (h1.mp.kept (F:=fun _=>False) ((Kept.refl _ w0).drewN n) (fun h=>h)) k hk;rw[hm] at hlk;clear h h1;go_enter Tryz.func122,Tryz.ntmps122
 go_wp2_with fail
 go_quiet (fail)
 go_wp2_with fail
 go_ret
 exact⟨rfl,below_drewN k0 _⟩
theorem drop_some(HL:LessC)(base hb:Nat)(v:Value)(mb:Nat)(l:List (Ke×Tm))(k:Ke)(hk:kok k)(i:Nat)(e:idx l k=some i)(w:World)(h:Hp w base hb fv17 v mb l):
  Calls Tryz.prog 122 #[.pointer (some ⟨hb,0,none⟩),kv k] w fun e w'=>e=.returned (.bool true)∧∃ v',Hp w' base hb fv17 v' mb (drop lt l k)∧Kept (fun y=>y=hb∨own mb v y) w w'∧Moved w v v':=by
 obtain⟨hi,hik⟩:=idx_some e;have hdrop:=drop_eq (lt:=lt) e;have hA0:Kb (w.alloc (.cells #[.int .i64 k.1,.int .i64 k.2] 160)) w.heap.size k:=heap_alloc_new _ _;have k0:Kept (fun _=>False) w (w.alloc (.cells #[.int .i64 k.1,.int .i64 k.2] 160)):=(Kept.refl _ w).alloc _;obtain⟨w0',hw0⟩:∃ w1,w.alloc (.cells #[.int .i64 k.1,.int .i64 k.2] 160)=w1:=⟨_,rfl⟩;rw[hw0] at hA0 k0;have h1':=h.kept k0 (fun h=>h) (fun h=>h) (fun _ _ h=>h);obtain⟨a0,a1⟩:=hA0.cells;have q2:w0'.cell? ⟨hb,2,none⟩=some (.map (some mb)):=cell_of h1'.blk;have hm:mi l k=some (i:Int):=by unfold mi;rw[e];rfl
 have hlk:=fun n=>ki_run (h1'.mp.kept (F:=fun _=>False) ((Kept.refl _ w0').drewN n) (fun h=>h)) k hk;rw[hm] at hlk;have HH:=Lib.hid h1';have HA:=Lib.hid hA0;have K0:=Lib.hid k0;have HW:=Lib.hid h;clear h1' hA0 k0 h;go_enter Tryz.func122,Tryz.ntmps122
 go_wp2_with fail
 go_quiet (fail)
 have kD:Kept (fun _=>False) w0' (w0'.drewN nq):=(Kept.refl _ w0').drewN nq;have h:=HH.out.kept kD (fun h=>h) (fun h=>h) (fun _ _ h=>h);have hA:=HA.out.kept kD (fun h=>h);have k1w:=K0.out.trans kD (fun _ _ h=>h);clear HH HA K0 kD hlk a0 a1 q2;generalize w0'.drewN nq=w0 at *;have q2:w0.cell? ⟨hb,2,none⟩=some (.map (some mb)):=cell_of h.blk;have hmp:=h.mp;obtain⟨ap1,ap2⟩:=h.apart;rcases h.own.shape with ⟨-,rfl⟩|⟨g,cap,rfl,hg1,hg2,hlc,hcm,-,-⟩
 ·simp at hi
 obtain⟨ap2,ap3⟩:=ap2 g rfl;have q1:w0.cell? ⟨hb,1,none⟩=some (.slice (some ⟨g,0,none⟩) l.length cap):=cell_of h.blk;obtain⟨n,hn⟩:∃ n,l.length=n+1:=⟨l.length - 1,by omega⟩;have hsw:=swap_any base hb fv17 _ mb l i n hi (by omega) w0 h;have hkey:(l.getD i default).1=k:=by rw[getElem_of hi] at hik;rw[Option.some.inj hik]
 have hmk:mi (swp l i n) k=some (n:Int):=by
  unfold mi;rw[idx_swp h.inj hi (by omega),if_pos hkey.symm];rfl
 have hmc:=mi_cut h.inj e;have hcut:cut l i=(swp l i n).take n:=by unfold cut;rw[hn];rfl
 rw[hn,show n+1 - 1=n from rfl] at hmc hdrop;have hwfc:=cut_wf hi h.wf;have hinjc:=cut_inj h.inj hi;have hlenc:=length_cut l i;rw[hn] at hlenc;have hlen:=h.len;have hcn:(n:Int)≤(cap:Int):=by omega
 have hin:i≤n:=by omega
 have hnb:n+1≤1000000000:=by omega
 rw[hn] at q1 hlc;have hmpl:=hmp;rw[hn] at hmpl;have HX:=Lib.hid (And.intro hwfc (And.intro hinjc hlenc));have HM:=Lib.hid hmc;have HD:=Lib.hid hdrop;have HC:=Lib.hid hcut;have HN:=Lib.hid hn;have HLe:=Lib.hid hlen;clear hwfc hinjc hlenc hmc hkey hik hdrop hcut h hlen;by_cases hlast:i < n
 all_goals
  go_wp2_with fail
  refine hsw.mono ?_;rintro e w1 ⟨rfl,h1,k1⟩;have b1:=h1.blk;have r1:w1.cell? ⟨hb,1,none⟩=some (.slice (some ⟨g,0,none⟩) (n+1) cap):=by rw[← HN.out];exact cell_of b1
  have r2:w1.cell? ⟨hb,2,none⟩=some (.map (some mb)):=cell_of b1;have f1:w1.frozen? ⟨hb,1,none⟩=false:=frozen_of b1;have b2:(w1.setCell ⟨hb,1,none⟩ (.slice (some ⟨g,0,none⟩) n cap)).heap[hb]?=some (.cells #[fv17,.slice (some ⟨g,0,none⟩) n cap,.map (some mb)] 206 (0,0)):=set_same (i:=1) _ b1;have hks:Kept (fun y=>y=hb) w1 (w1.setCell ⟨hb,1,none⟩ (.slice (some ⟨g,0,none⟩) n cap)):=Kept.set1 w1 hb 1 _;have hmp1:=h1.mp.kept hks (Ne.symm ap1);have hown1:=(h1.own.cut (m:=n) (by rw[swp_length,HN.out];omega)).kept hks (fun g' h1 h2=>by cases h1;exact ap2 h2);rw[← HC.out] at hown1;rw[swp_length,HN.out] at hmp1;have hkw:Kept (fun y=>y=hb∨own mb (.slice (some ⟨g,0,none⟩) l.length cap) y) w (w1.setCell ⟨hb,1,none⟩ (.slice (some ⟨g,0,none⟩) n cap)):=((k1w.mono (fun _ _ h=>h.elim)).trans k1 (F:=fun y=>y=hb∨own mb (.slice (some ⟨g,0,none⟩) l.length cap) y) (fun y _ h=>.inr h)).trans hks (fun y _ h=>.inl h);have hgw:=(HW.out.own.lt g rfl).2;have hmw:=HW.out.mp.lt;have hbw:=lt_of HW.out.blk;have hA2:=(hA.kept k1 (fun hh=>by
   rcases hh with hh|hh
   ·omega
   ·have:w.heap.size=g:=Option.some.inj hh
    omega)).kept hks (fun hh=>by omega)
  clear hsw q1 q2 hm hmp hmpl h1 k1 hA hks;go_wp2_with fail
  clear r1 r2 f1 b1;generalize w1.setCell ⟨hb,1,none⟩ (.slice (some ⟨g,0,none⟩) n cap)=w2 at *;have r2:w2.cell? ⟨hb,2,none⟩=some (.map (some mb)):=cell_of b2;obtain⟨a0,a1⟩:=hA2.cells;have hDD:Kept (fun _=>False) w2 w2.drew:=(Kept.refl _ w2).drew;have hmp2:=hmp1.kept hDD (fun h=>h);go_region_law ((refine step_ki_del (by rfl) _ _ (by rfl) mb (n+1) (mi (swp l i n)) (by rfl) hmp2 k (by rfl) hk ?_;intro w3 hmp3 hk3d;rw[HM.out,hmk] at hmp3))
  all_goals
   have hk3:Kept (fun x=>x=mb) w2 w3:=(hDD.mono (fun _ _ h=>h.elim)).trans hk3d (fun _ _ h=>h);go_wp2_with fail
   have b3:=(hk3.block hb (lt_of b2) ap1).trans b2;have hown3:=hown1.kept hk3 (fun g' h1 h2=>by cases h1;exact ap3 h2);have hHp:Hp w3 base hb fv17 (.slice (some ⟨g,0,none⟩) n cap) mb (cut l i):=
    ⟨b3,hown3,by rw[HX.out.2.2];exact hmp3,HX.out.2.1,HX.out.1,by rw[HX.out.2.2];have:=HLe.out;have:=HN.out;omega⟩
   have hkE:Kept (fun y=>y=hb∨own mb (.slice (some ⟨g,0,none⟩) l.length cap) y) w w3:=hkw.trans hk3 (fun y _ h=>.inr (.inl h));have hmv:Moved w (.slice (some ⟨g,0,none⟩) l.length cap) (.slice (some ⟨g,0,none⟩) n cap):=fun g' hg'=>.inl hg';clear hown1 hmp1 hmp3 hown3 b2
   first
    | (
     have hd:drop lt l k=fix lt (cut l i) i:=by rw[HD.out,if_pos hlast]
     refine(fix_any HL base hb _ mb (cut l i) i (by rw[HX.out.2.2];exact hlast) w3 hHp).mono ?_;rintro e w5 ⟨rfl,h5,k5⟩;go_wp2_with fail
     go_ret
     exact⟨rfl,_,by rw[hd];exact h5,fix_kept hkE k5 hmv,hmv⟩)
    | (
     have hd:drop lt l k=cut l i:=by rw[HD.out,if_neg (by omega)]
     go_ret
     exact⟨rfl,_,by rw[hd];exact hHp,hkE,hmv⟩)
theorem nan64_any(x:Int)(w:World):Calls Tryz.prog 156 #[.int .i64 x] w fun e w'=>e=.returned (.bool false)∧w=w':=by
 go_enter Tryz.func156,Tryz.ntmps156
 go_wp2
 go_ret
 exact⟨by simp,rfl⟩
theorem nanI_any(x:Int)(w:World):Calls Tryz.prog 157 #[.int .i64 x] w fun e w'=>e=.returned (.bool false)∧w=w':=by
 go_enter Tryz.func157,Tryz.ntmps157
 go_wp2
 go_ret
 exact⟨by simp,rfl⟩
theorem cmp64_any(x y:Int)(w:World):Calls Tryz.prog 119 #[.int .i64 x,.int .i64 y] w fun e w'=>e=.returned (.int .i64 (sgnI x y))∧w=w':=by
 rcases Int.lt_trichotomy x y with h|h|h
 ·have H:=Lib.hid (sgnI_lt h)
  go_enter Tryz.func119,Tryz.ntmps119
  go_wp2_with fail
  refine(nan64_any _ _).mono ?_;rintro e w' ⟨rfl,rfl⟩;go_wp2_with fail
  refine(nan64_any _ _).mono ?_;rintro e w' ⟨rfl,rfl⟩;go_wp2_with fail
  go_ret
  exact⟨by rw[H.out];rfl,rfl⟩
 ·have H:=Lib.hid (sgnI_eq h)
  have h1:¬ x < y:=by omega
  have h2:¬ y < x:=by omega
  clear h;go_enter Tryz.func119,Tryz.ntmps119
  go_wp2_with fail
  refine(nan64_any _ _).mono ?_;rintro e w' ⟨rfl,rfl⟩;go_wp2_with fail
  refine(nan64_any _ _).mono ?_;rintro e w' ⟨rfl,rfl⟩;go_wp2_with fail
  go_ret
  exact⟨by rw[H.out];rfl,rfl⟩
 ·have H:=Lib.hid (sgnI_gt h)
  have h1:¬ x < y:=by omega
  go_enter Tryz.func119,Tryz.ntmps119
  go_wp2_with fail
  refine(nan64_any _ _).mono ?_;rintro e w' ⟨rfl,rfl⟩;go_wp2_with fail
  refine(nan64_any _ _).mono ?_;rintro e w' ⟨rfl,rfl⟩;go_wp2_with fail
  go_ret
  exact⟨by rw[H.out];rfl,rfl⟩
theorem cmpI_any(x y:Int)(w:World):Calls Tryz.prog 120 #[.int .i64 x,.int .i64 y] w fun e w'=>e=.returned (.int .i64 (sgnI x y))∧w=w':=by
 rcases Int.lt_trichotomy x y with h|h|h
 ·have H:=Lib.hid (sgnI_lt h)
  go_enter Tryz.func120,Tryz.ntmps120
  go_wp2_with fail
  refine(nanI_any _ _).mono ?_;rintro e w' ⟨rfl,rfl⟩;go_wp2_with fail
  refine(nanI_any _ _).mono ?_;rintro e w' ⟨rfl,rfl⟩;go_wp2_with fail
  go_ret
  exact⟨by rw[H.out];rfl,rfl⟩
 ·have H:=Lib.hid (sgnI_eq h)
  have h1:¬ x < y:=by omega
  have h2:¬ y < x:=by omega
  clear h;go_enter Tryz.func120,Tryz.ntmps120
  go_wp2_with fail
  refine(nanI_any _ _).mono ?_;rintro e w' ⟨rfl,rfl⟩;go_wp2_with fail
  refine(nanI_any _ _).mono ?_;rintro e w' ⟨rfl,rfl⟩;go_wp2_with fail
  go_ret
  exact⟨by rw[H.out];rfl,rfl⟩
 ·have H:=Lib.hid (sgnI_gt h)
  have h1:¬ x < y:=by omega
  go_enter Tryz.func120,Tryz.ntmps120
  go_wp2_with fail
  refine(nanI_any _ _).mono ?_;rintro e w' ⟨rfl,rfl⟩;go_wp2_with fail
  refine(nanI_any _ _).mono ?_;rintro e w' ⟨rfl,rfl⟩;go_wp2_with fail
  go_ret
  exact⟨by rw[H.out];rfl,rfl⟩
theorem orI_1{a b c:Int}(h:a≠0):orI a b c=a:=if_pos h
theorem orI_2{b c:Int}(h:b≠0):orI 0 b c=b:=by unfold orI;rw[if_neg (by decide),if_pos h]
theorem orI_3(c:Int):orI 0 0 c=c:=by unfold orI;rw[if_neg (by decide),if_neg (by decide)]
theorem or_any(b:Nat)(x y z:Int)(w:World)(h0:w.cell? ⟨b,0,none⟩=some (.int .i64 x))(h1:w.cell? ⟨b,1,none⟩=some (.int .i64 y))(h2:w.cell? ⟨b,2,none⟩=some (.int .i64 z)):
  Calls Tryz.prog 118 #[.slice (some ⟨b,0,none⟩) 3 3] w fun e w'=>e=.returned (.int .i64 (orI x y z))∧w=w':=by
 by_cases hx:x=0
 ·subst hx
  by_cases hy:y=0
  ·subst hy
   have H:=Lib.hid (orI_3 z);by_cases hz:z=0
   ·subst hz
    go_enter Tryz.func118,Tryz.ntmps118
    go_wp2
    refine wp_loop_rounds 4 ?_
    repeat any_goals (rw[rounds_succ];go_wp2)
    go_ret
    exact⟨by rw[H.out];rfl,rfl⟩
   ·have hzb:(z != 0)=true:=by simpa using hz
    go_enter Tryz.func118,Tryz.ntmps118
    go_wp2
    refine wp_loop_rounds 4 ?_
    repeat any_goals (rw[rounds_succ];go_wp2)
    go_ret
    exact⟨by rw[H.out];rfl,rfl⟩
  ·have H:=Lib.hid (orI_2 (c:=z) hy)
   have hyb:(y != 0)=true:=by simpa using hy
   go_enter Tryz.func118,Tryz.ntmps118
   go_wp2
   refine wp_loop_rounds 4 ?_
   repeat any_goals (rw[rounds_succ];go_wp2)
   go_ret
   exact⟨by rw[H.out];rfl,rfl⟩
 ·have H:=Lib.hid (orI_1 (b:=y) (c:=z) hx)
  have hxb:(x != 0)=true:=by simpa using hx
  go_enter Tryz.func118,Tryz.ntmps118
  go_wp2
  refine wp_loop_rounds 4 ?_
  repeat any_goals (rw[rounds_succ];go_wp2)
  go_ret
  exact⟨by rw[H.out];rfl,rfl⟩
def Two(W:World)(x y:Nat)(a b:Tm):Prop:=W.heap[x]?=some (.cells #[.int .i64 a.at_,.int .i64 a.kd,.int .i64 a.id] 162 (0,0))∧W.heap[y]?=some (.cells #[.int .i64 b.at_,.int .i64 b.kd,.int .i64 b.id] 162 (0,0))
theorem Two.kept{F:Nat→Prop}{w w':World}{x y:Nat}{a b:Tm}(h:Two w x y a b)(k:Kept F w w')(h1:¬ F x)(h2:¬ F y):Two w' x y a b:=
 ⟨(k.block x (lt_of h.1) h1).trans h.1,(k.block y (lt_of h.2) h2).trans h.2⟩
theorem Two.cells{W:World}{x y:Nat}{a b:Tm}(h:Two W x y a b):W.cell? ⟨x,0,none⟩=some (.int .i64 a.at_)∧W.cell? ⟨x,1,none⟩=some (.int .i64 a.kd)∧W.cell? ⟨x,2,none⟩=some (.int .i64 a.id)∧W.cell? ⟨y,0,none⟩=some (.int .i64 b.at_)∧W.cell? ⟨y,1,none⟩=some (.int .i64 b.kd)∧W.cell? ⟨y,2,none⟩=some (.int .i64 b.id):=
 ⟨cell_of h.1,cell_of h.1,cell_of h.1,cell_of h.2,cell_of h.2,cell_of h.2⟩
theorem less_any(a b:Tm)(w:World):Calls Tryz.prog 67 #[mv a,mv b] w fun e w'=>e=.returned (.bool (lt a b))∧Below w.heap.size w w':=by
 have hT:Two ((w.alloc (.cells #[.int .i64 a.at_,.int .i64 a.kd,.int .i64 a.id] 162)).alloc (.cells #[.int .i64 b.at_,.int .i64 b.kd,.int .i64 b.id] 162)) w.heap.size (w.heap.size+1) a b:=by
  refine⟨?_,?_⟩
  ·exact(Below.heap_alloc _ _ w.heap.size (by simp)).trans (heap_alloc_new _ _)
  ·have:=heap_alloc_new (w.alloc (.cells #[.int .i64 a.at_,.int .i64 a.kd,.int .i64 a.id] 162)) (.cells #[.int .i64 b.at_,.int .i64 b.kd,.int .i64 b.id] 162)
   rwa [World.size_alloc] at this
 have hB:Below w.heap.size w ((w.alloc (.cells #[.int .i64 a.at_,.int .i64 a.kd,.int .i64 a.id] 162)).alloc (.cells #[.int .i64 b.at_,.int .i64 b.kd,.int .i64 b.id] 162)):=by go_grown
 obtain⟨w2,hw2⟩:∃ w2,(w.alloc (.cells #[.int .i64 a.at_,.int .i64 a.kd,.int .i64 a.id] 162)).alloc (.cells #[.int .i64 b.at_,.int .i64 b.kd,.int .i64 b.id] 162)=w2:=⟨_,rfl⟩;rw[hw2] at hT hB;have hc:=fun W=>cmp64_any a.at_ b.at_ W;have hi:=fun W=>cmpI_any a.kd b.kd W;have hj:=fun W=>cmpI_any a.id b.id W;obtain⟨R,hR⟩:∃ R,lt a b=R:=⟨_,rfl⟩;have hRR:decide (orI (sgnI a.at_ b.at_) (sgnI a.kd b.kd) (sgnI a.id b.id) < 0)=R:=hR;rw[hR];have hor:=fun (V:World)=>or_any V.heap.size (sgnI a.at_ b.at_) (sgnI a.kd b.kd) (sgnI a.id b.id) (V.alloc (.cells #[.int .i64 (sgnI a.at_ b.at_),.int .i64 (sgnI a.kd b.kd),.int .i64 (sgnI a.id b.id)] 3)) (cell_of (heap_alloc_new _ _)) (cell_of (heap_alloc_new _ _)) (cell_of (heap_alloc_new _ _));have hor2:=fun (V:World)=>or_any V.heap.size (sgnI a.at_ b.at_) (sgnI a.kd b.kd) (sgnI a.id b.id) ((V.alloc (.cells #[.int .i64 (sgnI a.at_ b.at_),.int .i64 (sgnI a.kd b.kd),.int .i64 (sgnI a.id b.id)] 3)).drew) (cell_of (heap_alloc_new _ _)) (cell_of (heap_alloc_new _ _)) (cell_of (heap_alloc_new _ _));generalize sgnI a.at_ b.at_=s1 at *;generalize sgnI a.kd b.kd=s2 at *;generalize sgnI a.id b.id=s3 at *;generalize hoo:orI s1 s2 s3=o at *;have HT:=Lib.hid (show ∀ W,Kept (fun _=>False) w2 W→(W.cell? ⟨w.heap.size,0,none⟩=some (.int .i64 a.at_)∧W.cell? ⟨w.heap.size,1,none⟩=some (.int .i64 a.kd)∧W.cell? ⟨w.heap.size,2,none⟩=some (.int .i64 a.id)∧W.cell? ⟨w.heap.size+1,0,none⟩=some (.int .i64 b.at_)∧W.cell? ⟨w.heap.size+1,1,none⟩=some (.int .i64 b.kd)∧W.cell? ⟨w.heap.size+1,2,none⟩=some (.int .i64 b.id)∧Kept (fun _=>False) w2 W) from fun W k=>by
  obtain⟨e0,e1,e2,e3,e4,e5⟩:=(hT.kept k (fun h=>h) (fun h=>h)).cells;exact⟨e0,e1,e2,e3,e4,e5,k⟩)
 have HB:=Lib.hid (show ∀ W,Kept (fun _=>False) w2 W→Below w.heap.size w W from fun W k=>hB.trans (k.below hB.size (fun _ _ h=>h)));clear hR hT hB hoo;go_enter Tryz.func67,Tryz.ntmps67
 go_wp2_with fail
 clear hw2;go_region_held3 (fun W=>W.cell? ⟨w.heap.size,0,none⟩=some (.int .i64 a.at_)∧W.cell? ⟨w.heap.size,1,none⟩=some (.int .i64 a.kd)∧W.cell? ⟨w.heap.size,2,none⟩=some (.int .i64 a.id)∧W.cell? ⟨w.heap.size+1,0,none⟩=some (.int .i64 b.at_)∧W.cell? ⟨w.heap.size+1,1,none⟩=some (.int .i64 b.kd)∧W.cell? ⟨w.heap.size+1,2,none⟩=some (.int .i64 b.id)∧Kept (fun _=>False) w2 W)
  (first | exact HT.out _ ((Kept.refl _ w2).drew) | (go_split_ands;exact HT.out _ (by assumption)) | (go_split_ands;exact HT.out _ (Kept.alloc (by assumption) _)))
  (first
   | (go_at_call 119;with_reducible refine(hc _).mono ?_;rintro e wb ⟨rfl,rfl⟩)
   | (go_at_call 120;first | (with_reducible refine(hi _).mono ?_;rintro e wb ⟨rfl,rfl⟩)|(with_reducible refine(hj _).mono ?_;rintro e wb ⟨rfl,rfl⟩))
   | (go_at_call 118;first | (with_reducible refine(hor _).mono ?_;rintro e wc ⟨rfl,rfl⟩)|(with_reducible refine(hor2 _).mono ?_;rintro e wc ⟨rfl,rfl⟩)))
 all_goals (obtain⟨-,-,-,-,-,-,hkw⟩:=‹_∧_›)
 all_goals (go_wp2_with fail)
 all_goals go_ret
 all_goals exact⟨by rw[← hRR];rfl,HB.out _ hkw⟩
theorem lessC:LessC:=less_any
theorem heapset_any(base hb:Nat)(v:Value)(mb:Nat)(l:List (Ke×Tm))(k:Ke)(x:Tm)(hk:kok k)(hl:l.length+1≤1000000000)(w:World)(hbase:base≤w.heap.size)(h:Hp w base hb fv17 v mb l):
  Calls Tryz.prog 149 #[.pointer (some ⟨hb,0,none⟩),kv k,mv x] w fun e w'=>e=.returned (.tuple #[])∧∃ v',Hp w' base hb fv17 v' mb (setAt lt l k x)∧Kept (fun y=>y=hb∨own mb v y) w w'∧Moved w v v':=by
 cases e:idx l k with
 | none=>exact set_new lessC base hb v mb l k x hk hl e w hbase h
 | some i=>exact(set_there lessC base hb v mb l k x hk i e w h).mono fun e w' ⟨h1,h2,h3⟩=>⟨h1,v,h2,h3,Moved.refl _ _⟩
theorem heapdrop_any(base hb:Nat)(v:Value)(mb:Nat)(l:List (Ke×Tm))(k:Ke)(hk:kok k)(w:World)(h:Hp w base hb fv17 v mb l):
  Calls Tryz.prog 122 #[.pointer (some ⟨hb,0,none⟩),kv k] w fun e w'=>e=.returned (.bool (idx l k).isSome)∧∃ v',Hp w' base hb fv17 v' mb (drop lt l k)∧Kept (fun y=>y=hb∨own mb v y) w w'∧Moved w v v':=by
 cases e:idx l k with
 | none=>
  have hd:drop lt l k=l:=by unfold drop;rw[e]
  rw[hd];exact(drop_none base hb v mb l k hk e w h).mono fun e w' ⟨h1,h2⟩=>⟨h1,v,h.kept (Kept.of_below (F:=fun _=>False) h2) (fun h=>h) (fun h=>h) (fun _ _ h=>h),Kept.of_below h2,Moved.refl _ _⟩
 | some i=>exact drop_some lessC base hb v mb l k hk i e w h
structure Tc (w:World) (base cb hb:Nat) (v:Value) (mb:Nat) (l:List (Ke×Tm)):Prop where
 blk:w.heap[cb]?=some (.cells #[.pointer (some ⟨hb,0,none⟩)] 165 (0,0))
 hp:Hp w base hb fv17 v mb l
 cb:base≤cb
 hb:base≤hb
 mb:base≤mb
 sz:base≤w.heap.size
def Foot(cb hb mb:Nat)(v:Value)(x:Nat):Prop:=x=cb∨x=hb∨own mb v x
theorem Tc.lt{w:World}{base cb hb:Nat}{v:Value}{mb:Nat}{l:List (Ke×Tm)}(h:Tc w base cb hb v mb l){x:Nat}(hx:Foot cb hb mb v x):x < w.heap.size∧base≤x:=by
 rcases hx with rfl|rfl|rfl|hx
 ·exact⟨lt_of h.blk,h.cb⟩
 ·exact⟨lt_of h.hp.blk,h.hb⟩
 ·exact⟨h.hp.mp.lt,h.mb⟩
 ·exact⟨(h.hp.own.lt x hx.symm).2,(h.hp.own.lt x hx.symm).1⟩
theorem Tc.apart{w:World}{base cb hb:Nat}{v:Value}{mb:Nat}{l:List (Ke×Tm)}(h:Tc w base cb hb v mb l):¬ (cb=hb∨own mb v cb):=by
 rintro(e|e|e)
 ·have h1:=h.blk;have h2:=h.hp.blk;rw[e] at h1;rw[h2] at h1;cases h1
 ·obtain⟨D,⟨es,clock,hm,-⟩,-⟩:=h.hp.mp
  have h1:=h.blk;rw[e,hm] at h1;cases h1
 ·rcases h.hp.own.2 with ⟨h1,-⟩ | ⟨g',cap,cur,h1,-,hg',-⟩
  ·rw[h1] at e;cases e
  ·rw[h1] at e
   have h2:some cb=some g':=e;cases h2
   have h1:=h.blk;rw[hg'] at h1;cases h1
theorem Tc.kept{w w':World}{base cb hb:Nat}{v:Value}{mb:Nat}{l:List (Ke×Tm)}(h:Tc w base cb hb v mb l){F:Nat→Prop}(k:Kept F w w')(hF:∀ x,Foot cb hb mb v x→¬ F x):Tc w' base cb hb v mb l:=
 ⟨(k.block cb (lt_of h.blk) (hF cb (.inl rfl))).trans h.blk,h.hp.kept k (hF hb (.inr (.inl rfl))) (hF mb (.inr (.inr (.inl rfl)))) (fun g hg=>hF g (.inr (.inr (.inr hg.symm)))),h.cb,h.hb,h.mb,Nat.le_trans h.sz k.size⟩
def Same(Q:Nat→Prop)(w w':World):Prop:=∀ x,Q x→w'.heap[x]?=w.heap[x]?
theorem Same.trans{Q:Nat→Prop}{a b c:World}(h:Same Q a b)(k:Same Q b c):Same Q a c:=fun x hx=>(k x hx).trans (h x hx)
def TX(w:World)(base cb:Nat)(l:List (Ke×Tm))(Q:Nat→Prop):Prop:=
 ∃ hb v mb,Tc w base cb hb v mb l∧∀ x,Q x→x < w.heap.size∧¬ Foot cb hb mb v x
theorem TX.sz{w:World}{base cb:Nat}{l:List (Ke×Tm)}{Q:Nat→Prop}(h:TX w base cb l Q):base≤w.heap.size:=by
 obtain⟨hb,v,mb,h,-⟩:=h;exact h.sz
theorem TX.below{w w':World}{base cb:Nat}{l:List (Ke×Tm)}{Q:Nat→Prop}(h:TX w base cb l Q)(k:Below w.heap.size w w'):TX w' base cb l Q:=by
 obtain⟨hb,v,mb,h,hq⟩:=h;exact⟨hb,v,mb,h.kept (Kept.of_below (F:=fun _=>False) k) (fun _ _ h=>h),fun x hx=>⟨Nat.lt_of_lt_of_le (hq x hx).1 k.size,(hq x hx).2⟩⟩
theorem TX.same{w w':World}{base cb:Nat}{l:List (Ke×Tm)}{Q:Nat→Prop}(h:TX w base cb l Q)(k:Below w.heap.size w w'):Same Q w w':=by
 obtain⟨hb,v,mb,h,hq⟩:=h;exact fun x hx=>k.block x (hq x hx).1
theorem TX.beside{w w':World}{base cb:Nat}{l:List (Ke×Tm)}{Q:Nat→Prop}(h:TX w base cb l Q)(k:Kept Q w w'):TX w' base cb l Q:=by
 obtain⟨hb,v,mb,h,hq⟩:=h;exact⟨hb,v,mb,h.kept k (fun x hx hh=>(hq x hh).2 hx),fun x hx=>⟨Nat.lt_of_lt_of_le (hq x hx).1 k.size,(hq x hx).2⟩⟩
theorem TX.less{w:World}{base cb:Nat}{l:List (Ke×Tm)}{Q Q':Nat→Prop}(h:TX w base cb l Q)(hQ:∀ x,Q' x→Q x):TX w base cb l Q':=by
 obtain⟨hb,v,mb,h,hq⟩:=h;exact⟨hb,v,mb,h,fun x hx=>hq x (hQ x hx)⟩
theorem TX.next{w w':World}{base cb hb:Nat}{v v':Value}{mb:Nat}{l l':List (Ke×Tm)}{Q:Nat→Prop}(h:Tc w base cb hb v mb l)(hq:∀ x,Q x→x < w.heap.size∧¬ Foot cb hb mb v x)(h2:Hp w' base hb fv17 v' mb l')(k:Kept (fun y=>y=hb∨own mb v y) w w')(hm:Moved w v v'):
  TX w' base cb l' Q∧Below base w w'∧Same Q w w':=by
 refine⟨⟨hb,v',mb,⟨(k.block cb (lt_of h.blk) h.apart).trans h.blk,h2,h.cb,h.hb,h.mb,Nat.le_trans h.sz k.size⟩,fun x hx=>⟨Nat.lt_of_lt_of_le (hq x hx).1 k.size,fun e=>?_⟩⟩,k.below h.sz (fun x hx hh=>?_),fun x hx=>k.block x (hq x hx).1 (fun hh=>(hq x hx).2 (.inr hh))⟩
 ·obtain⟨q1,q2⟩:=hq x hx
  rcases e with e|e|e|e
  ·exact q2 (.inl e)
  ·exact q2 (.inr (.inl e))
  ·exact q2 (.inr (.inr (.inl e)))
  ·rcases hm x e.symm with e | e
   ·exact q2 (.inr (.inr (.inr e.symm)))
   ·omega
 ·have:=(h.lt (.inr hh)).2;omega
theorem tnew_any(w:World):Calls Tryz.prog 44 #[] w fun e w'=>∃ cb,e=.returned (.pointer (some ⟨cb,0,none⟩))∧TX w' w.heap.size cb [] (fun _=>False)∧w.heap.size≤cb∧Below w.heap.size w w':=by
 go_enter Tryz.func44,Tryz.ntmps44
 go_wp2_with fail
 refine(new_any w).mono ?_;rintro e w1 ⟨hb,mb,rfl,h1,h2,h3,h4,h5,h6⟩;have hk:Below w1.heap.size w1 (w1.alloc (.cells #[.pointer (some ⟨hb,0,none⟩)] 165)):=(Below.refl _ _).alloc (Nat.le_refl _) _;have hT:Tc (w1.alloc (.cells #[.pointer (some ⟨hb,0,none⟩)] 165)) w.heap.size w1.heap.size hb (.slice none 0 0) mb []:=
  ⟨heap_alloc_new _ _,h5.kept (Kept.of_below (F:=fun _=>False) hk) (fun h=>h) (fun h=>h) (fun _ _ h=>h),h6.size,h1,h2,Nat.le_trans h6.size hk.size⟩
 have hs:=h6.size;go_wp2_with fail
 go_ret
 exact⟨_,rfl,⟨hb,_,mb,hT,fun _ h=>h.elim⟩,hs,h6.trans (hk.mono hs)⟩
theorem tdrop_any(base cb:Nat)(l:List (Ke×Tm))(k:Ke)(hk:kok k)(Q:Nat→Prop)(w:World)(h:TX w base cb l Q):
  Calls Tryz.prog 140 #[.pointer (some ⟨cb,0,none⟩),kv k] w fun e w'=>e=.returned (.bool (idx l k).isSome)∧TX w' base cb (drop lt l k) Q∧Below base w w'∧Same Q w w':=by
 have hsz:=h.sz;have kA:Below w.heap.size w (w.alloc (.cells #[.int .i64 k.1,.int .i64 k.2] 160)).drew:=((Below.refl _ _).alloc (Nat.le_refl _) _).drew;have hA:Kb (w.alloc (.cells #[.int .i64 k.1,.int .i64 k.2] 160)) w.heap.size k:=heap_alloc_new _ _;have hS:=h.same kA;have h1:=h.below kA;obtain⟨hb,v,mb,h1,hq⟩:=h1;have q0:(w.alloc (.cells #[.int .i64 k.1,.int .i64 k.2] 160)).cell? ⟨cb,0,none⟩=some (.pointer (some ⟨hb,0,none⟩)):=cell_of (w:=(w.alloc (.cells #[.int .i64 k.1,.int .i64 k.2] 160)).drew) h1.blk;obtain⟨a0,a1⟩:=hA.cells;have hd:=heapdrop_any base hb v mb l k hk _ h1.hp;obtain⟨w1,hw1⟩:∃ w1,w.alloc (.cells #[.int .i64 k.1,.int .i64 k.2] 160)=w1:=⟨_,rfl⟩;rw[hw1] at kA h1 q0 a0 a1 hd hS;have HT:=Lib.hid (And.intro h1 (show ∀ x,Q x→x < w1.drew.heap.size∧¬ Foot cb hb mb v x from by rw[← hw1];exact hq));have HK:=Lib.hid kA;have HS:=Lib.hid hS;clear h1 hq h kA hA hS;go_enter Tryz.func140,Tryz.ntmps140
 go_wp2_with fail
 go_region_with (go_at_call 122;refine hd.mono ?_;rintro e w4 ⟨rfl,v',h5,k5,hm⟩)
 all_goals (go_wp2_with fail)
 all_goals go_ret
 all_goals
  obtain⟨r1,r2,r3⟩:=TX.next HT.out.1 HT.out.2 h5 k5 hm;exact⟨rfl,r1,(HK.out.mono hsz).trans r2,HS.out.trans r3⟩
theorem tset_any(base cb:Nat)(l:List (Ke×Tm))(k:Ke)(at_:Int)(hk:kok k)(hl:l.length+1≤1000000000)(Q:Nat→Prop)(w:World)(h:TX w base cb l Q):
  Calls Tryz.prog 101 #[.pointer (some ⟨cb,0,none⟩),kv k,.int .i64 at_] w fun e w'=>e=.returned (.tuple #[])∧TX w' base cb (setAt lt l k ⟨at_,k.1,k.2⟩) Q∧Below base w w'∧Same Q w w':=by
 have hsz:=h.sz;have kA:Below w.heap.size w (w.alloc (.cells #[.int .i64 k.1,.int .i64 k.2] 160)).drew:=((Below.refl _ _).alloc (Nat.le_refl _) _).drew;have hA:Kb (w.alloc (.cells #[.int .i64 k.1,.int .i64 k.2] 160)) w.heap.size k:=heap_alloc_new _ _;have hS:=h.same kA;have h1:=h.below kA;obtain⟨hb,v,mb,h1,hq⟩:=h1;have q0:(w.alloc (.cells #[.int .i64 k.1,.int .i64 k.2] 160)).cell? ⟨cb,0,none⟩=some (.pointer (some ⟨hb,0,none⟩)):=cell_of (w:=(w.alloc (.cells #[.int .i64 k.1,.int .i64 k.2] 160)).drew) h1.blk;obtain⟨a0,a1⟩:=hA.cells;have hd:=heapset_any base hb v mb l k ⟨at_,k.1,k.2⟩ hk hl _ h1.sz h1.hp;have hd:Calls Tryz.prog 149 #[.pointer (some ⟨hb,0,none⟩),kv k,.agg #[.int .i64 at_,.int .i64 k.1,.int .i64 k.2]] _ _:=hd;obtain⟨w1,hw1⟩:∃ w1,w.alloc (.cells #[.int .i64 k.1,.int .i64 k.2] 160)=w1:=⟨_,rfl⟩;rw[hw1] at kA h1 q0 a0 a1 hd hS;have HT:=Lib.hid (And.intro h1 (show ∀ x,Q x→x < w1.drew.heap.size∧¬ Foot cb hb mb v x from by rw[← hw1];exact hq));have HK:=Lib.hid kA;have HS:=Lib.hid hS;clear h1 hq h kA hA hS;go_enter Tryz.func101,Tryz.ntmps101
 go_wp2_with fail
 go_region_with (go_at_call 149;refine hd.mono ?_;rintro e w4 ⟨rfl,v',h5,k5,hm⟩)
 all_goals (go_wp2_with fail)
 all_goals go_returns
 all_goals
  obtain⟨r1,r2,r3⟩:=TX.next HT.out.1 HT.out.2 h5 k5 hm;exact⟨rfl,r1,(HK.out.mono hsz).trans r2,HS.out.trans r3⟩
def ga:Option Tm→Int
 | none=>0
 | some m=>m.at_
def gk:Option Tm→Int
 | none=>0
 | some m=>m.kd
def gi:Option Tm→Int
 | none=>0
 | some m=>m.id
theorem next_none(base cb:Nat)(l:List (Ke×Tm))(now:Int)(hn:¬ (0 < l.length∧(vv l 0).at_≤now))(Q:Nat→Prop)(w:World)(h:TX w base cb l Q):
  Calls Tryz.prog 69 #[.pointer (some ⟨cb,0,none⟩),.int .i64 now] w fun e w'=>e=.returned (.tuple #[kv (0,0),.bool false])∧Below w.heap.size w w':=by
 have hR:Kb (w.alloc (.cells #[.int .i64 0,.int .i64 0] 160)) w.heap.size (0,0):=heap_alloc_new _ _;have kA:Below w.heap.size w (w.alloc (.cells #[.int .i64 0,.int .i64 0] 160)):=(Below.refl _ _).alloc (Nat.le_refl _) _;have h1:=h.below kA;obtain⟨w1,hw1⟩:∃ w1,w.alloc (.cells #[.int .i64 0,.int .i64 0] 160)=w1:=⟨_,rfl⟩;rw[hw1] at hR kA h1;obtain⟨hb,v,mb,h1,-⟩:=h1;have q0:w1.cell? ⟨cb,0,none⟩=some (.pointer (some ⟨hb,0,none⟩)):=cell_of h1.blk;have hm:∃ (k:Ke) (m:Tm) (t:Bool),(t=false∨(t=true∧now < m.at_))∧Calls Tryz.prog 121 #[.pointer (some ⟨hb,0,none⟩)] w1 fun e w'=>e=.returned (.tuple #[kv k,mv m,.bool t])∧Below w1.heap.size w1 w':=by
  by_cases hl:0 < l.length
  ·exact⟨kk l 0,vv l 0,true,.inr ⟨rfl,by
    by_cases h:(vv l 0).at_≤now
    ·exact absurd ⟨hl,h⟩ hn
    ·omega⟩,min_some base hb v mb l hl w1 h1.hp⟩
  ·obtain rfl:l=[]:=List.eq_nil_of_length_eq_zero (by omega)
   exact⟨(0,0),⟨0,0,0⟩,false,.inl rfl,min_none base hb v mb w1 h1.hp⟩
 obtain⟨k,m,t,hcase,hmin⟩:=hm;clear hn h h1;have hfin:∀ w2,Below w1.heap.size w1 w2→Kb ((w2.alloc (.cells #[.int .i64 k.1,.int .i64 k.2] 160)).alloc (.cells #[.int .i64 m.at_,.int .i64 m.kd,.int .i64 m.id] 162)) w.heap.size (0,0)∧Below w.heap.size w ((w2.alloc (.cells #[.int .i64 k.1,.int .i64 k.2] 160)).alloc (.cells #[.int .i64 m.at_,.int .i64 m.kd,.int .i64 m.id] 162)):=fun w2 hB=>by
  have k3:Below w2.heap.size w2 ((w2.alloc (.cells #[.int .i64 k.1,.int .i64 k.2] 160)).alloc (.cells #[.int .i64 m.at_,.int .i64 m.kd,.int .i64 m.id] 162)):=by go_grown
  have hz:=lt_of hR;have hz2:=hB.size;exact⟨(k3.block w.heap.size (by omega)).trans ((hB.block w.heap.size hz).trans hR),kA.trans ((hB.mono kA.size).trans (k3.mono (by have:=kA.size;omega)))⟩
 have HF:=Lib.hid hfin;clear hfin hR kA;obtain⟨ma,mk1,mi1⟩:=m;dsimp only at hcase HF;rcases hcase with rfl|⟨rfl,hlt⟩
 case' inr=>have hd:¬ ma≤now:=by omega
 all_goals
  go_enter Tryz.func69,Tryz.ntmps69
  go_wp2_with fail
  refine hmin.mono ?_;clear hmin;rintro e w2 ⟨rfl,hB2⟩;obtain⟨r1,r2⟩:=HF.out w2 hB2;clear hB2 q0 HF;obtain⟨b0,b1⟩:=r1.cells;obtain⟨f0,f1⟩:=r1.free;go_wp2_with fail
  have ek:=set2_kb r1 (0,0);have eB:Below w.heap.size w (set2 ((w2.alloc (.cells #[.int .i64 k.1,.int .i64 k.2] 160)).alloc (.cells #[.int .i64 ma,.int .i64 mk1,.int .i64 mi1] 162)) w.heap.size (0,0)):=r2.trans ((set2_kept _ w.heap.size (0,0)).below r2.size (fun x hx h=>by omega));change bodyPost _ _ _ _ _ (set2 ((w2.alloc (.cells #[.int .i64 k.1,.int .i64 k.2] 160)).alloc (.cells #[.int .i64 ma,.int .i64 mk1,.int .i64 mi1] 162)) w.heap.size (0,0));generalize set2 ((w2.alloc (.cells #[.int .i64 k.1,.int .i64 k.2] 160)).alloc (.cells #[.int .i64 ma,.int .i64 mk1,.int .i64 mi1] 162)) w.heap.size (0,0)=w6 at *;clear b0 b1 f0 f1;obtain⟨b0,b1⟩:=ek.cells;refine bodyPost_ret (by simp[results,Tryz.results69,go_sem,b0,b1];try rfl) rfl ?_;exact⟨rfl,eB⟩
theorem next_some(base cb:Nat)(l:List (Ke×Tm))(now:Int)(hl:0 < l.length)(hn:(vv l 0).at_≤now)(Q:Nat→Prop)(w:World)(h:TX w base cb l Q):
  Calls Tryz.prog 69 #[.pointer (some ⟨cb,0,none⟩),.int .i64 now] w fun e w'=>e=.returned (.tuple #[kv (kk l 0),.bool true])∧TX w' base cb (drop lt l (kk l 0)) Q∧Below base w w'∧Same Q w w':=by
 have hsz:=h.sz;have hR:Kb (w.alloc (.cells #[.int .i64 0,.int .i64 0] 160)) w.heap.size (0,0):=heap_alloc_new _ _;have kA:Below w.heap.size w (w.alloc (.cells #[.int .i64 0,.int .i64 0] 160)):=(Below.refl _ _).alloc (Nat.le_refl _) _;obtain⟨hb,v,mb,h0,hq⟩:=h;have h1:=h0.kept (Kept.of_below (F:=fun _=>False) kA) (fun _ _ h=>h);obtain⟨w1,hw1⟩:∃ w1,w.alloc (.cells #[.int .i64 0,.int .i64 0] 160)=w1:=⟨_,rfl⟩;rw[hw1] at hR kA h1;have q0:w1.cell? ⟨cb,0,none⟩=some (.pointer (some ⟨hb,0,none⟩)):=cell_of h1.blk;have hmin:=min_some base hb v mb l hl w1 h1.hp;have hkk:kok (kk l 0):=h0.hp.wf (l.getD 0 default) (by rw[List.getD_eq_getElem?_getD,List.getElem?_eq_getElem hl];exact List.getElem_mem hl);have hd:∀ W,Kept (fun _=>False) w1 W→Calls Tryz.prog 122 #[.pointer (some ⟨hb,0,none⟩),kv (kk l 0)] W fun e w'=>e=.returned (.bool (idx l (kk l 0)).isSome)∧∃ v',Hp w' base hb fv17 v' mb (drop lt l (kk l 0))∧Kept (fun y=>y=hb∨own mb v y) W w'∧Moved W v v':=
  fun W hW=>heapdrop_any base hb v mb l (kk l 0) hkk W (h1.hp.kept hW (fun h=>h) (fun h=>h) (fun _ _ h=>h))
 obtain⟨m,hm⟩:∃ m,vv l 0=m:=⟨_,rfl⟩;rw[hm] at hmin hn;generalize (idx l (kk l 0)).isSome=t at *;generalize HeapPure.drop lt l (kk l 0)=l' at *;generalize kk l 0=k at *;have hnd:¬ now < m.at_:=by omega
 have hfin:∀ w2,Below w1.heap.size w1 w2→Kept (fun _=>False) w1 ((w2.alloc (.cells #[.int .i64 k.1,.int .i64 k.2] 160)).alloc (.cells #[.int .i64 m.at_,.int .i64 m.kd,.int .i64 m.id] 162))∧Kb ((w2.alloc (.cells #[.int .i64 k.1,.int .i64 k.2] 160)).alloc (.cells #[.int .i64 m.at_,.int .i64 m.kd,.int .i64 m.id] 162)) w2.heap.size k:=fun w2 hB=>
  ⟨((Kept.of_below hB).alloc _).alloc _,((Below.heap_alloc _ _ _ (by simp)).trans (heap_alloc_new _ _))⟩
 have HF:=Lib.hid hfin;have HR:=Lib.hid (And.intro hR kA);have HT:=Lib.hid (And.intro h0 (And.intro h1 hq));have HD:=Lib.hid hd;clear hfin hR kA h0 h1 hq hd hm;go_enter Tryz.func69,Tryz.ntmps69
 go_wp2_with fail
 refine hmin.mono ?_;clear hmin;rintro e w2 ⟨rfl,hB2⟩;obtain⟨kC,hkb⟩:=HF.out w2 hB2;have c0:((w2.alloc (.cells #[.int .i64 k.1,.int .i64 k.2] 160)).alloc (.cells #[.int .i64 m.at_,.int .i64 m.kd,.int .i64 m.id] 162)).cell? ⟨cb,0,none⟩=some (.pointer (some ⟨hb,0,none⟩)):=(kC.cell (p:=⟨cb,0,none⟩) (block_lt_of_cell q0) (fun h=>h)).trans q0;have hne:w2.heap.size≠w.heap.size:=by have:=lt_of HR.out.1;have:=hB2.size;omega
 have hz2:=hB2.size;clear hB2 HF q0;go_wp2_with fail
 obtain⟨w3,hw3⟩:∃ w3,(w2.alloc (.cells #[.int .i64 k.1,.int .i64 k.2] 160)).alloc (.cells #[.int .i64 m.at_,.int .i64 m.kd,.int .i64 m.id] 162)=w3:=⟨_,rfl⟩;rw[hw3] at kC hkb c0 ⊢;have hdD:=HD.out w3.drew kC.drew;obtain⟨a0,a1⟩:=hkb.cells;clear HD;go_region_with (go_at_call 122;refine hdD.mono ?_;rintro e w4 ⟨rfl,v',h5,k5,hmv⟩)
 all_goals
  obtain⟨h0,h1,hq⟩:=HT.out;obtain⟨hR,kA⟩:=HR.out;have hkD:Kept (fun _=>False) w1 w3.drew:=kC.drew;have hT3:=h1.kept hkD (fun _ _ h=>h);have hs1:=kA.size;have hs3:w1.heap.size≤w3.drew.heap.size:=hkD.size;have hnl:=lt_of hR;obtain⟨x1,x2,x3⟩:=TX.next (Q:=fun x=>Q x∨x=w.heap.size) hT3 (fun x hx=>by
   rcases hx with hx|hx
   ·exact⟨by have:=(hq x hx).1;omega,(hq x hx).2⟩
   ·subst hx
    exact⟨by omega,fun hf=>by have:=(h0.lt hf).1;omega⟩) h5 k5 hmv
  have hR4:Kb w4 w.heap.size (0,0):=(x3 w.heap.size (.inr rfl)).trans ((hkD.block w.heap.size hnl (fun h=>h)).trans hR);have hk4:Kb w4 w2.heap.size k:=(k5.block w2.heap.size (lt_of hkb) (fun hf=>by have:=(h1.lt (.inr hf)).1;omega)).trans hkb;clear a0 a1 c0;obtain⟨a0,a1⟩:=hk4.cells;obtain⟨b0,b1⟩:=hR4.cells;obtain⟨f0,f1⟩:=hR4.free;have ek:=set2_kb hR4 k;have ks:=set2_kept w4 w.heap.size k;have hX:TX (set2 w4 w.heap.size k) base cb l' Q:=(x1.beside (ks.mono (fun x _ hx=>.inr hx))).less (fun x hx=>.inl hx);have hBe:Below base w (set2 w4 w.heap.size k):=(((kA.mono hsz).trans (hkD.below (by omega) (fun _ _ h=>h))).trans x2).trans (ks.below x1.sz (fun x hx h=>by omega));have hSa:Same Q w (set2 w4 w.heap.size k):=fun x hx=>by
   have hx1:=(hq x hx).1;exact(ks.block x (by have:=k5.size;omega) (by omega)).trans ((x3 x (.inl hx)).trans ((hkD.block x (by omega) (fun h=>h)).trans (kA.block x hx1)))
  clear h0 h1 hq hR kA hkD hT3 x1 x2 x3 hR4 hk4 ks HT HR h5 k5 hmv hkb kC hdD hw3;go_wp2_with fail
  change bodyPost _ _ _ _ _ (set2 w4 w.heap.size k);generalize set2 w4 w.heap.size k=w6 at *;clear a0 a1 b0 b1 f0 f1;obtain⟨b0,b1⟩:=ek.cells;refine bodyPost_ret (by simp[results,Tryz.results69,go_sem,b0,b1];try rfl) rfl ?_;exact⟨rfl,hX,hBe,hSa⟩
end Go.Proofs.YtigeldkbfbcpmaaGreat.P14
