/- A part of the proof: what the functions of the program come to, and what holds at all times. -/
import Derived.Test.YtigeldkbfbcpmaaGreatRows
import Derived.BigRegion
import Derived.BigQuiet
import Derived.Test.YtigeldkbfbcpmaaGreatM01
set_option linter.unusedVariables false
set_option linter.unusedSectionVars false
set_option linter.unusedSimpArgs false
set_option maxRecDepth 100000
set_option maxHeartbeats 8000000
namespace Go.Proofs.YtigeldkbfbcpmaaGreat.P10
open Go.RowKit Go.Kpt
def Bk(w:World)(b:Nat)(s r t:Int):Prop:=w.heap[b]?=some (.cells #[.int .i64 s,.int .i64 r,.int .i64 t] 211 (0,0))
theorem Bk.lt{w:World}{b:Nat}{s r t:Int}(h:Bk w b s r t):b < w.heap.size:=lt_of h
theorem Bk.kept{F:Nat→Prop}{w w':World}{b:Nat}{s r t:Int}(h:Bk w b s r t)(k:Kept F w w')(hF:¬ F b):Bk w' b s r t:=(k.block b h.lt hF).trans h
theorem ret_int{k:IntKind}{a b:Int}(h:a=b):Ending.returned (.int k a)=.returned (.int k b):=by rw[h]
def bnd(n:Int):Int:=if n < 0 then 0 else if 1000 < n then 1000 else n
theorem bnd_le(n:Int):0≤bnd n∧bnd n≤1000:=by unfold bnd;split <;> (try split) <;> omega
theorem bound_any(n:Int)(w:World):Calls Tryz.prog 126 #[.int .i64 n] w fun e w'=>e=.returned (.int .i64 (bnd n))∧w=w':=by
 by_cases h0:n < 0
 ·have e:bnd n=0:=by unfold bnd;rw[if_pos h0]
  have H:=Lib.hid e;clear e;go_enter Tryz.func126,Tryz.ntmps126
  go_wp2
  all_goals
   go_ret
   exact⟨ret_int H.out.symm,rfl⟩
 ·by_cases h1:1000 < n
  ·have e:bnd n=1000:=by unfold bnd;rw[if_neg h0,if_pos h1]
   have H:=Lib.hid e;clear e;go_enter Tryz.func126,Tryz.ntmps126
   go_wp2
   all_goals
    go_ret
    exact⟨ret_int H.out.symm,rfl⟩
  ·have e:bnd n=n:=by unfold bnd;rw[if_neg h0,if_neg h1]
   have H:=Lib.hid e;clear e;by_cases h2:n=0
   ·subst h2
    go_enter Tryz.func126,Tryz.ntmps126
    go_wp2
    all_goals
     go_ret
     exact⟨ret_int H.out.symm,rfl⟩
   ·have h3:0 < n:=by omega
    go_enter Tryz.func126,Tryz.ntmps126
    go_wp2
    all_goals
     go_ret
     exact⟨ret_int H.out.symm,rfl⟩
theorem new_any(s r:Int)(w:World):Calls Tryz.prog 74 #[.int .i64 s,.int .i64 r] w fun e w'=>
  e=.returned (.pointer (some ⟨w.heap.size,0,none⟩))∧Bk w' w.heap.size (bnd s) (bnd r) (bnd s)∧Below w.heap.size w w'∧w'.heap.size=w.heap.size+1:=by
 go_enter Tryz.func74,Tryz.ntmps74
 go_wp2_with (go_at_call 126;refine(bound_any _ _).mono ?_;rintro e w' ⟨rfl,rfl⟩)
 go_ret
 exact⟨rfl,heap_alloc_new _ _,(Below.refl _ _).alloc (Nat.le_refl _) _,by simp⟩
theorem take_yes(b:Nat)(s r t:Int)(w:World)(h:Bk w b s r t)(h0:0 < t)(h1:t≤1000):
  Calls Tryz.prog 93 #[.pointer (some ⟨b,0,none⟩)] w fun e w'=>e=.returned (.bool true)∧Bk w' b s r (t - 1)∧Kept (·=b) w w':=by
 have c2:w.cell? ⟨b,2,none⟩=some (.int .i64 t):=cell_of h;have f2:w.frozen? ⟨b,2,none⟩=false:=frozen_of h;have hz:(t == 0)=false:=by simp;omega
 go_enter Tryz.func93,Tryz.ntmps93
 go_wp2
 go_ret
 exact⟨rfl,set_same _ h,Kept.set1 _ _ _ _⟩
theorem tokens_any(b:Nat)(s r t:Int)(w:World)(h:Bk w b s r t):
  Calls Tryz.prog 91 #[.pointer (some ⟨b,0,none⟩)] w fun e w'=>e=.returned (.int .i64 t)∧w=w':=by
 have c2:w.cell? ⟨b,2,none⟩=some (.int .i64 t):=cell_of h;go_enter Tryz.func91,Tryz.ntmps91
 go_wp2
 go_ret
 exact⟨rfl,rfl⟩
theorem tick_any(b:Nat)(s r t:Int)(w:World)(h:Bk w b s r t)(h0:0≤t)(h1:t≤1000)(h2:0≤r)(h3:r≤1000):
  Calls Tryz.prog 68 #[.pointer (some ⟨b,0,none⟩)] w fun e w'=>e=.returned (.tuple #[])∧Bk w' b s r (if t+r≤s then t+r else s)∧Kept (·=b) w w':=by
 have c0:w.cell? ⟨b,0,none⟩=some (.int .i64 s):=cell_of h;have c1:w.cell? ⟨b,1,none⟩=some (.int .i64 r):=cell_of h;have c2:w.cell? ⟨b,2,none⟩=some (.int .i64 t):=cell_of h;have f2:w.frozen? ⟨b,2,none⟩=false:=frozen_of h;by_cases hs:t+r≤s
 ·have h':¬ s < t+r:=by omega
  rw[if_pos hs];go_enter Tryz.func68,Tryz.ntmps68
  go_wp2
  go_region
  all_goals
   go_wp2
   go_end0
   exact⟨rfl,set_same _ h,(Kept.set1 _ _ _ _).drew⟩
 ·have h':s < t+r:=by omega
  rw[if_neg hs];go_enter Tryz.func68,Tryz.ntmps68
  go_wp2
  go_region
  all_goals
   go_wp2
   go_end0
   exact⟨rfl,set_same _ h,(Kept.set1 _ _ _ _).drew⟩
theorem set_any(b:Nat)(s r t size refill:Int)(w:World)(h:Bk w b s r t):
  Calls Tryz.prog 73 #[.pointer (some ⟨b,0,none⟩),.int .i64 size,.int .i64 refill] w fun e w'=>e=.returned (.tuple #[])∧Bk w' b (bnd size) (bnd refill) (if t≤bnd size then t else bnd size)∧Kept (·=b) w w':=by
 have hb:=bnd_le size;have c0:w.cell? ⟨b,0,none⟩=some (.int .i64 s):=cell_of h;have c1:w.cell? ⟨b,1,none⟩=some (.int .i64 r):=cell_of h;have c2:w.cell? ⟨b,2,none⟩=some (.int .i64 t):=cell_of h;have f0:w.frozen? ⟨b,0,none⟩=false:=frozen_of h;have f1:w.frozen? ⟨b,1,none⟩=false:=frozen_of h;have f2:w.frozen? ⟨b,2,none⟩=false:=frozen_of h;have hk:∀ u v x,Kept (·=b) w (((w.setCell ⟨b,0,none⟩ u).setCell ⟨b,1,none⟩ v).setCell ⟨b,2,none⟩ x):=fun u v x=>
  ((Kept.set1 w b 0 u).trans (Kept.set1 _ b 1 v) (fun _ _ h=>h)).trans (Kept.set1 _ b 2 x) (fun _ _ h=>h)
 have hs:∀ u v x,Bk (((w.setCell ⟨b,0,none⟩ (.int .i64 u)).setCell ⟨b,1,none⟩ (.int .i64 v)).setCell ⟨b,2,none⟩ (.int .i64 x)) b u v x:=fun u v x=>set_same _ (set_same _ (set_same _ h));have HK:=Lib.hid hk;have HS:=Lib.hid hs;clear hk hs h;by_cases hle:t≤bnd size
 ·go_enter Tryz.func73,Tryz.ntmps73
  go_wp2_with fail
  refine(bound_any _ _).mono ?_;rintro e w' ⟨rfl,rfl⟩;go_wp2_with fail
  refine(bound_any _ _).mono ?_;rintro e w' ⟨rfl,rfl⟩;go_wp2_with fail
  go_region
  all_goals
   go_wp2
   go_end0
   exact⟨rfl,HS.out _ _ _,(HK.out _ _ _).drew⟩
 ·go_enter Tryz.func73,Tryz.ntmps73
  go_wp2_with fail
  refine(bound_any _ _).mono ?_;rintro e w' ⟨rfl,rfl⟩;go_wp2_with fail
  refine(bound_any _ _).mono ?_;rintro e w' ⟨rfl,rfl⟩;go_wp2_with fail
  go_region
  all_goals
   go_wp2
   go_end0
   exact⟨rfl,HS.out _ _ _,(HK.out _ _ _).drew⟩
end Go.Proofs.YtigeldkbfbcpmaaGreat.P10
