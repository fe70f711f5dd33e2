/- A part of the proof: what the functions of the program come to, and what holds at all times. -/
import Derived.Test.YtigeldkbfbcpmaaGreatRows
import Derived.Shelf.Bits.Mul64
import Derived.Deep.RegionHeld3
import Derived.BigRegion
import Derived.BigQuiet
import Derived.Handy
import Derived.Test.YtigeldkbfbcpmaaGreatM01
set_option linter.unusedVariables false
set_option linter.unusedSectionVars false
set_option linter.unusedSimpArgs false
set_option maxRecDepth 100000
set_option maxHeartbeats 8000000
namespace Go.Proofs
open Go.Shelf
def Tryz.lays264_ren:Go.Shelf.Ren:=⟨fun | 264=>172 | n=>n,fun | 53=>111 | 46=>49 | n=>n,fun | n=>n⟩
theorem Tryz.lays264:Go.Proofs.Lays.n264 Tryz.prog Tryz.lays264_ren:={
 mixed:=by kernel_rfl
 f264:=Tryz.func172.trans (congrArg some (by kernel_rfl))
 t46:=Tryz.underlying49
 a46:=Tryz.isAgg49
 z46:=Tryz.sizeOf49
 v46:=Tryz.zeroValue49
 t53:=Tryz.underlying111
 a53:=Tryz.isAgg111
 z53:=Tryz.sizeOf111
 v53:=Tryz.zeroValue111 }
end Go.Proofs
namespace Go.Proofs.YtigeldkbfbcpmaaGreat.P09
open Go.RowKit Go.Kpt RatioPure
def Sm(x:Nat):Prop:=x < 18446744073709551616
def hi(x y:Nat):Nat:=x*y / 18446744073709551616
def lo(x y:Nat):Nat:=x*y % 18446744073709551616
def M64:Nat:=18446744073709551616
theorem hi_lo(x y:Nat):hi x y*M64+lo x y=x*y:=by
 unfold hi lo M64;rw[Nat.mul_comm];exact Nat.div_add_mod _ _
theorem lo_lt(x y:Nat):lo x y < M64:=Nat.mod_lt _ (by decide)
theorem mul_any(x y:Nat)(hx:Sm x)(hy:Sm y)(w:World):Calls Tryz.prog 172 #[.int .u64 x,.int .u64 y] w fun e w'=>e=.returned (.tuple #[.int .u64 (hi x y),.int .u64 (lo x y)])∧w=w':=
 (Any.bits_Mul64 Tryz.lays264 x y hx hy w).mono fun e w' ⟨h,h2⟩=>⟨h,h2.symm⟩
theorem nan_any(x:Nat)(w:World):Calls Tryz.prog 204 #[.int .u64 x] w fun e w'=>e=.returned (.bool false)∧w=w':=by
 go_enter Tryz.func204,Tryz.ntmps204
 go_wp2
 go_ret
 exact⟨by simp,rfl⟩
theorem cmp_any(x y:Nat)(w:World):Calls Tryz.prog 203 #[.int .u64 x,.int .u64 y] w fun e w'=>e=.returned (.int .i64 (sgn x y))∧w=w':=by
 rcases Nat.lt_trichotomy x y with h|h|h
 ·have H:=Lib.hid (sgn_lt h)
  go_enter Tryz.func203,Tryz.ntmps203
  go_wp2_with fail
  refine(nan_any _ _).mono ?_;rintro e w' ⟨rfl,rfl⟩;go_wp2_with fail
  refine(nan_any _ _).mono ?_;rintro e w' ⟨rfl,rfl⟩;go_wp2_with fail
  go_ret
  exact⟨by rw[H.out];rfl,rfl⟩
 ·have H:=Lib.hid (sgn_eq h)
  subst h;go_enter Tryz.func203,Tryz.ntmps203
  go_wp2_with fail
  refine(nan_any _ _).mono ?_;rintro e w' ⟨rfl,rfl⟩;go_wp2_with fail
  refine(nan_any _ _).mono ?_;rintro e w' ⟨rfl,rfl⟩;go_wp2_with fail
  go_ret
  exact⟨by rw[H.out];rfl,rfl⟩
 ·have H:=Lib.hid (sgn_gt h)
  have h2:¬ x < y:=by omega
  go_enter Tryz.func203,Tryz.ntmps203
  go_wp2_with fail
  refine(nan_any _ _).mono ?_;rintro e w' ⟨rfl,rfl⟩;go_wp2_with fail
  refine(nan_any _ _).mono ?_;rintro e w' ⟨rfl,rfl⟩;go_wp2_with fail
  go_ret
  exact⟨by rw[H.out];rfl,rfl⟩
def orI(x y:Int):Int:=if x=0 then y else x
theorem orI_pos{x y:Int}(h:x=0):orI x y=y:=if_pos h
theorem orI_neg{x y:Int}(h:¬ x=0):orI x y=x:=if_neg h
theorem or_any(b:Nat)(x y:Int)(w:World)(h0:w.cell? ⟨b,0,none⟩=some (.int .i64 x))(h1:w.cell? ⟨b,1,none⟩=some (.int .i64 y)):
  Calls Tryz.prog 118 #[.slice (some ⟨b,0,none⟩) 2 2] w fun e w'=>e=.returned (.int .i64 (orI x y))∧w=w':=by
 by_cases hx:x=0
 ·subst hx
  have H:=Lib.hid (orI_pos (x:=0) (y:=y) rfl);by_cases hy:y=0
  ·subst hy
   go_enter Tryz.func118,Tryz.ntmps118
   go_wp2
   refine wp_loop_rounds 3 ?_
   repeat any_goals (rw[rounds_succ];go_wp2)
   go_ret
   exact⟨by rw[H.out];rfl,rfl⟩
  ·have hyb:(y != 0)=true:=by simpa using hy
   go_enter Tryz.func118,Tryz.ntmps118
   go_wp2
   refine wp_loop_rounds 3 ?_
   repeat any_goals (rw[rounds_succ];go_wp2)
   go_ret
   exact⟨by rw[H.out];rfl,rfl⟩
 ·have H:=Lib.hid (orI_neg (y:=y) hx)
  have hxb:(x != 0)=true:=by simpa using hx
  go_enter Tryz.func118,Tryz.ntmps118
  go_wp2
  refine wp_loop_rounds 3 ?_
  repeat any_goals (rw[rounds_succ];go_wp2)
  go_ret
  exact⟨by rw[H.out];rfl,rfl⟩
theorem sgn_halves(p q p' q':Nat):orI (sgn (hi p q) (hi p' q')) (sgn (lo p q) (lo p' q'))=sgn (p*q) (p'*q'):=by
 unfold orI;have h1:=hi_lo p q;have h2:=hi_lo p' q';have l1:=lo_lt p q;have l2:=lo_lt p' q';have hM:0 < M64:=by decide
 rw[← h1,← h2];generalize hi p q=a at *;generalize hi p' q'=b at *;generalize lo p q=c at *;generalize lo p' q'=d at *;generalize M64=M at *;rcases Nat.lt_trichotomy a b with h|h|h
 ·have:=Nat.mul_le_mul_right M (show a+1≤b from h)
  rw[Nat.add_mul,Nat.one_mul] at this;rw[sgn_lt h,if_neg (by decide),sgn_lt (by omega)]
 ·subst h
  rw[sgn_eq rfl,if_pos rfl];exact sgn_congr (by omega) (by omega)
 ·have:=Nat.mul_le_mul_right M (show b+1≤a from h)
  rw[Nat.add_mul,Nat.one_mul] at this;rw[sgn_gt h,if_neg (by decide),sgn_gt (by omega)]
abbrev rv(n d:Nat):Value:=.agg #[.int .u64 n,.int .u64 d]
theorem compare_any(an ad bn bd:Nat)(ha:Sm an)(ha':Sm ad)(hb:Sm bn)(hb':Sm bd)(w:World):
  Calls Tryz.prog 199 #[rv an ad,rv bn bd] w fun e w'=>e=.returned (.int .i64 (sgn (an*bd) (bn*ad)))∧Below w.heap.size w w':=by
 have H:=Lib.hid (sgn_halves an bd bn ad);go_enter Tryz.func199,Tryz.ntmps199
 go_wp2_with fail
 refine(mul_any _ _ ha hb' _).mono ?_;rintro e w' ⟨rfl,rfl⟩;go_wp2_with fail
 refine(mul_any _ _ hb ha' _).mono ?_;rintro e w' ⟨rfl,rfl⟩;go_wp2_with fail
 refine(cmp_any _ _ _).mono ?_;rintro e w' ⟨rfl,rfl⟩;go_wp2_with fail
 refine(cmp_any _ _ _).mono ?_;rintro e w' ⟨rfl,rfl⟩;go_wp2_with fail
 refine(or_any _ (sgn (hi an bd) (hi bn ad)) (sgn (lo an bd) (lo bn ad)) _ (by rw[World.cell?_alloc_at _ _ _ _ (by simp)];rfl) (by rw[World.cell?_alloc_at _ _ _ _ (by simp)];rfl)).mono ?_;rintro e w' ⟨rfl,rfl⟩;go_wp2_with fail
 go_ret
 exact⟨by rw[← H.out];rfl,by go_grown⟩
theorem wrap_div{n:Nat}(d:Nat)(h:Sm n):IntKind.u64.wrap ((n:Int) / (d:Int))=((n / d:Nat):Int):=by
 have h1:n / d≤n:=Nat.div_le_self _ _;unfold Sm at h;rw[← Int.natCast_ediv];generalize n / d=q at *;exact IntWalk.u64_in _ ⟨by omega,by omega⟩
theorem floor_any(n d:Nat)(hn:Sm n)(hd:0 < d)(w:World):Calls Tryz.prog 169 #[rv n d] w fun e w'=>e=.returned (.int .u64 ((n / d:Nat):Int))∧Below w.heap.size w w':=by
 have hz:((d:Int) == 0)=false:=by simp;omega
 have hd0:(0:Int) < d:=by omega
 go_enter Tryz.func169,Tryz.ntmps169
 go_wp2
 go_ret
 exact⟨by rw[← wrap_div d hn];rfl,by go_grown⟩
def sm(x y:Nat):Nat:=(x+y) % 18446744073709551616
def cy(x y:Nat):Nat:=(x+y) / 18446744073709551616
theorem add64_run(x y:Nat)(w:World):(callFunc 192 #[.int .u64 x,.int .u64 y,.int .u64 0]).run Tryz.prog w=.ok (.value (.tuple #[.int .u64 (sm x y),.int .u64 (cy x y)])) w:=by
 rw[run_callFunc_extern Tryz.func192 (by kernel_rfl) (by kernel_rfl) (by kernel_rfl) (e:=add64Entry) (by kernel_rfl) _ w,run_add64 _ _ _ (by omega) (by omega) (by omega) (by omega)];unfold sm cy;rw[Int.natCast_emod,Int.natCast_ediv,Int.natCast_add,Int.add_zero];rfl
def Fits(n up down:Nat):Prop:=0 < down∧hi n down=0∧cy (lo n down) up=0
theorem fits_num{n up down:Nat}(h:Fits n up down):sm (lo n down) up=n*down+up:=by
 obtain⟨_,h1,h2⟩:=h;have e:=hi_lo n down;rw[h1,Nat.zero_mul,Nat.zero_add] at e;unfold cy at h2;unfold sm;rw[← e];have hl:lo n down+up < 18446744073709551616:=by
  rcases Nat.lt_or_ge (lo n down+up) 18446744073709551616 with h|h
  ·exact h
  ·have:=Nat.div_le_div_right (c:=18446744073709551616) h;rw[h2] at this;simp at this
 exact Nat.mod_eq_of_lt hl
theorem above_yes(n up down:Nat)(hn:Sm n)(hu:Sm up)(hd:Sm down)(hf:Fits n up down)(w:World):
  Calls Tryz.prog 170 #[.int .u64 n,.int .u64 up,.int .u64 down] w fun e w'=>e=.returned (.tuple #[rv (n*down+up) down,.bool true])∧Below w.heap.size w w':=by
 have hm:=mul_any n down hn hd;have ha:=add64_run (lo n down) up;have HF:=Lib.hid (fits_num hf);obtain⟨h0,h1,h2⟩:=hf;rw[h1] at hm;rw[h2] at ha;have hz:((down:Int) == 0)=false:=by simp;omega
 rw[HF.out] at ha;generalize n*down+up=t at *;clear h1 h2 HF;go_enter Tryz.func170,Tryz.ntmps170
 go_wp2_with fail
 refine(hm _).mono ?_;rintro e w' ⟨rfl,rfl⟩;clear hm;go_wp2_with fail
 go_returns
 exact⟨rfl,by go_grown⟩
end Go.Proofs.YtigeldkbfbcpmaaGreat.P09
