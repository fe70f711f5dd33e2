/- A part of the proof: what the functions of the program come to, and what holds at all times. -/
import Derived.Test.YtigeldkbfbcpmaaGreatRows
import Derived.BigRegion
import Derived.BigQuiet
import Derived.Handy
import Derived.Deep.MidRow
import Derived.Test.YtigeldkbfbcpmaaGreatM01
set_option linter.unusedVariables false
set_option linter.unusedSectionVars false
set_option linter.unusedSimpArgs false
set_option maxRecDepth 100000
set_option maxHeartbeats 8000000
namespace Go.Proofs.YtigeldkbfbcpmaaGreat.P11
open Go.RowKit Go.Kpt
structure Ac where
 th:Bool
 lim:Int
structure Fn where
 th:Bool
 acc:Nat
 res:Int
 bu:Int
structure Lg where
 ac:Nat→Ac
 fs:Nat→Fn
def Lq(w:World)(b:Nat)(s:Lg):Prop:=
 ∃ cs:Array Value,w.heap[b]?=some (.cells cs 150 (0,0))∧cs.size=288 ∧
  (∀ h,h < 16→cs[h*2]?=some (.bool (s.ac h).th)∧cs[h*2+1]?=some (.int .i64 (s.ac h).lim)) ∧
  ∀ h,h < 64→cs[32+h*4]?=some (.bool (s.fs h).th)∧cs[32+h*4+1]?=some (.int .i64 (s.fs h).acc)∧cs[32+h*4+2]?=some (.int .i64 (s.fs h).res)∧cs[32+h*4+3]?=some (.int .i64 (s.fs h).bu)
theorem Lq.lt{w:World}{b:Nat}{s:Lg}(h:Lq w b s):b < w.heap.size:=by obtain⟨cs,h,-⟩:=h;exact lt_of h
theorem Lq.below{w w':World}{b:Nat}{s:Lg}(h:Lq w b s)(hB:Below w.heap.size w w'):Lq w' b s:=by
 obtain⟨cs,h,h2⟩:=h;exact⟨cs,(hB.block b (lt_of h)).trans h,h2⟩
theorem Lq.kept{F:Nat→Prop}{w w':World}{b:Nat}{s:Lg}(h:Lq w b s)(k:Kept F w w')(hF:¬ F b):Lq w' b s:=by
 obtain⟨cs,h,h2⟩:=h;exact⟨cs,(k.block b (lt_of h) hF).trans h,h2⟩
theorem Lq.acell{w:World}{b:Nat}{s:Lg}(q:Lq w b s)(h:Nat)(hl:h < 16):
  w.cell? ⟨b,h*2,none⟩=some (.bool (s.ac h).th)∧w.cell? ⟨b,h*2+1,none⟩=some (.int .i64 (s.ac h).lim):=by
 obtain⟨cs,h1,hs,h2,h3⟩:=q;obtain⟨a,b1⟩:=h2 h hl;exact⟨(cell_of h1).trans a,(cell_of h1).trans b1⟩
theorem Lq.fcell{w:World}{b:Nat}{s:Lg}(q:Lq w b s)(h:Nat)(hl:h < 64):
  w.cell? ⟨b,32+h*4,none⟩=some (.bool (s.fs h).th)∧w.cell? ⟨b,32+h*4+1,none⟩=some (.int .i64 (s.fs h).acc)∧w.cell? ⟨b,32+h*4+2,none⟩=some (.int .i64 (s.fs h).res)∧w.cell? ⟨b,32+h*4+3,none⟩=some (.int .i64 (s.fs h).bu):=by
 obtain⟨cs,h1,hs,h2,h3⟩:=q;obtain⟨a,b1,c,d⟩:=h3 h hl;exact⟨(cell_of h1).trans a,(cell_of h1).trans b1,(cell_of h1).trans c,(cell_of h1).trans d⟩
theorem Lq.frozen{w:World}{b:Nat}{s:Lg}(q:Lq w b s)(j:Nat):w.frozen? ⟨b,j,none⟩=false:=by
 obtain⟨cs,h1,-⟩:=q;exact frozen_of h1
def put{α:Type}(f:Nat→α)(h:Nat)(m:α):Nat→α:=fun k=>if k=h then m else f k
theorem put_same{α:Type}(f:Nat→α)(h:Nat)(m:α):put f h m h=m:=by simp[put]
theorem put_ne{α:Type}(f:Nat→α)(h:Nat)(m:α)(k:Nat)(hk:k≠h):put f h m k=f k:=by simp[put,hk]
theorem put_put{α:Type}(f:Nat→α)(h:Nat)(m n:α):put (put f h m) h n=put f h n:=by funext k;simp only[put];split <;> rfl
def Lg.setF(s:Lg)(h:Nat)(m:Fn):Lg:=⟨s.ac,put s.fs h m⟩
def Lg.setA(s:Lg)(h:Nat)(m:Ac):Lg:=⟨put s.ac h m,s.fs⟩
theorem Lq.setf{w:World}{b:Nat}{s:Lg}(q:Lq w b s)(h:Nat)(hl:h < 64)(j:Nat)(hj:j < 4)(v:Value)(m:Fn)
  (h0:(if j=0 then v else .bool (s.fs h).th)=.bool m.th) (h1:(if j=1 then v else .int .i64 (s.fs h).acc)=.int .i64 m.acc)
  (h2:(if j=2 then v else .int .i64 (s.fs h).res)=.int .i64 m.res) (h3:(if j=3 then v else .int .i64 (s.fs h).bu)=.int .i64 m.bu):
  Lq (w.setCell ⟨b,32+h*4+j,none⟩ v) b (s.setF h m):=by
 obtain⟨cs,hb,hs,ha,hc⟩:=q;refine⟨cs.setIfInBounds (32+h*4+j) v,set_same v hb,by simp[hs],fun k hk=>?_,fun k hk=>?_⟩
 ·obtain⟨a0,a1⟩:=ha k hk
  simp only[Array.getElem?_setIfInBounds];rw[if_neg (by omega),if_neg (by omega)];exact⟨a0,a1⟩
 ·obtain⟨a0,a1,a2,a3⟩:=hc k hk
  by_cases hkh:k=h
  ·subst hkh
   show _=some (Value.bool (put s.fs k m k).th)∧_=some (Value.int .i64 (put s.fs k m k).acc)∧_=some (Value.int .i64 (put s.fs k m k).res)∧_=some (Value.int .i64 (put s.fs k m k).bu);rw[put_same];have hj4:j=0∨j=1∨j=2∨j=3:=by omega
   rcases hj4 with rfl|rfl|rfl|rfl <;> simp only[Array.getElem?_setIfInBounds] <;> simp_all <;> omega
  ·show _=some (Value.bool (put s.fs h m k).th)∧_=some (Value.int .i64 (put s.fs h m k).acc)∧_=some (Value.int .i64 (put s.fs h m k).res)∧_=some (Value.int .i64 (put s.fs h m k).bu)
   rw[put_ne _ _ _ _ hkh];simp only[Array.getElem?_setIfInBounds];rw[if_neg (by omega),if_neg (by omega),if_neg (by omega),if_neg (by omega)];exact⟨a0,a1,a2,a3⟩
theorem Lq.setTh{w:World}{b:Nat}{s:Lg}(q:Lq w b s)(h:Nat)(hl:h < 64)(v:Bool):Lq (w.setCell ⟨b,32+h*4,none⟩ (.bool v)) b (s.setF h { s.fs h with th:=v }):=q.setf h hl 0 (by omega) _ _ rfl rfl rfl rfl
theorem Lq.setAcc{w:World}{b:Nat}{s:Lg}(q:Lq w b s)(h:Nat)(hl:h < 64)(v:Nat):Lq (w.setCell ⟨b,32+h*4+1,none⟩ (.int .i64 v)) b (s.setF h { s.fs h with acc:=v }):=q.setf h hl 1 (by omega) _ _ rfl rfl rfl rfl
theorem Lq.setRes{w:World}{b:Nat}{s:Lg}(q:Lq w b s)(h:Nat)(hl:h < 64)(v:Int):Lq (w.setCell ⟨b,32+h*4+2,none⟩ (.int .i64 v)) b (s.setF h { s.fs h with res:=v }):=q.setf h hl 2 (by omega) _ _ rfl rfl rfl rfl
theorem Lq.setBu{w:World}{b:Nat}{s:Lg}(q:Lq w b s)(h:Nat)(hl:h < 64)(v:Int):Lq (w.setCell ⟨b,32+h*4+3,none⟩ (.int .i64 v)) b (s.setF h { s.fs h with bu:=v }):=q.setf h hl 3 (by omega) _ _ rfl rfl rfl rfl
theorem setF_setF(s:Lg)(h:Nat)(m n:Fn):(s.setF h m).setF h n=s.setF h n:=by simp only[Lg.setF,put_put]
theorem setF_at(s:Lg)(h:Nat)(m:Fn):(s.setF h m).fs h=m:=put_same _ _ _
theorem Lq.seta{w:World}{b:Nat}{s:Lg}(q:Lq w b s)(h:Nat)(hl:h < 16)(t:Bool)(v:Int):
  Lq ((w.setCell ⟨b,h*2,none⟩ (.bool t)).setCell ⟨b,h*2+1,none⟩ (.int .i64 v)) b (s.setA h ⟨t,v⟩):=by
 obtain⟨cs,hb,hs,ha,hc⟩:=q;refine⟨(cs.setIfInBounds (h*2) (.bool t)).setIfInBounds (h*2+1) (.int .i64 v),set_same _ (set_same _ hb),by simp[hs],fun k hk=>?_,fun k hk=>?_⟩
 ·obtain⟨a0,a1⟩:=ha k hk
  by_cases hkh:k=h
  ·subst hkh
   show _=some (Value.bool (put s.ac k ⟨t,v⟩ k).th)∧_=some (Value.int .i64 (put s.ac k ⟨t,v⟩ k).lim);rw[put_same];simp only[Array.getElem?_setIfInBounds,Array.size_setIfInBounds];constructor
   ·rw[if_neg (by omega),if_pos trivial,if_pos (by omega)]
   ·rw[if_pos trivial,if_pos (by omega)]
  ·show _=some (Value.bool (put s.ac h ⟨t,v⟩ k).th)∧_=some (Value.int .i64 (put s.ac h ⟨t,v⟩ k).lim)
   rw[put_ne _ _ _ _ hkh];simp only[Array.getElem?_setIfInBounds];rw[if_neg (by omega),if_neg (by omega),if_neg (by omega),if_neg (by omega)];exact⟨a0,a1⟩
 ·obtain⟨a0,a1,a2,a3⟩:=hc k hk
  simp only[Array.getElem?_setIfInBounds];rw[if_neg (by omega),if_neg (by omega),if_neg (by omega),if_neg (by omega),if_neg (by omega),if_neg (by omega),if_neg (by omega),if_neg (by omega)];exact⟨a0,a1,a2,a3⟩
theorem Kept.setb{a w:World}{b:Nat}(h:Kept (fun x=>x=b) a w)(i:Nat)(u:Value):Kept (fun x=>x=b) a (w.setCell ⟨b,i,none⟩ u):=h.setCell (p:=⟨b,i,none⟩) (fun _=>rfl) u
def zc:Array Value:=((List.replicate 16 [Value.bool false,.int .i64 0]).flatten++(List.replicate 64 [Value.bool false,.int .i64 0,.int .i64 0,.int .i64 0]).flatten).toArray
theorem zero65(w:World):(zeroValue 150).run Tryz.prog w=.ok (.agg zc) w:=by kernel_rfl
theorem zc_size:zc.size=288:=by kernel_rfl
theorem zc_a(h:Nat)(hl:h < 16):zc[h*2]?=some (.bool false)∧zc[h*2+1]?=some (.int .i64 0):=by
 have:h=0∨h=1∨h=2∨h=3∨h=4∨h=5∨h=6∨h=7∨h=8∨h=9∨h=10∨h=11∨h=12∨h=13∨h=14∨h=15:=by omega
 rcases this with rfl|rfl|rfl|rfl|rfl|rfl|rfl|rfl|rfl|rfl|rfl|rfl|rfl|rfl|rfl|rfl <;> exact⟨rfl,rfl⟩
theorem zc_f(h:Nat)(hl:h < 64):zc[32+h*4]?=some (.bool false)∧zc[32+h*4+1]?=some (.int .i64 0)∧zc[32+h*4+2]?=some (.int .i64 0)∧zc[32+h*4+3]?=some (.int .i64 0):=by
 have:h=0∨h=1∨h=2∨h=3∨h=4∨h=5∨h=6∨h=7∨h=8∨h=9∨h=10∨h=11∨h=12∨h=13∨h=14∨h=15∨h=16∨h=17∨h=18∨h=19∨h=20∨h=21∨h=22∨h=23∨h=24∨h=25∨h=26∨h=27∨h=28∨h=29∨h=30∨h=31∨h=32∨h=33∨h=34∨h=35∨h=36∨h=37∨h=38∨h=39∨h=40∨h=41∨h=42∨h=43∨h=44∨h=45∨h=46∨h=47∨h=48∨h=49∨h=50∨h=51∨h=52∨h=53∨h=54∨h=55∨h=56∨h=57∨h=58∨h=59∨h=60∨h=61∨h=62∨h=63:=by omega
 rcases this with rfl|rfl|rfl|rfl|rfl|rfl|rfl|rfl|rfl|rfl|rfl|rfl|rfl|rfl|rfl|rfl|rfl|rfl|rfl|rfl|rfl|rfl|rfl|rfl|rfl|rfl|rfl|rfl|rfl|rfl|rfl|rfl|rfl|rfl|rfl|rfl|rfl|rfl|rfl|rfl|rfl|rfl|rfl|rfl|rfl|rfl|rfl|rfl|rfl|rfl|rfl|rfl|rfl|rfl|rfl|rfl|rfl|rfl|rfl|rfl|rfl|rfl|rfl|rfl <;> exact⟨rfl,rfl,rfl,rfl⟩
attribute [irreducible] zc
def l0:Lg:=⟨fun _=>⟨false,0⟩,fun _=>⟨false,0,0,0⟩⟩
theorem new_any(w:World):
  Calls Tryz.prog 42 #[] w fun e w'=>e=.returned (.pointer (some ⟨w.heap.size,0,none⟩))∧Lq w' w.heap.size l0∧Below w.heap.size w w'∧w'.heap.size=w.heap.size+1:=by
 have hz:=zero65 w;go_enter Tryz.func42,Tryz.ntmps42
 go_wp2_with fail
 go_ret
 exact⟨rfl,⟨zc,heap_alloc_new _ _,zc_size,zc_a,zc_f⟩,by go_grown,by simp⟩
theorem known_any(b:Nat)(s:Lg)(h:Nat)(hl:h < 64)(w:World)(q:Lq w b s):
  Calls Tryz.prog 64 #[.pointer (some ⟨b,0,none⟩),.int .i64 h] w fun e w'=>e=.returned (.bool (s.fs h).th)∧w=w':=by
 obtain⟨c0,c1,c2,c3⟩:=q.fcell h hl;have hl':(h:Int) < 64:=by omega
 go_enter Tryz.func64,Tryz.ntmps64
 go_wp2_with fail
 go_ret
 exact⟨rfl,rfl⟩
theorem busy_any(b:Nat)(s:Lg)(h:Nat)(hl:h < 64)(hz:(s.fs h).th=false→(s.fs h).bu=0)(w:World)(q:Lq w b s):
  Calls Tryz.prog 36 #[.pointer (some ⟨b,0,none⟩),.int .i64 h] w fun e w'=>e=.returned (.int .i64 (s.fs h).bu)∧w=w':=by
 obtain⟨c0,c1,c2,c3⟩:=q.fcell h hl;have hk:=known_any b s h hl w q;have hl':(h:Int) < 64:=by omega
 cases hx:(s.fs h).th
 ·rw[hz hx]
  rw[hx] at hk;go_enter Tryz.func36,Tryz.ntmps36
  go_wp2_with fail
  refine hk.mono ?_;rintro e w1 ⟨rfl,rfl⟩;go_wp2_with fail
  go_ret
  exact⟨rfl,rfl⟩
 ·rw[hx] at hk
  go_enter Tryz.func36,Tryz.ntmps36
  go_wp2_with fail
  refine hk.mono ?_;rintro e w1 ⟨rfl,rfl⟩;go_wp2_with fail
  go_ret
  exact⟨rfl,rfl⟩
def rs(f:Nat→Fn)(a:Nat):Nat→Int
 | 0=>0
 | k+1=>rs f a k+if (f k).th=true∧(f k).acc=a then (f k).res else 0
def bs(f:Nat→Fn)(a:Nat):Nat→Int
 | 0=>0
 | k+1=>bs f a k+if (f k).th=true∧(f k).acc=a then (f k).bu else 0
def os(f:Nat→Fn)(a:Nat):Nat→Int
 | 0=>0
 | k+1=>os f a k+if (f k).th=true∧(f k).acc=a∧(f k).res=0 then (f k).bu else 0
def goodf(m:Fn):Prop:=m.acc < 16∧0≤m.res∧m.res≤1000∧0≤m.bu∧m.bu≤100000
theorem rs_bd{f:Nat→Fn}(hg:∀ h,h < 64→goodf (f h))(a:Nat):∀ k,k≤64→0≤rs f a k∧rs f a k≤1000*k:=by
 intro k
 induction k with
 | zero=>intro _;simp[rs]
 | succ k ih=>
  intro hk;have h1:=ih (by omega);have h2:=hg k (by omega);unfold goodf at h2;simp only[rs];split <;> omega
theorem bs_bd{f:Nat→Fn}(hg:∀ h,h < 64→goodf (f h))(a:Nat):∀ k,k≤64→0≤bs f a k∧bs f a k≤100000*k:=by
 intro k
 induction k with
 | zero=>intro _;simp[bs]
 | succ k ih=>
  intro hk;have h1:=ih (by omega);have h2:=hg k (by omega);unfold goodf at h2;simp only[bs];split <;> omega
theorem os_bd{f:Nat→Fn}(hg:∀ h,h < 64→goodf (f h))(a:Nat):∀ k,k≤64→0≤os f a k∧os f a k≤100000*k:=by
 intro k
 induction k with
 | zero=>intro _;simp[os]
 | succ k ih=>
  intro hk;have h1:=ih (by omega);have h2:=hg k (by omega);unfold goodf at h2;simp only[os];split <;> omega
theorem Lq.row{w:World}{b:Nat}{s:Lg}(q:Lq w b s):∃ R:Array Value,(loadVar 148 ⟨b,32,none⟩).run Tryz.prog w=.ok (.agg R) w∧∀ h,h < 64→R.extract (h*4) (h*4+4)=#[.bool (s.fs h).th,.int .i64 (s.fs h).acc,.int .i64 (s.fs h).res,.int .i64 (s.fs h).bu]:=by
 obtain⟨cs,hb,hs,ha,hc⟩:=q;refine⟨cs.extract 32 288,?_,fun h hh=>?_⟩
 ·have:=run_loadVar_mid (P:=Tryz.prog) w b 32 148 (cs.extract 32 288).toList _ (World.rangeAt_of_block hb 32 256) Tryz.underlying148 rfl (by rw[show (Tryz.prog.info? 148).map (·.size)=some 256 by kernel_rfl];simp[hs])
  rw[Array.toArray_toList] at this;exact this
 ·obtain⟨a0,a1,a2,a3⟩:=hc h hh
  apply Array.ext_getElem?
  intro j;simp only[Array.getElem?_extract];by_cases hj:j < 4
  ·have hj4:j=0∨j=1∨j=2∨j=3:=by omega
   rcases hj4 with rfl|rfl|rfl|rfl <;> simp only[Array.size_extract,hs]
   ·rw[if_pos (by omega),if_pos (by omega),show 32+(h*4+0)=32+h*4 by omega,a0];rfl
   ·rw[if_pos (by omega),if_pos (by omega),show 32+(h*4+1)=32+h*4+1 by omega,a1];rfl
   ·rw[if_pos (by omega),if_pos (by omega),show 32+(h*4+2)=32+h*4+2 by omega,a2];rfl
   ·rw[if_pos (by omega),if_pos (by omega),show 32+(h*4+3)=32+h*4+3 by omega,a3];rfl
  ·rw[if_neg (by simp only[Array.size_extract,hs];omega)]
   rw[Array.getElem?_eq_none (by simp;omega)]
theorem wp_load_at{P:Program}{op:Oper}{a:Act}{w:World}{K:Act→World→Prop}{Q:Exit→Act→World→Prop}(ty:TypeId)(x:Operand)(ho:op.op=.load ty x)(b o:Nat)
  (hx:a.eval x=.pointer (some ⟨b,o,none⟩)) (v:Value) (hr:(loadVar ty ⟨b,o,none⟩).run P w=.ok v w) (h:K (a.put op.dst v) w):op.wp P a w K Q:=by
 unfold Oper.wp execOp;simp only[ho,hx,Instr.loadAt,Instr.sureAddr,Sem.run_bind,Sem.run_pure,Result.andThen_ok,hr];exact h
theorem index_row(w:World)(k:Nat)(hk:k < 64)(R X:Array Value)(hx:R.extract (k*4) (k*4+4)=X):(Instr.index 148 (.agg R) (.int .i64 k)).run Tryz.prog w=.ok (.agg X) w:=by
 have h0:(k:Int) < 64:=by omega
 simp[Instr.index,asIntOf,run_underlying Tryz.underlying148,part,Tryz.isAgg144,Tryz.sizeOf144,hx,go_sem];intro h;omega
theorem sums_any(b:Nat)(s:Lg)(hg:∀ h,h < 64→goodf (s.fs h))(a:Nat)(w:World)(q:Lq w b s):
  Calls Tryz.prog 125 #[.pointer (some ⟨b,0,none⟩),.int .i64 a] w fun e w'=>e=.returned (.tuple #[.int .i64 (rs s.fs a 64),.int .i64 (bs s.fs a 64),.int .i64 (os s.fs a 64)])∧Below w.heap.size w w':=by
 obtain⟨R,hld,hX⟩:=Lq.row q;clear q;generalize s.fs=f at *;go_enter Tryz.func125,Tryz.ntmps125
 go_wp2_with fail
 refine wp_load_at 148 _ rfl b 32 rfl _ hld ?_;go_wp2_with fail
 go_loopw [16,7,8,9] (fun x y z u wr=>∃ (k:Nat),x=.int .i64 k∧k≤64∧y=.int .i64 (rs f a k)∧z=.int .i64 (bs f a k)∧u=.int .i64 (os f a k)∧Below w.heap.size w wr) (fun x _ _ _ _=>64 - (intOf x).toNat)
 case atStart=>exact⟨0,rfl,by omega,rfl,rfl,rfl,Below.refl _ _⟩
 case round=>
  obtain⟨k,rfl,hk,rfl,rfl,rfl,hB⟩:=hrel;have b1:=rs_bd hg a k hk;have b2:=bs_bd hg a k hk;have b3:=os_bd hg a k hk;have e1:rs f a (k+1)=rs f a k+if (f k).th=true∧(f k).acc=a then (f k).res else 0:=rfl
  have e2:bs f a (k+1)=bs f a k+if (f k).th=true∧(f k).acc=a then (f k).bu else 0:=rfl
  have e3:os f a (k+1)=os f a k+if (f k).th=true∧(f k).acc=a∧(f k).res=0 then (f k).bu else 0:=rfl
  by_cases hlt:k < 64
  ·have j1:(k:Int) < 64:=by omega
   have hx:=hX k hlt;have hgk:=hg k hlt;have hix:=fun W=>index_row W k hlt R _ hx;generalize rs f a k=r at *;generalize bs f a k=u at *;generalize os f a k=o at *;rcases hf:f k with ⟨th,acc,res,bu⟩;rw[hf] at hix hgk e1 e2 e3;unfold goodf at hgk;dsimp only at hix hgk e1 e2 e3;clear hX hf hld hx;obtain⟨g1,g2,g3,g4,g5⟩:=hgk;have hbase:=hB.size;cases th
   ·simp at e1 e2 e3
    go_wp2_with fail
    go_roundw
    case rel=>exact⟨k+1,by go_num,by omega,by rw[e1],by rw[e2],by rw[e3],by go_grown⟩
    case measure=>simp[intOf];omega
   ·by_cases hacc:acc=a
    ·subst hacc
     by_cases hres:res=0
     ·subst hres
      simp at e1 e2 e3;go_wp2_with fail
      go_roundw
      case rel=>exact⟨k+1,by go_num,by omega,by rw[e1],by rw[e2],by rw[e3],by go_grown⟩
      case measure=>simp[intOf];omega
     ·have j3:(res == 0)=false:=by simp[hres]
      simp[hres] at e1 e2 e3;go_wp2_with fail
      go_roundw
      case rel=>exact⟨k+1,by go_num,by omega,by rw[e1],by rw[e2],by rw[e3],by go_grown⟩
      case measure=>simp[intOf];omega
    ·have j2:((acc:Int) == (a:Int))=false:=by simp;omega
     simp[hacc] at e1 e2 e3;clear hacc;go_wp2_with fail
     go_roundw
     case rel=>exact⟨k+1,by go_num,by omega,by rw[e1],by rw[e2],by rw[e3],by go_grown⟩
     case measure=>simp[intOf];omega
  ·obtain rfl:k=64:=by omega
   clear e1 e2 e3;go_wp2_with fail
   go_returns
   exact⟨rfl,hB⟩
def Good(s:Lg):Prop:=(∀ h,h < 64→goodf (s.fs h))∧∀ a,a < 16→0≤(s.ac a).lim∧(s.ac a).lim≤1000
def askR(s:Lg)(f:Nat):Int:=
 if 0 < (s.fs f).res∧(s.fs f).res≤(s.fs f).bu then 1
 else if (s.ac (s.fs f).acc).lim≤bs s.fs (s.fs f).acc 64 then 2
 else if (s.fs f).res=0∧(s.ac (s.fs f).acc).lim - rs s.fs (s.fs f).acc 64≤os s.fs (s.fs f).acc 64 then 2
 else 0
theorem ask_none(b:Nat)(s:Lg)(f:Nat)(hl:f < 64)(ht:(s.fs f).th=false)(w:World)(q:Lq w b s):
  Calls Tryz.prog 88 #[.pointer (some ⟨b,0,none⟩),.int .i64 f] w fun e w'=>e=.returned (.tuple #[.int .i64 0,.bool false])∧Below w.heap.size w w':=by
 have hk:=known_any b s f hl w q;rw[ht] at hk;go_enter Tryz.func88,Tryz.ntmps88
 go_wp2_with fail
 refine hk.mono ?_;rintro e w1 ⟨rfl,rfl⟩;go_wp2_with fail
 go_returns
 exact⟨rfl,Below.refl _ _⟩
theorem ask_any(b:Nat)(s:Lg)(hg:Good s)(f:Nat)(hl:f < 64)(ht:(s.fs f).th=true)(w:World)(q:Lq w b s):
  Calls Tryz.prog 88 #[.pointer (some ⟨b,0,none⟩),.int .i64 f] w fun e w'=>e=.returned (.tuple #[.int .i64 (askR s f),.bool true])∧Below w.heap.size w w':=by
 have hk:=known_any b s f hl w q;rw[ht] at hk;have hlt:=q.lt;have hl':(f:Int) < 64:=by omega
 have hgf:=hg.1 f hl;have hga:=hg.2 (s.fs f).acc hgf.1;obtain⟨c0,c1,c2,c3⟩:=q.fcell f hl;obtain⟨a0,a1⟩:=q.acell (s.fs f).acc hgf.1;have hsum:=fun W (h:Lq W b s)=>sums_any b s hg.1 (s.fs f).acc W h;have hrb:=rs_bd hg.1 (s.fs f).acc 64 (by omega);have hbb:=bs_bd hg.1 (s.fs f).acc 64 (by omega);have hob:=os_bd hg.1 (s.fs f).acc 64 (by omega);obtain⟨r,hr⟩:∃ r,askR s f=r:=⟨_,rfl⟩;rw[hr];unfold askR at hr;rw[ht] at c0;generalize rs s.fs (s.fs f).acc 64=R at *;generalize bs s.fs (s.fs f).acc 64=B at *;generalize os s.fs (s.fs f).acc 64=O at *;generalize (s.ac (s.fs f).acc).lim=L at *;rcases hf:s.fs f with ⟨th,acc,res,bu⟩;rw[hf] at hgf ht c1 c2 c3 a0 a1 hsum hr;unfold goodf at hgf;dsimp only at hgf ht c1 c2 c3 a0 a1 hsum hr;subst ht;obtain⟨g1,g2,g3,g4,g5⟩:=hgf;clear hf hg;have hacc':(acc:Int) < 16:=by omega
 have hbn:¬ b=w.heap.size:=by omega
 have hq2:Lq (w.alloc (.cells #[.bool true,.int .i64 acc,.int .i64 res,.int .i64 bu] 144)) b s:=q.below ((Below.refl _ _).alloc (Nat.le_refl _) _);obtain⟨d0,d1⟩:(w.alloc (.cells #[.bool true,.int .i64 acc,.int .i64 res,.int .i64 bu] 144)).cell? ⟨b,acc*2,none⟩=some (.bool (s.ac acc).th)∧(w.alloc (.cells #[.bool true,.int .i64 acc,.int .i64 res,.int .i64 bu] 144)).cell? ⟨b,acc*2+1,none⟩=some (.int .i64 L):=
  ⟨(World.cell?_alloc_lt _ _ _ hlt).trans a0,(World.cell?_alloc_lt _ _ _ hlt).trans a1⟩
 have HM:∀ W,Below (w.alloc (.cells #[.bool true,.int .i64 acc,.int .i64 res,.int .i64 bu] 144)).heap.size (w.alloc (.cells #[.bool true,.int .i64 acc,.int .i64 res,.int .i64 bu] 144)) W→W.cell? ⟨w.heap.size,1,none⟩=some (.int .i64 acc)∧W.cell? ⟨w.heap.size,2,none⟩=some (.int .i64 res)∧W.cell? ⟨w.heap.size,3,none⟩=some (.int .i64 bu):=fun W hW=>by
  have hb:W.heap[w.heap.size]?=some (.cells #[.bool true,.int .i64 acc,.int .i64 res,.int .i64 bu] 144 (0,0)):=(hW.block _ (by simp)).trans (heap_alloc_new _ _);exact⟨cell_of hb,cell_of hb,cell_of hb⟩
 have HM:=Lib.hid HM;have hBal:Below w.heap.size w (w.alloc (.cells #[.bool true,.int .i64 acc,.int .i64 res,.int .i64 bu] 144)):=(Below.refl _ _).alloc (Nat.le_refl _) _;have HB:=Lib.hid hBal;have HQ:=Lib.hid hq2;clear hq2 hBal q a0 a1;have hways:(0 < res∧res≤bu∧r=1)∨(0 < res∧bu < res∧L≤B∧r=2)∨(0 < res∧bu < res∧B < L∧(res == 0)=false∧r=0)∨(res=0∧L≤B∧r=2)∨(res=0∧B < L∧L - R≤O∧r=2)∨(res=0∧B < L∧O < L - R∧r=0):=by
  rw[← hr];by_cases h1:0 < res
  ·by_cases h2:res≤bu
   ·left;exact⟨h1,h2,if_pos ⟨h1,h2⟩⟩
   ·rw[if_neg (fun h=>h2 h.2)]
    by_cases h3:L≤B
    ·right;left;exact⟨h1,by omega,h3,if_pos h3⟩
    ·right;right;left
     rw[if_neg h3,if_neg (by omega)];exact⟨h1,by omega,by omega,by simp;omega,rfl⟩
  ·have h0:res=0:=by omega
   rw[if_neg (fun h=>h1 h.1)];by_cases h3:L≤B
   ·right;right;right;left;exact⟨h0,h3,if_pos h3⟩
   ·rw[if_neg h3]
    by_cases h4:L - R≤O
    ·right;right;right;right;left;exact⟨h0,by omega,h4,if_pos ⟨h0,h4⟩⟩
    ·right;right;right;right;right;exact⟨h0,by omega,by omega,if_neg (by omega)⟩
 clear hr;rcases hways with ⟨p1,p2,rfl⟩|⟨p1,p2,p3,rfl⟩|⟨p1,p2,p3,p4,rfl⟩|⟨rfl,p3,rfl⟩|⟨rfl,p3,p4,rfl⟩|⟨rfl,p3,p4,rfl⟩
 ·go_enter Tryz.func88,Tryz.ntmps88
  go_wp2_with fail
  refine hk.mono ?_;rintro e w1 ⟨rfl,rfl⟩;go_wp2_with fail
  go_quiet (fail)
  obtain⟨v,hv⟩:∃ v,(w.alloc (.cells #[.bool true,.int .i64 acc,.int .i64 res,.int .i64 bu] 144))=v:=⟨_,rfl⟩;have hqv:=HQ.out;have hBv:=HB.out;have hMv:=HM.out;rw[hv] at hqv hBv hMv ⊢;clear HM HQ HB d0 d1;have hqv:=hqv.below (below_drewN (Below.refl _ _) nq);have hBv:=below_drewN hBv nq;obtain⟨m1,m2,m3⟩:=hMv _ (below_drewN (Below.refl _ _) nq);have hMv:=fun W (h:Below (v.drewN nq).heap.size (v.drewN nq) W)=>hMv W ((below_drewN (Below.refl v.heap.size v) nq).trans h);have HMv:=Lib.hid hMv;clear hMv hv;generalize v.drewN nq=v1 at *;go_wp2_with fail
  refine(hsum _ hqv).mono ?_;rintro e v2 ⟨rfl,hB2⟩;have hBw:=hBv.trans (hB2.mono hBv.size);clear m1 m2 m3;obtain⟨m1,m2,m3⟩:=HMv.out v2 hB2;clear HMv;go_wp2_with fail
  go_returns
  exact⟨rfl,hBw⟩
 ·have p2':¬ res≤bu:=by omega
  go_enter Tryz.func88,Tryz.ntmps88
  go_wp2_with fail
  refine hk.mono ?_;rintro e w1 ⟨rfl,rfl⟩;go_wp2_with fail
  go_quiet (fail)
  obtain⟨v,hv⟩:∃ v,(w.alloc (.cells #[.bool true,.int .i64 acc,.int .i64 res,.int .i64 bu] 144))=v:=⟨_,rfl⟩;have hqv:=HQ.out;have hBv:=HB.out;have hMv:=HM.out;rw[hv] at hqv hBv hMv ⊢;clear HM HQ HB d0 d1;have hqv:=hqv.below (below_drewN (Below.refl _ _) nq);have hBv:=below_drewN hBv nq;obtain⟨m1,m2,m3⟩:=hMv _ (below_drewN (Below.refl _ _) nq);have hMv:=fun W (h:Below (v.drewN nq).heap.size (v.drewN nq) W)=>hMv W ((below_drewN (Below.refl v.heap.size v) nq).trans h);have HMv:=Lib.hid hMv;clear hMv hv;generalize v.drewN nq=v1 at *;go_wp2_with fail
  refine(hsum _ hqv).mono ?_;rintro e v2 ⟨rfl,hB2⟩;have hBw:=hBv.trans (hB2.mono hBv.size);clear m1 m2 m3;obtain⟨m1,m2,m3⟩:=HMv.out v2 hB2;clear HMv;go_wp2_with fail
  go_returns
  exact⟨rfl,hBw⟩
 ·have p2':¬ res≤bu:=by omega
  have p3':¬ L≤B:=by omega
  go_enter Tryz.func88,Tryz.ntmps88
  go_wp2_with fail
  refine hk.mono ?_;rintro e w1 ⟨rfl,rfl⟩;go_wp2_with fail
  go_quiet (fail)
  obtain⟨v,hv⟩:∃ v,(w.alloc (.cells #[.bool true,.int .i64 acc,.int .i64 res,.int .i64 bu] 144))=v:=⟨_,rfl⟩;have hqv:=HQ.out;have hBv:=HB.out;have hMv:=HM.out;rw[hv] at hqv hBv hMv ⊢;clear HM HQ HB d0 d1;have hqv:=hqv.below (below_drewN (Below.refl _ _) nq);have hBv:=below_drewN hBv nq;obtain⟨m1,m2,m3⟩:=hMv _ (below_drewN (Below.refl _ _) nq);have hMv:=fun W (h:Below (v.drewN nq).heap.size (v.drewN nq) W)=>hMv W ((below_drewN (Below.refl v.heap.size v) nq).trans h);have HMv:=Lib.hid hMv;clear hMv hv;generalize v.drewN nq=v1 at *;go_wp2_with fail
  refine(hsum _ hqv).mono ?_;rintro e v2 ⟨rfl,hB2⟩;have hBw:=hBv.trans (hB2.mono hBv.size);clear m1 m2 m3;obtain⟨m1,m2,m3⟩:=HMv.out v2 hB2;clear HMv;go_wp2_with fail
  go_returns
  exact⟨rfl,hBw⟩
 ·go_enter Tryz.func88,Tryz.ntmps88
  go_wp2_with fail
  refine hk.mono ?_;rintro e w1 ⟨rfl,rfl⟩;go_wp2_with fail
  go_quiet (fail)
  obtain⟨v,hv⟩:∃ v,(w.alloc (.cells #[.bool true,.int .i64 acc,.int .i64 0,.int .i64 bu] 144))=v:=⟨_,rfl⟩;have hqv:=HQ.out;have hBv:=HB.out;have hMv:=HM.out;rw[hv] at hqv hBv hMv ⊢;clear HM HQ HB d0 d1;have hqv:=hqv.below (below_drewN (Below.refl _ _) nq);have hBv:=below_drewN hBv nq;obtain⟨m1,m2,m3⟩:=hMv _ (below_drewN (Below.refl _ _) nq);have hMv:=fun W (h:Below (v.drewN nq).heap.size (v.drewN nq) W)=>hMv W ((below_drewN (Below.refl v.heap.size v) nq).trans h);have HMv:=Lib.hid hMv;clear hMv hv;generalize v.drewN nq=v1 at *;go_wp2_with fail
  refine(hsum _ hqv).mono ?_;rintro e v2 ⟨rfl,hB2⟩;have hBw:=hBv.trans (hB2.mono hBv.size);clear m1 m2 m3;obtain⟨m1,m2,m3⟩:=HMv.out v2 hB2;clear HMv;go_wp2_with fail
  go_returns
  exact⟨rfl,hBw⟩
 ·have p3':¬ L≤B:=by omega
  go_enter Tryz.func88,Tryz.ntmps88
  go_wp2_with fail
  refine hk.mono ?_;rintro e w1 ⟨rfl,rfl⟩;go_wp2_with fail
  go_quiet (fail)
  obtain⟨v,hv⟩:∃ v,(w.alloc (.cells #[.bool true,.int .i64 acc,.int .i64 0,.int .i64 bu] 144))=v:=⟨_,rfl⟩;have hqv:=HQ.out;have hBv:=HB.out;have hMv:=HM.out;rw[hv] at hqv hBv hMv ⊢;clear HM HQ HB d0 d1;have hqv:=hqv.below (below_drewN (Below.refl _ _) nq);have hBv:=below_drewN hBv nq;obtain⟨m1,m2,m3⟩:=hMv _ (below_drewN (Below.refl _ _) nq);have hMv:=fun W (h:Below (v.drewN nq).heap.size (v.drewN nq) W)=>hMv W ((below_drewN (Below.refl v.heap.size v) nq).trans h);have HMv:=Lib.hid hMv;clear hMv hv;generalize v.drewN nq=v1 at *;go_wp2_with fail
  refine(hsum _ hqv).mono ?_;rintro e v2 ⟨rfl,hB2⟩;have hBw:=hBv.trans (hB2.mono hBv.size);clear m1 m2 m3;obtain⟨m1,m2,m3⟩:=HMv.out v2 hB2;clear HMv;go_wp2_with fail
  go_returns
  exact⟨rfl,hBw⟩
 ·have p3':¬ L≤B:=by omega
  have p4':¬ L - R≤O:=by omega
  go_enter Tryz.func88,Tryz.ntmps88
  go_wp2_with fail
  refine hk.mono ?_;rintro e w1 ⟨rfl,rfl⟩;go_wp2_with fail
  go_quiet (fail)
  obtain⟨v,hv⟩:∃ v,(w.alloc (.cells #[.bool true,.int .i64 acc,.int .i64 0,.int .i64 bu] 144))=v:=⟨_,rfl⟩;have hqv:=HQ.out;have hBv:=HB.out;have hMv:=HM.out;rw[hv] at hqv hBv hMv ⊢;clear HM HQ HB d0 d1;have hqv:=hqv.below (below_drewN (Below.refl _ _) nq);have hBv:=below_drewN hBv nq;obtain⟨m1,m2,m3⟩:=hMv _ (below_drewN (Below.refl _ _) nq);have hMv:=fun W (h:Below (v.drewN nq).heap.size (v.drewN nq) W)=>hMv W ((below_drewN (Below.refl v.heap.size v) nq).trans h);have HMv:=Lib.hid hMv;clear hMv hv;generalize v.drewN nq=v1 at *;go_wp2_with fail
  refine(hsum _ hqv).mono ?_;rintro e v2 ⟨rfl,hB2⟩;have hBw:=hBv.trans (hB2.mono hBv.size);clear m1 m2 m3;obtain⟨m1,m2,m3⟩:=HMv.out v2 hB2;clear HMv;go_wp2_with fail
  go_returns
  exact⟨rfl,hBw⟩
theorem begin_f0(b:Nat)(s:Lg)(f:Nat)(hl:f < 64)(ht:(s.fs f).th=false)(w:World)(q:Lq w b s):
  Calls Tryz.prog 141 #[.pointer (some ⟨b,0,none⟩),.int .i64 f] w fun e w'=>e=.returned (.bool false)∧Below w.heap.size w w':=by
 have hk:=ask_none b s f hl ht w q;go_enter Tryz.func141,Tryz.ntmps141
 go_wp2_with fail
 refine hk.mono ?_;rintro e w1 ⟨rfl,hB⟩;go_wp2_with fail
 go_ret
 exact⟨rfl,hB⟩
theorem begin_f(b:Nat)(s:Lg)(hg:Good s)(f:Nat)(hl:f < 64)(ht:(s.fs f).th=true)(hr:askR s f≠0)(w:World)(q:Lq w b s):
  Calls Tryz.prog 141 #[.pointer (some ⟨b,0,none⟩),.int .i64 f] w fun e w'=>e=.returned (.bool false)∧Below w.heap.size w w':=by
 have hk:=ask_any b s hg f hl ht w q;generalize askR s f=r at *;have hr':(r == 0)=false:=by simp[hr]
 clear hr;go_enter Tryz.func141,Tryz.ntmps141
 go_wp2_with fail
 refine hk.mono ?_;rintro e w1 ⟨rfl,hB⟩;go_wp2_with fail
 go_ret
 exact⟨rfl,hB⟩
theorem begin_t(b:Nat)(s:Lg)(hg:Good s)(f:Nat)(hl:f < 64)(ht:(s.fs f).th=true)(hr:askR s f=0)(w:World)(q:Lq w b s):
  Calls Tryz.prog 141 #[.pointer (some ⟨b,0,none⟩),.int .i64 f] w fun e w'=>e=.returned (.bool true)∧Lq w' b (s.setF f { s.fs f with bu:=(s.fs f).bu+1 })∧Kept (fun x=>x=b) w w':=by
 have hk:=ask_any b s hg f hl ht w q;rw[hr] at hk;have hl':(f:Int) < 64:=by omega
 have hgf:=hg.1 f hl;unfold goodf at hgf;obtain⟨g1,g2,g3,g4,g5⟩:=hgf;go_enter Tryz.func141,Tryz.ntmps141
 go_wp2_with fail
 refine hk.mono ?_;rintro e w1 ⟨rfl,hB⟩;have q1:=q.below hB;obtain⟨c0,c1,c2,c3⟩:=q1.fcell f hl;have f3:=q1.frozen (32+f*4+3);have HR:Hid (∀ v,Lq (w1.setCell ⟨b,32+f*4+3,none⟩ (.int .i64 v)) b (s.setF f { s.fs f with bu:=v })∧Kept (fun x=>x=b) w (w1.setCell ⟨b,32+f*4+3,none⟩ (.int .i64 v))):=fun v=>⟨q1.setBu f hl v,Kept.setb (Kept.of_below hB) _ _⟩;clear hk hr q q1 hB hg ht;go_wp2_with fail
 go_region
 all_goals
  go_wp2
  go_ret
  exact⟨rfl,(HR.out _).1.below (Below.refl _ _).drew,((HR.out _).2).drew⟩
theorem end_t(b:Nat)(s:Lg)(f:Nat)(hl:f < 64)(hgf:goodf (s.fs f))(ht:(s.fs f).th=true)(hr:(s.fs f).bu≠0)(w:World)(q:Lq w b s):
  Calls Tryz.prog 99 #[.pointer (some ⟨b,0,none⟩),.int .i64 f] w fun e w'=>e=.returned (.bool true)∧Lq w' b (s.setF f { s.fs f with bu:=(s.fs f).bu - 1 })∧Kept (fun x=>x=b) w w':=by
 have hk:=known_any b s f hl w q;rw[ht] at hk;have hl':(f:Int) < 64:=by omega
 unfold goodf at hgf;obtain⟨g1,g2,g3,g4,g5⟩:=hgf;have hr':((s.fs f).bu == 0)=false:=by simp[hr]
 obtain⟨c0,c1,c2,c3⟩:=q.fcell f hl;have f3:=q.frozen (32+f*4+3);have HR:Hid (∀ v,Lq (w.setCell ⟨b,32+f*4+3,none⟩ (.int .i64 v)) b (s.setF f { s.fs f with bu:=v })∧Kept (fun x=>x=b) w (w.setCell ⟨b,32+f*4+3,none⟩ (.int .i64 v))):=fun v=>⟨q.setBu f hl v,Kept.setb (Kept.refl _ _) _ _⟩;clear q hr;go_enter Tryz.func99,Tryz.ntmps99
 go_wp2_with fail
 refine hk.mono ?_;rintro e w1 ⟨rfl,rfl⟩;clear hk;go_wp2_with fail
 go_region
 all_goals
  go_wp2
  go_ret
  exact⟨rfl,(HR.out _).1.below (Below.refl _ _).drew,((HR.out _).2).drew⟩
theorem end_f(b:Nat)(s:Lg)(f:Nat)(hl:f < 64)(hr:(s.fs f).th=false∨(s.fs f).bu=0)(w:World)(q:Lq w b s):
  Calls Tryz.prog 99 #[.pointer (some ⟨b,0,none⟩),.int .i64 f] w fun e w'=>e=.returned (.bool false)∧w=w':=by
 have hk:=known_any b s f hl w q;have hl':(f:Int) < 64:=by omega
 obtain⟨c0,c1,c2,c3⟩:=q.fcell f hl;cases ht:(s.fs f).th
 ·rw[ht] at hk
  go_enter Tryz.func99,Tryz.ntmps99
  go_wp2_with fail
  refine hk.mono ?_;rintro e w1 ⟨rfl,rfl⟩;go_wp2_with fail
  go_ret
  exact⟨rfl,rfl⟩
 ·have hr:(s.fs f).bu=0:=by rcases hr with h | h;rw[ht] at h;cases h;exact h
  rw[ht] at hk;rw[hr] at c3;go_enter Tryz.func99,Tryz.ntmps99
  go_wp2_with fail
  refine hk.mono ?_;rintro e w1 ⟨rfl,rfl⟩;go_wp2_with fail
  go_ret
  exact⟨rfl,rfl⟩
theorem setA_t(b:Nat)(s:Lg)(hg:Good s)(a:Nat)(ha:a < 16)(n:Int)(hn:0≤n)(hm:n≤1000)(hr:rs s.fs a 64≤n)(w:World)(q:Lq w b s):
  Calls Tryz.prog 72 #[.pointer (some ⟨b,0,none⟩),.int .i64 a,.int .i64 n] w fun e w'=>e=.returned (.int .i64 0)∧Lq w' b (s.setA a ⟨true,n⟩)∧Kept (fun x=>x=b) w w':=by
 have hk:=sums_any b s hg.1 a w q;generalize rs s.fs a 64=R at *;generalize bs s.fs a 64=B at *;generalize os s.fs a 64=O at *;have h1:¬ (16:Int)≤a:=by omega
 have h2:¬ n < 0:=by omega
 have h3:¬ 1000 < n:=by omega
 have h4:¬ n < R:=by omega
 go_enter Tryz.func72,Tryz.ntmps72
 go_wp2_with fail
 refine hk.mono ?_;rintro e w1 ⟨rfl,hB⟩;have q1:=q.below hB;obtain⟨c0,c1⟩:=q1.acell a ha;have f0:=q1.frozen (a*2);have f1:=q1.frozen (a*2+1);have hq2:=q1.seta a ha true n;have hk2:=Kept.setb (Kept.setb (Kept.of_below (F:=fun x=>x=b) hB) (a*2) (.bool true)) (a*2+1) (.int .i64 n);clear hk q q1 hg;go_wp2_with fail
 go_ret
 exact⟨rfl,hq2,hk2⟩
theorem setA_f(b:Nat)(s:Lg)(hg:Good s)(a:Nat)(ha:a < 16)(n:Int)(hn:0≤n)(hm:n≤1000)(hr:n < rs s.fs a 64)(w:World)(q:Lq w b s):
  Calls Tryz.prog 72 #[.pointer (some ⟨b,0,none⟩),.int .i64 a,.int .i64 n] w fun e w'=>e=.returned (.int .i64 4)∧Below w.heap.size w w':=by
 have hk:=sums_any b s hg.1 a w q;generalize rs s.fs a 64=R at *;generalize bs s.fs a 64=B at *;generalize os s.fs a 64=O at *;have h1:¬ (16:Int)≤a:=by omega
 have h2:¬ n < 0:=by omega
 have h3:¬ 1000 < n:=by omega
 go_enter Tryz.func72,Tryz.ntmps72
 go_wp2_with fail
 refine hk.mono ?_;rintro e w1 ⟨rfl,hB⟩;clear hk q hg;go_wp2_with fail
 go_ret
 exact⟨rfl,hB⟩
theorem setF_t(b:Nat)(s:Lg)(hg:Good s)(f a:Nat)(hf:f < 64)(ha:a < 16)(n:Int)(hn:0≤n)(hm:n≤1000)(hth:(s.ac a).th=true)(hfa:(s.fs f).th=false∨(s.fs f).acc=a)
  (hr:rs s.fs a 64 - (s.fs f).res+n≤(s.ac a).lim) (w:World) (q:Lq w b s):
  Calls Tryz.prog 75 #[.pointer (some ⟨b,0,none⟩),.int .i64 f,.int .i64 a,.int .i64 n] w fun e w'=>e=.returned (.int .i64 0)∧Lq w' b (s.setF f ⟨true,a,n,(s.fs f).bu⟩)∧Kept (fun x=>x=b) w w':=by
 have hk:=sums_any b s hg.1 a w q;have hgf:=hg.1 f hf;have hga:=hg.2 a ha;have hrb:=rs_bd hg.1 a 64 (by omega);unfold goodf at hgf;obtain⟨g1,g2,g3,g4,g5⟩:=hgf;obtain⟨A0,A1⟩:=q.acell a ha;obtain⟨c0,c1,c2,c3⟩:=q.fcell f hf;generalize rs s.fs a 64=R at *;generalize bs s.fs a 64=B at *;generalize os s.fs a 64=O at *;rw[hth] at A0;have h1:¬ (16:Int)≤a:=by omega
 have h1':¬ (64:Int)≤f:=by omega
 have h2:¬ n < 0:=by omega
 have h3:¬ 1000 < n:=by omega
 have h4:¬ (s.ac a).lim < R - (s.fs f).res+n:=by omega
 have HX:∀ W,Lq W b s→Lq (((W.setCell ⟨b,32+f*4,none⟩ (.bool true)).setCell ⟨b,32+f*4+1,none⟩ (.int .i64 a)).setCell ⟨b,32+f*4+2,none⟩ (.int .i64 n)) b (s.setF f ⟨true,a,n,(s.fs f).bu⟩):=fun W h=>by
  have:=((h.setTh f hf true).setAcc f hf a).setRes f hf n;simpa only [setF_setF,setF_at] using this
 have HX:=Lib.hid HX;have hts:(s.fs f).th=false∨((s.fs f).th=true∧(s.fs f).acc=a):=by
  rcases hfa with h|h
  ·exact .inl h
  ·cases ht:(s.fs f).th
   ·exact .inl rfl
   ·exact .inr ⟨rfl,h⟩
 clear hfa hr;rcases hts with ht|⟨ht,hac⟩
 ·rw[ht] at c0
  clear hg;go_enter Tryz.func75,Tryz.ntmps75
  go_wp2_with fail
  refine hk.mono ?_;rintro e w1 ⟨rfl,hB⟩;have q1:=q.below hB;obtain⟨A0,A1⟩:=q1.acell a ha;obtain⟨c0,c1,c2,c3⟩:=q1.fcell f hf;clear hk q;go_wp2_with fail
  go_quiet (fail)
  have q2:=q1.below (below_drewN (Below.refl _ _) nq);have k2:=(Kept.of_below (F:=fun x=>x=b) hB).drewN nq;clear A0 A1 c0 c1 c2 c3 q1 hB;generalize w1.drewN nq=v at *;go_wp2_with fail
  obtain⟨c0,c1,c2,c3⟩:=q2.fcell f hf;have f0:=q2.frozen (32+f*4);have f1:=q2.frozen (32+f*4+1);have f2:=q2.frozen (32+f*4+2);have HR:=Lib.hid (HX.out v q2);have HK:=Lib.hid (Kept.setb (Kept.setb (Kept.setb k2 (32+f*4) (.bool true)) (32+f*4+1) (.int .i64 a)) (32+f*4+2) (.int .i64 n));clear HX q2 k2;go_region
  all_goals
   go_wp2
   go_ret
   exact⟨rfl,HR.out.below (Below.refl _ _).drew,HK.out.drew⟩
 ·rw[ht] at c0
  rw[hac] at c1;clear hg;go_enter Tryz.func75,Tryz.ntmps75
  go_wp2_with fail
  refine hk.mono ?_;rintro e w1 ⟨rfl,hB⟩;have q1:=q.below hB;obtain⟨A0,A1⟩:=q1.acell a ha;obtain⟨c0,c1,c2,c3⟩:=q1.fcell f hf;clear hk q;go_wp2_with fail
  go_quiet (fail)
  have q2:=q1.below (below_drewN (Below.refl _ _) nq);have k2:=(Kept.of_below (F:=fun x=>x=b) hB).drewN nq;clear A0 A1 c0 c1 c2 c3 q1 hB;generalize w1.drewN nq=v at *;go_wp2_with fail
  obtain⟨c0,c1,c2,c3⟩:=q2.fcell f hf;have f0:=q2.frozen (32+f*4);have f1:=q2.frozen (32+f*4+1);have f2:=q2.frozen (32+f*4+2);have HR:=Lib.hid (HX.out v q2);have HK:=Lib.hid (Kept.setb (Kept.setb (Kept.setb k2 (32+f*4) (.bool true)) (32+f*4+1) (.int .i64 a)) (32+f*4+2) (.int .i64 n));clear HX q2 k2;go_region
  all_goals
   go_wp2
   go_ret
   exact⟨rfl,HR.out.below (Below.refl _ _).drew,HK.out.drew⟩
theorem setF_f(b:Nat)(s:Lg)(hg:Good s)(f a:Nat)(hf:f < 64)(ha:a < 16)(n:Int)(hn:0≤n)(hm:n≤1000)(hth:(s.ac a).th=true)(hfa:(s.fs f).th=false∨(s.fs f).acc=a)
  (hr:(s.ac a).lim < rs s.fs a 64 - (s.fs f).res+n) (w:World) (q:Lq w b s):
  Calls Tryz.prog 75 #[.pointer (some ⟨b,0,none⟩),.int .i64 f,.int .i64 a,.int .i64 n] w fun e w'=>e=.returned (.int .i64 4)∧Below w.heap.size w w':=by
 have hk:=sums_any b s hg.1 a w q;have hgf:=hg.1 f hf;have hga:=hg.2 a ha;have hrb:=rs_bd hg.1 a 64 (by omega);unfold goodf at hgf;obtain⟨g1,g2,g3,g4,g5⟩:=hgf;obtain⟨A0,A1⟩:=q.acell a ha;obtain⟨c0,c1,c2,c3⟩:=q.fcell f hf;generalize rs s.fs a 64=R at *;generalize bs s.fs a 64=B at *;generalize os s.fs a 64=O at *;rw[hth] at A0;have h1:¬ (16:Int)≤a:=by omega
 have h1':¬ (64:Int)≤f:=by omega
 have h2:¬ n < 0:=by omega
 have h3:¬ 1000 < n:=by omega
 have hts:(s.fs f).th=false∨((s.fs f).th=true∧(s.fs f).acc=a):=by
  rcases hfa with h|h
  ·exact .inl h
  ·cases ht:(s.fs f).th
   ·exact .inl rfl
   ·exact .inr ⟨rfl,h⟩
 clear hfa;rcases hts with ht|⟨ht,hac⟩
 ·rw[ht] at c0
  clear hg;go_enter Tryz.func75,Tryz.ntmps75
  go_wp2_with fail
  refine hk.mono ?_;rintro e w1 ⟨rfl,hB⟩;have q1:=q.below hB;obtain⟨A0,A1⟩:=q1.acell a ha;obtain⟨c0,c1,c2,c3⟩:=q1.fcell f hf;clear hk q;go_wp2_with fail
  go_quiet (fail)
  go_wp2_with fail
  go_ret
  exact⟨rfl,below_drewN hB _⟩
 ·rw[ht] at c0
  rw[hac] at c1;clear hg;go_enter Tryz.func75,Tryz.ntmps75
  go_wp2_with fail
  refine hk.mono ?_;rintro e w1 ⟨rfl,hB⟩;have q1:=q.below hB;obtain⟨A0,A1⟩:=q1.acell a ha;obtain⟨c0,c1,c2,c3⟩:=q1.fcell f hf;clear hk q;go_wp2_with fail
  go_quiet (fail)
  go_wp2_with fail
  go_ret
  exact⟨rfl,below_drewN hB _⟩
end Go.Proofs.YtigeldkbfbcpmaaGreat.P11
