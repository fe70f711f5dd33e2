/- A part of the proof: what the functions of the program come to, and what holds at all times. -/
import Derived.Test.YtigeldkbfbcpmaaGreatRows
import Derived.BigRegion
import Derived.BigQuiet
import Derived.Handy
import Derived.Laws.LoneSync
import Derived.Test.YtigeldkbfbcpmaaGreatM01
import Derived.Test.YtigeldkbfbcpmaaGreatM07
import Derived.Test.YtigeldkbfbcpmaaGreatM03
set_option linter.unusedVariables false
set_option linter.unusedSectionVars false
set_option linter.unusedSimpArgs false
set_option maxRecDepth 100000
set_option maxHeartbeats 8000000
namespace Go.Proofs.YtigeldkbfbcpmaaGreat.P12
open Go.RowKit Go.Kpt
structure Bx where
 id:Int
 fn:Int
 host:Int
 mem:Int
 st:Nat
 bound:Bool
 pin:Bool
 since:Int
def bc(x:Bx):Array Value:=#[.int .i64 x.id,.int .i64 x.fn,.int .i64 x.host,.int .i64 x.mem,.int .i64 x.st,.bool x.bound,.bool x.pin,.int .i64 x.since]
def Bq(w:World)(b:Nat)(x:Bx):Prop:=w.heap[b]?=some (.cells (bc x) 70 (0,0))
theorem Bq.kept{F:Nat→Prop}{w w':World}{b:Nat}{x:Bx}(h:Bq w b x)(k:Kept F w w')(hF:¬ F b):Bq w' b x:=(k.block b (lt_of h) hF).trans h
def call(x:Bx)(now:Int):Bx×Bool:=
 if x.st=1 then ({ x with st:=2,since:=now },true)
 else if x.st=0∧x.bound=false then ({ x with bound:=true },true)
 else (x,false)
def booted(x:Bx)(now:Int):Bx×Bool:=
 if x.st=0 then (if x.bound then { x with st:=2,bound:=false,since:=now } else { x with st:=1,since:=now },true)
 else (x,false)
def done(x:Bx)(now:Int):Bx×Bool:=if x.st=2 then ({ x with st:=1,since:=now },true) else (x,false)
def kill(x:Bx)(now:Int):Bx×Bool:=if x.st=3 then (x,false) else ({ x with st:=3,bound:=false,pin:=false,since:=now },true)
def runs(x:Bx):Bool:=x.st == 2 || (x.st == 0 && x.bound)
def idle(x:Bx):Bool:=x.st == 1
theorem Bq.cells{w:World}{b:Nat}{x:Bx}(h:Bq w b x):
  w.cell? ⟨b,0,none⟩=some (.int .i64 x.id)∧w.cell? ⟨b,1,none⟩=some (.int .i64 x.fn)∧w.cell? ⟨b,2,none⟩=some (.int .i64 x.host)∧w.cell? ⟨b,3,none⟩=some (.int .i64 x.mem) ∧
  w.cell? ⟨b,4,none⟩=some (.int .i64 x.st)∧w.cell? ⟨b,5,none⟩=some (.bool x.bound)∧w.cell? ⟨b,6,none⟩=some (.bool x.pin)∧w.cell? ⟨b,7,none⟩=some (.int .i64 x.since):=
 ⟨cell_of h,cell_of h,cell_of h,cell_of h,cell_of h,cell_of h,cell_of h,cell_of h⟩
theorem Bq.frozen{w:World}{b:Nat}{x:Bx}(h:Bq w b x)(j:Nat):w.frozen? ⟨b,j,none⟩=false:=frozen_of h
theorem Bq.setSt{w:World}{b:Nat}{x:Bx}(h:Bq w b x)(v:Nat):Bq (w.setCell ⟨b,4,none⟩ (.int .i64 v)) b { x with st:=v }:=set_same _ h
theorem Bq.setBound{w:World}{b:Nat}{x:Bx}(h:Bq w b x)(v:Bool):Bq (w.setCell ⟨b,5,none⟩ (.bool v)) b { x with bound:=v }:=set_same _ h
theorem Bq.setPin{w:World}{b:Nat}{x:Bx}(h:Bq w b x)(v:Bool):Bq (w.setCell ⟨b,6,none⟩ (.bool v)) b { x with pin:=v }:=set_same _ h
theorem Bq.setSince{w:World}{b:Nat}{x:Bx}(h:Bq w b x)(v:Int):Bq (w.setCell ⟨b,7,none⟩ (.int .i64 v)) b { x with since:=v }:=set_same _ h
theorem Kept.setb{a w:World}{b:Nat}(h:Kept (fun x=>x=b) a w)(i:Nat)(u:Value):Kept (fun x=>x=b) a (w.setCell ⟨b,i,none⟩ u):=h.setCell (p:=⟨b,i,none⟩) (fun _=>rfl) u
theorem call_any(b:Nat)(x:Bx)(now:Int)(w:World)(h:Bq w b x)(hs:x.st < 4):
  Calls Tryz.prog 142 #[.pointer (some ⟨b,0,none⟩),.int .i64 now] w fun e w'=>e=.returned (.bool (call x now).2)∧Bq w' b (call x now).1∧Kept (fun x=>x=b) w w':=by
 obtain⟨id,fn,ho,mem,st,bo,pi,si⟩:=x;obtain⟨-,-,-,-,c4,c5,-,c7⟩:=h.cells;have f4:=h.frozen 4;have f5:=h.frozen 5;have f7:=h.frozen 7;have hst:st=0∨st=1∨st=2∨st=3:=by simp at hs;omega
 rcases hst with rfl|rfl|rfl|rfl <;> cases bo
 all_goals
  go_enter Tryz.func142,Tryz.ntmps142
  go_wp2_with fail
  go_ret
  exact⟨rfl,by first | exact h | exact(h.setSt 2).setSince now | exact h.setBound true,by repeat' first | exact Kept.refl _ _ | refine Kept.setb ?_ _ _⟩
theorem booted_any(b:Nat)(x:Bx)(now:Int)(w:World)(h:Bq w b x)(hs:x.st < 4):
  Calls Tryz.prog 95 #[.pointer (some ⟨b,0,none⟩),.int .i64 now] w fun e w'=>e=.returned (.bool (booted x now).2)∧Bq w' b (booted x now).1∧Kept (fun x=>x=b) w w':=by
 obtain⟨id,fn,ho,mem,st,bo,pi,si⟩:=x;obtain⟨-,-,-,-,c4,c5,-,c7⟩:=h.cells;have f4:=h.frozen 4;have f5:=h.frozen 5;have f7:=h.frozen 7;have hst:st=0∨st=1∨st=2∨st=3:=by simp at hs;omega
 rcases hst with rfl|rfl|rfl|rfl <;> cases bo
 all_goals
  go_enter Tryz.func95,Tryz.ntmps95
  go_wp2_with fail
  go_ret
  exact⟨rfl,by first | exact h | exact(h.setSt 1).setSince now | exact(((h.setSt 1).setSince now).setSt 2).setBound false,by repeat' first | exact Kept.refl _ _ | refine Kept.setb ?_ _ _⟩
theorem done_any(b:Nat)(x:Bx)(now:Int)(w:World)(h:Bq w b x)(hs:x.st < 4):
  Calls Tryz.prog 98 #[.pointer (some ⟨b,0,none⟩),.int .i64 now] w fun e w'=>e=.returned (.bool (done x now).2)∧Bq w' b (done x now).1∧Kept (fun x=>x=b) w w':=by
 obtain⟨id,fn,ho,mem,st,bo,pi,si⟩:=x;obtain⟨-,-,-,-,c4,c5,-,c7⟩:=h.cells;have f4:=h.frozen 4;have f5:=h.frozen 5;have f7:=h.frozen 7;have hst:st=0∨st=1∨st=2∨st=3:=by simp at hs;omega
 rcases hst with rfl|rfl|rfl|rfl
 all_goals
  go_enter Tryz.func98,Tryz.ntmps98
  go_wp2_with fail
  go_ret
  exact⟨rfl,by first | exact h | exact(h.setSt 1).setSince now,by repeat' first | exact Kept.refl _ _ | refine Kept.setb ?_ _ _⟩
theorem kill_any(b:Nat)(x:Bx)(now:Int)(w:World)(h:Bq w b x)(hs:x.st < 4):
  Calls Tryz.prog 135 #[.pointer (some ⟨b,0,none⟩),.int .i64 now] w fun e w'=>e=.returned (.bool (kill x now).2)∧Bq w' b (kill x now).1∧Kept (fun x=>x=b) w w':=by
 obtain⟨id,fn,ho,mem,st,bo,pi,si⟩:=x;obtain⟨-,-,-,-,c4,c5,c6,c7⟩:=h.cells;have f4:=h.frozen 4;have f5:=h.frozen 5;have f6:=h.frozen 6;have f7:=h.frozen 7;have hst:st=0∨st=1∨st=2∨st=3:=by simp at hs;omega
 rcases hst with rfl|rfl|rfl|rfl
 all_goals
  go_enter Tryz.func135,Tryz.ntmps135
  go_wp2_with fail
  go_ret
  exact⟨rfl,by first | exact h | exact(((h.setSt 3).setBound false).setPin false).setSince now,by repeat' first | exact Kept.refl _ _ | refine Kept.setb ?_ _ _⟩
theorem runs_any(b:Nat)(x:Bx)(w:World)(h:Bq w b x)(hs:x.st < 4):
  Calls Tryz.prog 83 #[.pointer (some ⟨b,0,none⟩)] w fun e w'=>e=.returned (.bool (runs x))∧Below w.heap.size w w':=by
 obtain⟨id,fn,ho,mem,st,bo,pi,si⟩:=x;obtain⟨-,-,-,-,c4,c5,-,-⟩:=h.cells;have hst:st=0∨st=1∨st=2∨st=3:=by simp at hs;omega
 rcases hst with rfl|rfl|rfl|rfl <;> cases bo
 all_goals
  go_enter Tryz.func83,Tryz.ntmps83
  go_wp2_with fail
  try (go_quiet (fail);go_wp2_with fail)
  go_ret
  exact⟨rfl,by first | exact Below.refl _ _ | exact below_drewN (Below.refl _ _) _⟩
theorem idle_any(b:Nat)(x:Bx)(w:World)(h:Bq w b x)(hs:x.st < 4):
  Calls Tryz.prog 96 #[.pointer (some ⟨b,0,none⟩)] w fun e w'=>e=.returned (.bool (idle x))∧w=w':=by
 obtain⟨id,fn,ho,mem,st,bo,pi,si⟩:=x;obtain⟨-,-,-,-,c4,c5,-,-⟩:=h.cells;have hst:st=0∨st=1∨st=2∨st=3:=by simp at hs;omega
 rcases hst with rfl|rfl|rfl|rfl
 all_goals
  go_enter Tryz.func96,Tryz.ntmps96
  go_wp2_with fail
  go_ret
  exact⟨rfl,rfl⟩
theorem new_any(id fn ho mem now:Int)(w:World):
  Calls Tryz.prog 147 #[.int .i64 id,.int .i64 fn,.int .i64 ho,.int .i64 mem,.int .i64 now] w fun e w'=>e=.returned (.pointer (some ⟨w.heap.size,0,none⟩))∧Bq w' w.heap.size ⟨id,fn,ho,mem,0,false,false,now⟩∧Below w.heap.size w w'∧w'.heap.size=w.heap.size+1:=by
 go_enter Tryz.func147,Tryz.ntmps147
 go_wp2_with fail
 go_ret
 exact⟨rfl,heap_alloc_new _ _,by go_grown,by simp⟩
end Go.Proofs.YtigeldkbfbcpmaaGreat.P12
namespace Go.Proofs.YtigeldkbfbcpmaaGreat.P13
open Go.RowKit Go.Kpt
structure Ma where
 th:Bool
 dr:Bool
 sz:Int
 us:Int
def Hq(w:World)(b:Nat)(f:Nat→Ma):Prop:=
 ∃ cs:Array Value,w.heap[b]?=some (.cells cs 155 (0,0))∧cs.size=128∧∀ h,h < 32→cs[h*4]?=some (.bool (f h).th)∧cs[h*4+1]?=some (.bool (f h).dr)∧cs[h*4+2]?=some (.int .i64 (f h).sz)∧cs[h*4+3]?=some (.int .i64 (f h).us)
theorem Hq.lt{w:World}{b:Nat}{f:Nat→Ma}(h:Hq w b f):b < w.heap.size:=by obtain⟨cs,h,-⟩:=h;exact lt_of h
theorem Hq.below{w w':World}{b:Nat}{f:Nat→Ma}(h:Hq w b f)(hB:Below w.heap.size w w'):Hq w' b f:=by
 obtain⟨cs,h,h2⟩:=h;exact⟨cs,(hB.block b (lt_of h)).trans h,h2⟩
theorem Hq.kept{F:Nat→Prop}{w w':World}{b:Nat}{f:Nat→Ma}(h:Hq w b f)(k:Kept F w w')(hF:¬ F b):Hq w' b f:=by
 obtain⟨cs,h,h2⟩:=h;exact⟨cs,(k.block b (lt_of h) hF).trans h,h2⟩
theorem Hq.cells{w:World}{b:Nat}{f:Nat→Ma}(q:Hq w b f)(h:Nat)(hl:h < 32):
  w.cell? ⟨b,h*4,none⟩=some (.bool (f h).th)∧w.cell? ⟨b,h*4+1,none⟩=some (.bool (f h).dr)∧w.cell? ⟨b,h*4+2,none⟩=some (.int .i64 (f h).sz)∧w.cell? ⟨b,h*4+3,none⟩=some (.int .i64 (f h).us):=by
 obtain⟨cs,h1,hs,h2⟩:=q;obtain⟨a,b1,c,d⟩:=h2 h hl;exact⟨(cell_of h1).trans a,(cell_of h1).trans b1,(cell_of h1).trans c,(cell_of h1).trans d⟩
theorem Hq.frozen{w:World}{b:Nat}{f:Nat→Ma}(q:Hq w b f)(j:Nat):w.frozen? ⟨b,j,none⟩=false:=by
 obtain⟨cs,h1,-⟩:=q;exact frozen_of h1
def put(f:Nat→Ma)(h:Nat)(m:Ma):Nat→Ma:=fun k=>if k=h then m else f k
theorem put_same(f:Nat→Ma)(h:Nat)(m:Ma):put f h m h=m:=by simp[put]
theorem put_ne(f:Nat→Ma)(h:Nat)(m:Ma)(k:Nat)(hk:k≠h):put f h m k=f k:=by simp[put,hk]
theorem put_put(f:Nat→Ma)(h:Nat)(m n:Ma):put (put f h m) h n=put f h n:=by funext k;simp only[put];split <;> rfl
theorem put_self(f:Nat→Ma)(h:Nat):put f h (f h)=f:=by funext k;simp only[put];split <;> simp_all
theorem Hq.set{w:World}{b:Nat}{f:Nat→Ma}(q:Hq w b f)(h:Nat)(hl:h < 32)(j:Nat)(hj:j < 4)(v:Value)(m:Ma)
  (h0:(if j=0 then v else .bool (f h).th)=.bool m.th) (h1:(if j=1 then v else .bool (f h).dr)=.bool m.dr)
  (h2:(if j=2 then v else .int .i64 (f h).sz)=.int .i64 m.sz) (h3:(if j=3 then v else .int .i64 (f h).us)=.int .i64 m.us):
  Hq (w.setCell ⟨b,h*4+j,none⟩ v) b (put f h m):=by
 obtain⟨cs,hb,hs,hc⟩:=q;refine⟨cs.setIfInBounds (h*4+j) v,set_same v hb,by simp[hs],fun k hk=>?_⟩;obtain⟨a0,a1,a2,a3⟩:=hc k hk;by_cases hkh:k=h
 ·subst hkh
  rw[put_same];have hj4:j=0∨j=1∨j=2∨j=3:=by omega
  rcases hj4 with rfl|rfl|rfl|rfl <;> simp only[Array.getElem?_setIfInBounds] <;> simp_all <;> omega
 ·rw[put_ne _ _ _ _ hkh]
  simp only[Array.getElem?_setIfInBounds];rw[if_neg (by omega),if_neg (by omega),if_neg (by omega),if_neg (by omega)];exact⟨a0,a1,a2,a3⟩
theorem Hq.setTh{w:World}{b:Nat}{f:Nat→Ma}(q:Hq w b f)(h:Nat)(hl:h < 32)(v:Bool):Hq (w.setCell ⟨b,h*4,none⟩ (.bool v)) b (put f h { f h with th:=v }):=q.set h hl 0 (by omega) _ _ rfl rfl rfl rfl
theorem Hq.setDr{w:World}{b:Nat}{f:Nat→Ma}(q:Hq w b f)(h:Nat)(hl:h < 32)(v:Bool):Hq (w.setCell ⟨b,h*4+1,none⟩ (.bool v)) b (put f h { f h with dr:=v }):=q.set h hl 1 (by omega) _ _ rfl rfl rfl rfl
theorem Hq.setSz{w:World}{b:Nat}{f:Nat→Ma}(q:Hq w b f)(h:Nat)(hl:h < 32)(v:Int):Hq (w.setCell ⟨b,h*4+2,none⟩ (.int .i64 v)) b (put f h { f h with sz:=v }):=q.set h hl 2 (by omega) _ _ rfl rfl rfl rfl
theorem Hq.setUs{w:World}{b:Nat}{f:Nat→Ma}(q:Hq w b f)(h:Nat)(hl:h < 32)(v:Int):Hq (w.setCell ⟨b,h*4+3,none⟩ (.int .i64 v)) b (put f h { f h with us:=v }):=q.set h hl 3 (by omega) _ _ rfl rfl rfl rfl
theorem Kept.setb{a w:World}{b:Nat}(h:Kept (fun x=>x=b) a w)(i:Nat)(u:Value):Kept (fun x=>x=b) a (w.setCell ⟨b,i,none⟩ u):=h.setCell (p:=⟨b,i,none⟩) (fun _=>rfl) u
def zc:Array Value:=((List.replicate 32 [Value.bool false,.bool false,.int .i64 0,.int .i64 0]).flatten).toArray
theorem zero41(w:World):(zeroValue 155).run Tryz.prog w=.ok (.agg zc) w:=by kernel_rfl
theorem zc_size:zc.size=128:=by kernel_rfl
theorem zc_at(h:Nat)(hl:h < 32):zc[h*4]?=some (.bool false)∧zc[h*4+1]?=some (.bool false)∧zc[h*4+2]?=some (.int .i64 0)∧zc[h*4+3]?=some (.int .i64 0):=by
 have:h=0∨h=1∨h=2∨h=3∨h=4∨h=5∨h=6∨h=7∨h=8∨h=9∨h=10∨h=11∨h=12∨h=13∨h=14∨h=15∨h=16∨h=17∨h=18∨h=19∨h=20∨h=21∨h=22∨h=23∨h=24∨h=25∨h=26∨h=27∨h=28∨h=29∨h=30∨h=31:=by omega
 rcases this with rfl|rfl|rfl|rfl|rfl|rfl|rfl|rfl|rfl|rfl|rfl|rfl|rfl|rfl|rfl|rfl|rfl|rfl|rfl|rfl|rfl|rfl|rfl|rfl|rfl|rfl|rfl|rfl|rfl|rfl|rfl|rfl <;> exact⟨rfl,rfl,rfl,rfl⟩
attribute [irreducible] zc
theorem new_any(w:World):
  Calls Tryz.prog 43 #[] w fun e w'=>e=.returned (.pointer (some ⟨w.heap.size,0,none⟩))∧Hq w' w.heap.size (fun _=>⟨false,false,0,0⟩)∧Below w.heap.size w w'∧w'.heap.size=w.heap.size+1:=by
 have hz:=zero41 w;go_enter Tryz.func43,Tryz.ntmps43
 go_wp2_with fail
 go_ret
 exact⟨rfl,⟨zc,heap_alloc_new _ _,zc_size,zc_at⟩,by go_grown,by simp⟩
theorem there_any(b:Nat)(f:Nat→Ma)(h:Nat)(hl:h < 32)(w:World)(q:Hq w b f):
  Calls Tryz.prog 65 #[.pointer (some ⟨b,0,none⟩),.int .i64 h] w fun e w'=>e=.returned (.bool (f h).th)∧w=w':=by
 obtain⟨c0,c1,c2,c3⟩:=q.cells h hl;have hl':(h:Int) < 32:=by omega
 go_enter Tryz.func65,Tryz.ntmps65
 go_wp2_with fail
 go_ret
 exact⟨rfl,rfl⟩
theorem add_any(b:Nat)(f:Nat→Ma)(h:Nat)(hl:h < 32)(n:Int)(hn:1≤n)(hm:n≤4096)(hf:(f h).th=false)(w:World)(q:Hq w b f):
  Calls Tryz.prog 48 #[.pointer (some ⟨b,0,none⟩),.int .i64 h,.int .i64 n] w fun e w'=>e=.returned (.int .i64 0)∧Hq w' b (put f h ⟨true,false,n,0⟩)∧Kept (fun x=>x=b) w w':=by
 obtain⟨c0,c1,c2,c3⟩:=q.cells h hl;have f0:=q.frozen (h*4);have f1:=q.frozen (h*4+1);have f2:=q.frozen (h*4+2);have f3:=q.frozen (h*4+3);have hl':¬ (32:Int)≤h:=by omega
 have hl2:¬ (h:Int) < 0:=by omega
 have hl3:¬ 4096 < n:=by omega
 have hl4:¬ n < 1:=by omega
 rw[hf] at c0;go_enter Tryz.func48,Tryz.ntmps48
 go_wp2_with fail
 go_ret
 refine⟨rfl,?_,by repeat' first | exact Kept.refl _ _ | refine Kept.setb ?_ _ _⟩;have h4:=(((q.setTh h hl true).setDr h hl false).setSz h hl n).setUs h hl 0;simpa only [put_put,put_same] using h4
theorem up_any(b:Nat)(f:Nat→Ma)(h:Nat)(hl:h < 32)(w:World)(q:Hq w b f):
  Calls Tryz.prog 100 #[.pointer (some ⟨b,0,none⟩),.int .i64 h] w fun e w'=>e=.returned (.bool ((f h).th && !(f h).dr))∧w=w':=by
 obtain⟨c0,c1,c2,c3⟩:=q.cells h hl;have ht:=there_any b f h hl w q;have hl':(h:Int) < 32:=by omega
 cases hx:(f h).th
 ·rw[hx] at ht
  go_enter Tryz.func100,Tryz.ntmps100
  go_wp2_with fail
  refine ht.mono ?_;rintro e w1 ⟨rfl,rfl⟩;go_wp2_with fail
  go_ret
  exact⟨rfl,rfl⟩
 ·rw[hx] at ht
  go_enter Tryz.func100,Tryz.ntmps100
  go_wp2_with fail
  refine ht.mono ?_;rintro e w1 ⟨rfl,rfl⟩;go_wp2_with fail
  go_ret
  exact⟨rfl,rfl⟩
theorem isThere_any(b:Nat)(f:Nat→Ma)(h:Nat)(hl:h < 32)(w:World)(q:Hq w b f):
  Calls Tryz.prog 84 #[.pointer (some ⟨b,0,none⟩),.int .i64 h] w fun e w'=>e=.returned (.bool (f h).th)∧w=w':=by
 have ht:=there_any b f h hl w q;go_enter Tryz.func84,Tryz.ntmps84
 go_wp2_with fail
 refine ht.mono ?_;rintro e w1 ⟨rfl,rfl⟩;go_wp2_with fail
 go_ret
 exact⟨rfl,rfl⟩
def free(m:Ma):Int:=if m.th then m.sz - m.us else 0
theorem free_any(b:Nat)(f:Nat→Ma)(h:Nat)(hl:h < 32)(hg:0≤(f h).us∧(f h).us≤(f h).sz∧(f h).sz≤4096)(w:World)(q:Hq w b f):
  Calls Tryz.prog 37 #[.pointer (some ⟨b,0,none⟩),.int .i64 h] w fun e w'=>e=.returned (.int .i64 (free (f h)))∧∃ m,w'=w.drewN m:=by
 obtain⟨c0,c1,c2,c3⟩:=q.cells h hl;have ht:=there_any b f h hl w q;have hl':(h:Int) < 32:=by omega
 obtain⟨g1,g2,g3⟩:=hg;cases hx:(f h).th
 ·rw[hx] at ht
  go_enter Tryz.func37,Tryz.ntmps37
  go_wp2_with fail
  refine ht.mono ?_;rintro e w1 ⟨rfl,rfl⟩;go_wp2_with fail
  go_ret
  exact⟨by simp[free,hx],0,rfl⟩
 ·rw[hx] at ht
  go_enter Tryz.func37,Tryz.ntmps37
  go_wp2_with fail
  refine ht.mono ?_;rintro e w1 ⟨rfl,rfl⟩;go_wp2_with fail
  go_quiet (fail)
  go_wp2_with fail
  go_ret
  exact⟨by simp[free,hx],_,rfl⟩
def mayTake(m:Ma)(n:Int):Bool:=m.th && !m.dr && decide (n≤m.sz - m.us)
def mayGive(m:Ma)(n:Int):Bool:=m.th && decide (n≤m.us)
def took(m:Ma)(n:Int):Ma:=if mayTake m n then { m with us:=m.us+n } else m
def swept(m:Ma):Ma:=if m.dr=true∧m.us=0 then ⟨false,false,0,0⟩ else m
def gave(m:Ma)(n:Int):Ma:=if mayGive m n then swept { m with us:=m.us - n } else m
theorem take_any(b:Nat)(f:Nat→Ma)(h:Nat)(hl:h < 32)(hg:0≤(f h).us∧(f h).us≤(f h).sz∧(f h).sz≤4096)(n:Int)(hn:0≤n)(w:World)(q:Hq w b f):
  Calls Tryz.prog 146 #[.pointer (some ⟨b,0,none⟩),.int .i64 h,.int .i64 n] w fun e w'=>e=.returned (.bool (mayTake (f h) n))∧Hq w' b (put f h (took (f h) n))∧Kept (fun x=>x=b) w w':=by
 obtain⟨c0,c1,c2,c3⟩:=q.cells h hl;have f3:=q.frozen (h*4+3);have ht:=up_any b f h hl w q;have hf:=free_any b f h hl hg w q;have hl':(h:Int) < 32:=by omega
 have hn':¬ n < 0:=by omega
 obtain⟨g1,g2,g3⟩:=hg;by_cases hx:((f h).th && !(f h).dr)=true
 ·rw[hx] at ht
  have hth:(f h).th=true:=by simp at hx;exact hx.1
  have hfr:free (f h)=(f h).sz - (f h).us:=by simp[free,hth]
  rw[hfr] at hf;by_cases hle:n≤(f h).sz - (f h).us
  ·have hle':¬ (f h).sz - (f h).us < n:=by omega
   have hm:mayTake (f h) n=true:=by simp[mayTake];simp at hx;exact⟨hx,hle⟩
   have htk:took (f h) n={ f h with us:=(f h).us+n }:=by simp only[took,hm];rfl
   rw[hm,htk];clear htk;go_enter Tryz.func146,Tryz.ntmps146
   go_wp2_with fail
   refine ht.mono ?_;rintro e w1 ⟨rfl,rfl⟩;go_wp2_with fail
   refine hf.mono ?_;rintro e w1 ⟨rfl,m,rfl⟩;have q1:=q.below (below_drewN (Below.refl _ _) m);have k1:Kept (fun x=>x=b) w (w.drewN m):=(Kept.refl _ _).drewN m;obtain⟨c0,c1,c2,c3⟩:=q1.cells h hl;have f3:=q1.frozen (h*4+3);have HR:Hid (∀ v,Hq ((w.drewN m).setCell ⟨b,h*4+3,none⟩ (.int .i64 v)) b (put f h { f h with us:=v })∧Kept (fun x=>x=b) w ((w.drewN m).setCell ⟨b,h*4+3,none⟩ (.int .i64 v))):=fun v=>⟨q1.setUs h hl v,Kept.setb k1 _ _⟩;clear hf q q1 k1 hm;generalize w.drewN m=w1 at *;go_wp2_with fail
   go_region
   all_goals
    go_wp2
    go_ret
    exact⟨rfl,(HR.out _).1,((HR.out _).2).drew⟩
  ·have hle':(f h).sz - (f h).us < n:=by omega
   have hm:mayTake (f h) n=false:=by simp[mayTake];intro _ _;omega
   have htk:took (f h) n=f h:=by simp[took,hm]
   rw[hm,htk,put_self];clear htk hm;go_enter Tryz.func146,Tryz.ntmps146
   go_wp2_with fail
   refine ht.mono ?_;rintro e w1 ⟨rfl,rfl⟩;go_wp2_with fail
   refine hf.mono ?_;rintro e w1 ⟨rfl,m,rfl⟩;go_wp2_with fail
   go_ret
   exact⟨rfl,q.below (below_drewN (Below.refl _ _) m),(Kept.refl _ _).drewN m⟩
 ·have hx:((f h).th && !(f h).dr)=false:=by simpa using hx
  rw[hx] at ht;have hm:mayTake (f h) n=false:=by simp only[mayTake,hx];rfl
  have htk:took (f h) n=f h:=by simp[took,hm]
  rw[hm,htk,put_self];clear htk hm;go_enter Tryz.func146,Tryz.ntmps146
  go_wp2_with fail
  refine ht.mono ?_;rintro e w1 ⟨rfl,rfl⟩;go_wp2_with fail
  go_ret
  exact⟨rfl,q,Kept.refl _ _⟩
theorem sweep_any(b:Nat)(f:Nat→Ma)(h:Nat)(hl:h < 32)(w:World)(q:Hq w b f):
  Calls Tryz.prog 132 #[.pointer (some ⟨b,0,none⟩),.int .i64 h] w fun e w'=>e=.returned (.tuple #[])∧Hq w' b (put f h (swept (f h)))∧Kept (fun x=>x=b) w w':=by
 have hlt:=q.lt;obtain⟨c0,c1,c2,c3⟩:=q.cells h hl;have f0:=q.frozen (h*4);have f1:=q.frozen (h*4+1);have f2:=q.frozen (h*4+2);have f3:=q.frozen (h*4+3);have hl':(h:Int) < 32:=by omega
 have hne:¬ b=w.heap.size:=by omega
 generalize hm:f h=m at *;obtain⟨th,dr,sz,us⟩:=m;dsimp only at c0 c1 c2 c3;have q1:Hq (w.alloc (.cells #[.bool th,.bool dr,.int .i64 sz,.int .i64 us] 152)) b f:=q.below ((Below.refl _ _).alloc (Nat.le_refl _) _);have k1:Kept (fun x=>x=b) w (w.alloc (.cells #[.bool th,.bool dr,.int .i64 sz,.int .i64 us] 152)):=(Kept.refl _ _).alloc _;cases hd:dr
 ·subst hd
  have hs:swept ⟨th,false,sz,us⟩=⟨th,false,sz,us⟩:=by simp[swept]
  rw[hs,← hm,put_self];go_enter Tryz.func132,Tryz.ntmps132
  go_wp2_with fail
  go_end0
  exact⟨rfl,q1,k1⟩
 ·subst hd
  by_cases hz:us=0
  ·subst hz
   have hs:swept ⟨th,true,sz,0⟩=⟨false,false,0,0⟩:=by simp[swept]
   rw[hs];have q2:=(((q.setTh h hl false).setDr h hl false).setSz h hl 0).setUs h hl 0;simp only[put_put,put_same] at q2;have k2:=(Kept.setb (Kept.setb (Kept.setb (Kept.setb (Kept.refl (fun x=>x=b) w) (h*4) (.bool false)) (h*4+1) (.bool false)) (h*4+2) (.int .i64 0)) (h*4+3) (.int .i64 0)).alloc (.cells #[.bool th,.bool true,.int .i64 sz,.int .i64 0] 152);have q2:=q2.below ((Below.refl _ _).alloc (Nat.le_refl _) (.cells #[.bool th,.bool true,.int .i64 sz,.int .i64 0] 152));go_enter Tryz.func132,Tryz.ntmps132
   go_wp2_with fail
   go_end0
   exact⟨rfl,q2,k2⟩
  ·have hs:swept ⟨th,true,sz,us⟩=⟨th,true,sz,us⟩:=by simp[swept,hz]
   rw[hs,← hm,put_self];go_enter Tryz.func132,Tryz.ntmps132
   go_wp2_with fail
   go_end0
   exact⟨rfl,q1,k1⟩
theorem give_any(b:Nat)(f:Nat→Ma)(h:Nat)(hl:h < 32)(hg:0≤(f h).us∧(f h).us≤(f h).sz∧(f h).sz≤4096)(n:Int)(hn:0≤n)(w:World)(q:Hq w b f):
  Calls Tryz.prog 136 #[.pointer (some ⟨b,0,none⟩),.int .i64 h,.int .i64 n] w fun e w'=>e=.returned (.bool (mayGive (f h) n))∧Hq w' b (put f h (gave (f h) n))∧Kept (fun x=>x=b) w w':=by
 obtain⟨c0,c1,c2,c3⟩:=q.cells h hl;have f3:=q.frozen (h*4+3);have ht:=there_any b f h hl w q;have hl':(h:Int) < 32:=by omega
 have hn':¬ n < 0:=by omega
 obtain⟨g1,g2,g3⟩:=hg;cases hx:(f h).th
 ·rw[hx] at ht
  have hm:mayGive (f h) n=false:=by simp[mayGive,hx]
  have htk:gave (f h) n=f h:=by simp[gave,hm]
  rw[hm,htk,put_self];clear htk hm;go_enter Tryz.func136,Tryz.ntmps136
  go_wp2_with fail
  refine ht.mono ?_;rintro e w1 ⟨rfl,rfl⟩;go_wp2_with fail
  go_ret
  exact⟨rfl,q,Kept.refl _ _⟩
 ·rw[hx] at ht
  by_cases hle:n≤(f h).us
  ·have hle':¬ (f h).us < n:=by omega
   have hm:mayGive (f h) n=true:=by simp[mayGive,hx,hle]
   have htk:gave (f h) n=swept { f h with us:=(f h).us - n }:=by simp only[gave,hm];rfl
   rw[hm,htk];clear htk hm;have HR:Hid (∀ v,Hq (w.setCell ⟨b,h*4+3,none⟩ (.int .i64 v)) b (put f h { f h with us:=v })∧Kept (fun x=>x=b) w (w.setCell ⟨b,h*4+3,none⟩ (.int .i64 v))):=fun v=>⟨q.setUs h hl v,Kept.setb (Kept.refl _ _) _ _⟩;have hsw:=fun v W (hq:Hq W b (put f h { f h with us:=v }))=>sweep_any b _ h hl W hq;simp only[put_put,put_same] at hsw;clear q;go_enter Tryz.func136,Tryz.ntmps136
   go_wp2_with fail
   refine ht.mono ?_;rintro e w1 ⟨rfl,rfl⟩;go_wp2_with fail
   go_region
   all_goals
    go_wp2_with fail
    refine(hsw _ _ ((HR.out _).1.below (Below.refl _ _).drew)).mono ?_;rintro e w2 ⟨rfl,hq2,hk2⟩;go_wp2_with fail
    go_ret
    exact⟨rfl,hq2,((HR.out _).2).drew.trans hk2 (fun _ _ h=>h)⟩
  ·have hle':(f h).us < n:=by omega
   have hm:mayGive (f h) n=false:=by simp[mayGive,hle]
   have htk:gave (f h) n=f h:=by simp[gave,hm]
   rw[hm,htk,put_self];clear htk hm;go_enter Tryz.func136,Tryz.ntmps136
   go_wp2_with fail
   refine ht.mono ?_;rintro e w1 ⟨rfl,rfl⟩;go_wp2_with fail
   go_ret
   exact⟨rfl,q,Kept.refl _ _⟩
theorem fail_any(b:Nat)(f:Nat→Ma)(h:Nat)(hl:h < 32)(hx:(f h).th=true)(w:World)(q:Hq w b f):
  Calls Tryz.prog 87 #[.pointer (some ⟨b,0,none⟩),.int .i64 h] w fun e w'=>e=.returned (.int .i64 0)∧Hq w' b (put f h ⟨false,false,0,0⟩)∧Kept (fun x=>x=b) w w':=by
 obtain⟨c0,c1,c2,c3⟩:=q.cells h hl;have f0:=q.frozen (h*4);have f1:=q.frozen (h*4+1);have f2:=q.frozen (h*4+2);have f3:=q.frozen (h*4+3);have ht:=there_any b f h hl w q;rw[hx] at ht;have hl':(h:Int) < 32:=by omega
 have q2:=(((q.setTh h hl false).setDr h hl false).setSz h hl 0).setUs h hl 0;simp only[put_put,put_same] at q2;have k2:=Kept.setb (Kept.setb (Kept.setb (Kept.setb (Kept.refl (fun x=>x=b) w) (h*4) (.bool false)) (h*4+1) (.bool false)) (h*4+2) (.int .i64 0)) (h*4+3) (.int .i64 0);go_enter Tryz.func87,Tryz.ntmps87
 go_wp2_with fail
 refine ht.mono ?_;rintro e w1 ⟨rfl,rfl⟩;go_wp2_with fail
 go_ret
 exact⟨rfl,q2,k2⟩
theorem drain_any(b:Nat)(f:Nat→Ma)(h:Nat)(hl:h < 32)(hx:(f h).th=true)(hd:(f h).dr=false)(w:World)(q:Hq w b f):
  Calls Tryz.prog 80 #[.pointer (some ⟨b,0,none⟩),.int .i64 h] w fun e w'=>e=.returned (.int .i64 0)∧Hq w' b (put f h (swept { f h with dr:=true }))∧Kept (fun x=>x=b) w w':=by
 obtain⟨c0,c1,c2,c3⟩:=q.cells h hl;have f1:=q.frozen (h*4+1);have ht:=there_any b f h hl w q;rw[hx] at ht;rw[hd] at c1;have hl':(h:Int) < 32:=by omega
 have q2:=q.setDr h hl true;have k2:=Kept.setb (Kept.refl (fun x=>x=b) w) (h*4+1) (.bool true);have hsw:=sweep_any b _ h hl _ q2;simp only[put_put,put_same] at hsw;go_enter Tryz.func80,Tryz.ntmps80
 go_wp2_with fail
 refine ht.mono ?_;rintro e w1 ⟨rfl,rfl⟩;go_wp2_with fail
 refine hsw.mono ?_;rintro e w1 ⟨rfl,hq,hk⟩;go_wp2_with fail
 go_ret
 exact⟨rfl,hq,k2.trans hk (fun _ _ h=>h)⟩
def up(m:Ma):Bool:=m.th && !m.dr
def good(m:Ma):Prop:=0≤m.us∧m.us≤m.sz∧m.sz≤4096
def fitK(f:Nat→Ma)(mem:Int):Nat→Option Nat
 | 0=>none
 | k+1=>if up (f k)=true∧mem≤free (f k)∧(∀ b,fitK f mem k=some b→free (f k) < free (f b)) then some k else fitK f mem k
def bi:Option Nat→Int
 | none=>-1
 | some b=>b
theorem fitK_lt(f:Nat→Ma)(mem:Int):∀ n b,fitK f mem n=some b→b < n:=by
 intro n
 induction n with
 | zero=>intro b h;cases h
 | succ k ih=>
  intro b h;simp only[fitK] at h;split at h
  ·cases h;omega
  ·have:=ih b h;omega
theorem fitK_none(f:Nat→Ma)(mem:Int):∀ n,fitK f mem n=none→∀ h,h < n→up (f h)=true→free (f h) < mem:=by
 intro n
 induction n with
 | zero=>intro _ h hh;omega
 | succ k ih=>
  intro h0 h hh hu;simp only[fitK] at h0;split at h0
  ·cases h0
  ·rename_i hn
   by_cases hk:h=k
   ·subst hk
    refine Int.not_le.1 fun hle=>hn ⟨hu,hle,fun b hb=>?_⟩;rw[h0] at hb;cases hb
   ·exact ih h0 h (by omega) hu
theorem fitK_some(f:Nat→Ma)(mem:Int):∀ n b,fitK f mem n=some b→up (f b)=true∧mem≤free (f b)∧∀ h,h < n→up (f h)=true→mem≤free (f h)→free (f b) < free (f h)∨(free (f b)=free (f h)∧b≤h):=by
 intro n
 induction n with
 | zero=>intro b h;cases h
 | succ k ih=>
  intro b h0;simp only[fitK] at h0;split at h0
  ·rename_i hc
   cases h0
   refine⟨hc.1,hc.2.1,fun h hh hu hm=>?_⟩;by_cases hk:h=k
   ·subst hk;exact .inr ⟨rfl,Nat.le_refl _⟩
   ·cases hf:fitK f mem k with
    | none=>have:=fitK_none f mem k hf h (by omega) hu;omega
    | some c=>
     have h1:=hc.2.2 c hf;have h2:=(ih c hf).2.2 h (by omega) hu hm;left;omega
  ·rename_i hc
   have hi:=ih b h0;refine⟨hi.1,hi.2.1,fun h hh hu hm=>?_⟩;by_cases hk:h=k
   ·subst hk
    have hlt:=fitK_lt f mem h b h0;by_cases hl:free (f h) < free (f b)
    ·exact absurd ⟨hu,hm,fun c hcc=>by rw[h0] at hcc;cases hcc;exact hl⟩ hc
    ·by_cases he:free (f b)=free (f h)
     ·exact .inr ⟨he,by omega⟩
     ·left;omega
   ·exact hi.2.2 h (by omega) hu hm
theorem free_bd{m:Ma}(h:good m):0≤free m∧free m≤4096:=by
 obtain⟨h1,h2,h3⟩:=h;unfold free;split <;> omega
theorem fit_any(b:Nat)(f:Nat→Ma)(hg:∀ h,h < 32→good (f h))(mem:Int)(hm:0≤mem)(w:World)(q:Hq w b f):
  Calls Tryz.prog 124 #[.pointer (some ⟨b,0,none⟩),.int .i64 mem] w fun e w'=>e=.returned (.tuple #[.int .i64 (max (bi (fitK f mem 32)) 0),.bool (fitK f mem 32).isSome])∧Hq w' b f∧Below w.heap.size w w':=by
 have hm':¬ mem < 0:=by omega
 go_enter Tryz.func124,Tryz.ntmps124
 go_wp2_with fail
 go_loopw [8,6] (fun x y wr=>∃ (k:Nat),x=.int .i64 k∧k≤32∧y=.int .i64 (bi (fitK f mem k))∧Hq wr b f∧Below w.heap.size w wr) (fun x _ _=>32 - (intOf x).toNat)
 case atStart=>exact⟨0,rfl,by omega,rfl,q,Below.refl _ _⟩
 case round=>
  obtain⟨k,rfl,hk,rfl,hq,hB⟩:=hrel;by_cases hlt:k < 32
  ·have j1:(k:Int) < 32:=by omega
   have hup:=up_any b f k hlt wr hq;have hfr:=fun W (h:Hq W b f)=>free_any b f k hlt (hg k hlt) W h;have hbd:=free_bd (hg k hlt);have hfk:∀ v,(if up (f k)=true∧mem≤free (f k)∧(∀ b,fitK f mem k=some b→free (f k) < free (f b)) then some k else fitK f mem k)=v→fitK f mem (k+1)=v:=fun v h=>by simp only[fitK];exact h
   cases hu:((f k).th && !(f k).dr)
   ·rw[hu] at hup
    have hfk:=hfk (fitK f mem k) (if_neg fun h=>by have h:=h.1;simp only[up,hu] at h;cases h);go_wp2_with fail
    refine hup.mono ?_;rintro e w1 ⟨rfl,rfl⟩;go_wp2_with fail
    go_roundw
    case rel=>exact⟨k+1,by go_num,by omega,by rw[hfk],hq,hB⟩
    case measure=>simp[intOf];omega
   ·rw[hu] at hup
    obtain⟨F,hF⟩:∃ F,free (f k)=F:=⟨_,rfl⟩;rw[hF] at hfr hbd hfk;by_cases hle:mem≤F
    ·cases ho:fitK f mem k with
     | none=>
      rw[ho] at hfk;have hfk:=hfk (some k) (if_pos ⟨hu,hle,fun b hb=>by cases hb⟩);rw[show bi none=-1 from rfl];go_wp2_with fail
      refine hup.mono ?_;rintro e w1 ⟨rfl,rfl⟩;go_wp2_with fail
      refine(hfr _ hq).mono ?_;rintro e w2 ⟨rfl,m,rfl⟩;go_wp2_with fail
      go_roundw
      case rel=>exact⟨k+1,by go_num,by omega,by rw[hfk];rfl,hq.below (below_drewN (Below.refl _ _) m),below_drewN hB m⟩
      case measure=>simp[intOf];omega
     | some c=>
      have hcl:=fitK_lt f mem k c ho;have hc0:¬ (c:Int) < 0:=by omega
      rw[ho] at hfk;obtain⟨G,hG⟩:∃ G,free (f c)=G:=⟨_,rfl⟩;have hfc:=fun W (h:Hq W b f)=>free_any b f c (by omega) (hg c (by omega)) W h;rw[hG] at hfc;rw[show bi (some c)=(c:Int) from rfl];by_cases hl:F < G
      ·have hfk:=hfk (some k) (if_pos ⟨hu,hle,fun b hb=>by cases hb;rw[hG];exact hl⟩)
       go_wp2_with fail
       refine hup.mono ?_;rintro e w1 ⟨rfl,rfl⟩;go_wp2_with fail
       refine(hfr _ hq).mono ?_;rintro e w2 ⟨rfl,m,rfl⟩;have hq2:=hq.below (below_drewN (Below.refl _ _) m);have hB2:=below_drewN hB m;generalize wr.drewN m=v2 at *;go_wp2_with fail
       refine(hfr _ hq2).mono ?_;rintro e w2 ⟨rfl,m2,rfl⟩;have hq3:=hq2.below (below_drewN (Below.refl _ _) m2);have hB3:=below_drewN hB2 m2;generalize v2.drewN m2=v3 at *;go_wp2_with fail
       refine(hfc _ hq3).mono ?_;rintro e w2 ⟨rfl,m3,rfl⟩;go_wp2_with fail
       go_roundw
       case rel=>exact⟨k+1,by go_num,by omega,by rw[hfk];rfl,hq3.below (below_drewN (Below.refl _ _) m3),below_drewN hB3 m3⟩
       case measure=>simp[intOf];omega
      ·have hfk:=hfk (some c) (if_neg fun h=>hl (by have:=h.2.2 c rfl;rwa [hG] at this))
       go_wp2_with fail
       refine hup.mono ?_;rintro e w1 ⟨rfl,rfl⟩;go_wp2_with fail
       refine(hfr _ hq).mono ?_;rintro e w2 ⟨rfl,m,rfl⟩;have hq2:=hq.below (below_drewN (Below.refl _ _) m);have hB2:=below_drewN hB m;generalize wr.drewN m=v2 at *;go_wp2_with fail
       refine(hfr _ hq2).mono ?_;rintro e w2 ⟨rfl,m2,rfl⟩;have hq3:=hq2.below (below_drewN (Below.refl _ _) m2);have hB3:=below_drewN hB2 m2;generalize v2.drewN m2=v3 at *;go_wp2_with fail
       refine(hfc _ hq3).mono ?_;rintro e w2 ⟨rfl,m3,rfl⟩;go_wp2_with fail
       go_roundw
       case rel=>exact⟨k+1,by go_num,by omega,by rw[hfk];rfl,hq3.below (below_drewN (Below.refl _ _) m3),below_drewN hB3 m3⟩
       case measure=>simp[intOf];omega
    ·have hfk:=hfk (fitK f mem k) (if_neg fun h=>hle h.2.1)
     go_wp2_with fail
     refine hup.mono ?_;rintro e w1 ⟨rfl,rfl⟩;go_wp2_with fail
     refine(hfr _ hq).mono ?_;rintro e w2 ⟨rfl,m,rfl⟩;go_wp2_with fail
     go_roundw
     case rel=>exact⟨k+1,by go_num,by omega,by rw[hfk],hq.below (below_drewN (Below.refl _ _) m),below_drewN hB m⟩
     case measure=>simp[intOf];omega
  ·obtain rfl:k=32:=by omega
   cases ho:fitK f mem 32 with
   | none=>
    rw[show bi none=-1 from rfl];go_wp2_with fail
    go_returns
    exact⟨by rw[ho];rfl,hq,hB⟩
   | some c=>
    have hc0:(0:Int)≤c:=by omega
    rw[show bi (some c)=(c:Int) from rfl];go_wp2_with fail
    go_returns
    refine⟨?_,hq,hB⟩;rw[ho];simp[bi]
theorem there_far(b:Nat)(h:Nat)(hl:32≤h)(w:World):
  Calls Tryz.prog 65 #[.pointer (some ⟨b,0,none⟩),.int .i64 h] w fun e w'=>e=.returned (.bool false)∧w=w':=by
 have hl':¬ (h:Int) < 32:=by omega
 go_enter Tryz.func65,Tryz.ntmps65
 go_wp2_with fail
 go_ret
 exact⟨rfl,rfl⟩
theorem isThere_far(b:Nat)(h:Nat)(hl:32≤h)(w:World):
  Calls Tryz.prog 84 #[.pointer (some ⟨b,0,none⟩),.int .i64 h] w fun e w'=>e=.returned (.bool false)∧w=w':=by
 have ht:=there_far b h hl w;go_enter Tryz.func84,Tryz.ntmps84
 go_wp2_with fail
 refine ht.mono ?_;rintro e w1 ⟨rfl,rfl⟩;go_wp2_with fail
 go_ret
 exact⟨rfl,rfl⟩
theorem drain_far(b:Nat)(h:Nat)(hl:32≤h)(w:World):
  Calls Tryz.prog 80 #[.pointer (some ⟨b,0,none⟩),.int .i64 h] w fun e w'=>e=.returned (.int .i64 2)∧w=w':=by
 have ht:=there_far b h hl w;go_enter Tryz.func80,Tryz.ntmps80
 go_wp2_with fail
 refine ht.mono ?_;rintro e w1 ⟨rfl,rfl⟩;go_wp2_with fail
 go_ret
 exact⟨rfl,rfl⟩
theorem drain_none(b:Nat)(f:Nat→Ma)(h:Nat)(hl:h < 32)(hx:(f h).th=false)(w:World)(q:Hq w b f):
  Calls Tryz.prog 80 #[.pointer (some ⟨b,0,none⟩),.int .i64 h] w fun e w'=>e=.returned (.int .i64 2)∧w=w':=by
 have ht:=there_any b f h hl w q;rw[hx] at ht;go_enter Tryz.func80,Tryz.ntmps80
 go_wp2_with fail
 refine ht.mono ?_;rintro e w1 ⟨rfl,rfl⟩;go_wp2_with fail
 go_ret
 exact⟨rfl,rfl⟩
theorem drain_dr(b:Nat)(f:Nat→Ma)(h:Nat)(hl:h < 32)(hx:(f h).th=true)(hd:(f h).dr=true)(w:World)(q:Hq w b f):
  Calls Tryz.prog 80 #[.pointer (some ⟨b,0,none⟩),.int .i64 h] w fun e w'=>e=.returned (.int .i64 3)∧w=w':=by
 obtain⟨c0,c1,c2,c3⟩:=q.cells h hl;have ht:=there_any b f h hl w q;rw[hx] at ht;rw[hd] at c1;have hl':(h:Int) < 32:=by omega
 go_enter Tryz.func80,Tryz.ntmps80
 go_wp2_with fail
 refine ht.mono ?_;rintro e w1 ⟨rfl,rfl⟩;go_wp2_with fail
 go_ret
 exact⟨rfl,rfl⟩
theorem add_far(b:Nat)(h:Nat)(hl:32≤h)(n:Int)(w:World):
  Calls Tryz.prog 48 #[.pointer (some ⟨b,0,none⟩),.int .i64 h,.int .i64 n] w fun e w'=>e=.returned (.int .i64 1)∧w=w':=by
 have hl':(32:Int)≤h:=by omega
 have hl2:¬ (h:Int) < 0:=by omega
 go_enter Tryz.func48,Tryz.ntmps48
 go_wp2_with fail
 go_ret
 exact⟨rfl,rfl⟩
theorem add_low(b:Nat)(h:Nat)(hl:h < 32)(n:Int)(hn:n < 1)(w:World):
  Calls Tryz.prog 48 #[.pointer (some ⟨b,0,none⟩),.int .i64 h,.int .i64 n] w fun e w'=>e=.returned (.int .i64 1)∧w=w':=by
 have hl':¬ (32:Int)≤h:=by omega
 have hl2:¬ (h:Int) < 0:=by omega
 go_enter Tryz.func48,Tryz.ntmps48
 go_wp2_with fail
 go_ret
 exact⟨rfl,rfl⟩
theorem add_high(b:Nat)(h:Nat)(hl:h < 32)(n:Int)(hn:4096 < n)(w:World):
  Calls Tryz.prog 48 #[.pointer (some ⟨b,0,none⟩),.int .i64 h,.int .i64 n] w fun e w'=>e=.returned (.int .i64 1)∧w=w':=by
 have hl':¬ (32:Int)≤h:=by omega
 have hl2:¬ (h:Int) < 0:=by omega
 have hl3:¬ n < 1:=by omega
 go_enter Tryz.func48,Tryz.ntmps48
 go_wp2_with fail
 go_ret
 exact⟨rfl,rfl⟩
theorem add_there(b:Nat)(f:Nat→Ma)(h:Nat)(hl:h < 32)(n:Int)(hn:1≤n)(hm:n≤4096)(hf:(f h).th=true)(w:World)(q:Hq w b f):
  Calls Tryz.prog 48 #[.pointer (some ⟨b,0,none⟩),.int .i64 h,.int .i64 n] w fun e w'=>e=.returned (.int .i64 3)∧w=w':=by
 obtain⟨c0,c1,c2,c3⟩:=q.cells h hl;have hl':¬ (32:Int)≤h:=by omega
 have hl2:¬ (h:Int) < 0:=by omega
 have hl3:¬ 4096 < n:=by omega
 have hl4:¬ n < 1:=by omega
 rw[hf] at c0;go_enter Tryz.func48,Tryz.ntmps48
 go_wp2_with fail
 go_ret
 exact⟨rfl,rfl⟩
end Go.Proofs.YtigeldkbfbcpmaaGreat.P13
namespace Go.Proofs.YtigeldkbfbcpmaaGreat.P11
open Go.RowKit Go.Kpt
theorem setA_arg(b:Nat)(a n:Int)(h0:0≤a∧0≤n)(h:16≤a∨1000 < n)(w:World):
  Calls Tryz.prog 72 #[.pointer (some ⟨b,0,none⟩),.int .i64 a,.int .i64 n] w fun e w'=>e=.returned (.int .i64 1)∧w=w':=by
 have h1:¬ a < 0:=by omega
 have h2:¬ n < 0:=by omega
 by_cases h3:16≤a
 ·go_enter Tryz.func72,Tryz.ntmps72
  go_wp2_with fail
  go_ret
  exact⟨rfl,rfl⟩
 ·have h4:1000 < n:=h.resolve_left h3
  go_enter Tryz.func72,Tryz.ntmps72
  go_wp2_with fail
  go_ret
  exact⟨rfl,rfl⟩
theorem known_far(b:Nat)(f:Int)(h:64≤f)(w:World):
  Calls Tryz.prog 64 #[.pointer (some ⟨b,0,none⟩),.int .i64 f] w fun e w'=>e=.returned (.bool false)∧w=w':=by
 have h1:0≤f:=by omega
 have h2:¬ f < 64:=by omega
 go_enter Tryz.func64,Tryz.ntmps64
 go_wp2_with fail
 go_ret
 exact⟨rfl,rfl⟩
theorem ask_far(b:Nat)(f:Int)(h:64≤f)(w:World):
  Calls Tryz.prog 88 #[.pointer (some ⟨b,0,none⟩),.int .i64 f] w fun e w'=>(∃ r,e=.returned (.tuple #[.int .i64 r,.bool false]))∧w=w':=by
 have hk:=known_far b f h w;go_enter Tryz.func88,Tryz.ntmps88
 go_wp2_with fail
 refine hk.mono ?_;rintro e w1 ⟨rfl,rfl⟩;go_wp2_with fail
 go_returns
 exact⟨⟨_,rfl⟩,rfl⟩
end Go.Proofs.YtigeldkbfbcpmaaGreat.P11
namespace Go.Proofs.YtigeldkbfbcpmaaGreat
open Go.RowKit Go.Kpt
theorem load_any(b off:Nat)(v:Int)(w:World)(h:w.cell? ⟨b,off,none⟩=some (.int .i64 v)):
  Calls Tryz.prog 56 #[.pointer (some ⟨b,off,none⟩)] w fun e w'=>e=.returned (.int .i64 v)∧w=w':=by
 have hl:=run_call_load (P:=Tryz.prog) Tryz.func102 (by kernel_rfl) (by kernel_rfl) (by kernel_rfl) .i64 (by kernel_rfl) h;go_enter Tryz.func56,Tryz.ntmps56
 go_wp2_with fail
 go_ret
 exact⟨rfl,rfl⟩
theorem cas_any(b off:Nat)(v y:Int)(w:World)(h:w.cell? ⟨b,off,none⟩=some (.int .i64 v))(f:w.frozen? ⟨b,off,none⟩=false):
  Calls Tryz.prog 58 #[.pointer (some ⟨b,off,none⟩),.int .i64 v,.int .i64 y] w fun e w'=>e=.returned (.bool true)∧w'=w.setCell ⟨b,off,none⟩ (.int .i64 y):=by
 have hl:=run_call_cas_hit (P:=Tryz.prog) Tryz.func103 (by kernel_rfl) (by kernel_rfl) (by kernel_rfl) .i64 (by kernel_rfl) (y:=y) h f;go_enter Tryz.func58,Tryz.ntmps58
 go_wp2_with fail
 go_ret
 exact⟨rfl,rfl⟩
theorem count_any(b off:Nat)(v:Int)(hv:0≤v∧v≤1000000000)(w:World)(h:w.cell? ⟨b,off,none⟩=some (.int .i64 v))(f:w.frozen? ⟨b,off,none⟩=false):
  Calls Tryz.prog 29 #[.pointer (some ⟨b,off,none⟩),.int .i64 1] w fun e w'=>e=.returned (.int .i64 (v+1))∧w'=w.setCell ⟨b,off,none⟩ (.int .i64 (v+1)):=by
 have hl:=load_any b off v w h;have hc:=cas_any b off v (v+1) w h f;obtain⟨a,rfl⟩:∃ a:Nat,v=(a:Int):=⟨v.toNat,by omega⟩;have ha:=add1_any a (by omega) w;rw[show ((a+1:Nat):Int)=(a:Int)+1 by push_cast;rfl] at ha;obtain⟨y,hy⟩:∃ y,(a:Int)+1=y:=⟨_,rfl⟩;rw[hy] at ha hc ⊢;clear hv hy;go_enter Tryz.func29,Tryz.ntmps29
 go_wp2_with fail
 refine wp_loop_rounds 1 ?_;rw[rounds_succ];go_wp2_with fail
 refine hl.mono ?_;rintro e w1 ⟨rfl,rfl⟩;go_wp2_with fail
 refine ha.mono ?_;rintro e w1 ⟨rfl,rfl⟩;go_wp2_with fail
 refine hc.mono ?_;rintro e w1 ⟨rfl,rfl⟩;go_wp2_with fail
 go_ret
 exact⟨rfl,rfl⟩
end Go.Proofs.YtigeldkbfbcpmaaGreat
