/- A part of the proof: what the functions of the program come to, and what holds at all times. -/
import Derived.Test.YtigeldkbfbcpmaaGreatRows
import Derived.RangeFuncWrites
import Derived.RangeFuncBox
import Derived.RangeFuncLeaves
import Derived.Shelf.Abstract
import Derived.WalkKit
import Derived.OwnWalkIn
import Derived.TacticsInMore
import Derived.LoopNIn
import Derived.LoopIn
import Derived.Deep.RegionHeld3
import Derived.RangeFuncCalls
import Derived.OrdersIn
import Derived.TacticsIn
import Derived.Test.YtigeldkbfbcpmaaGreatM01
import Derived.Test.YtigeldkbfbcpmaaGreatM19
import Derived.Test.YtigeldkbfbcpmaaGreatM08
set_option linter.unusedVariables false
set_option linter.unusedSectionVars false
set_option linter.unusedSimpArgs false
set_option maxRecDepth 100000
set_option maxHeartbeats 8000000
namespace Go.Proofs.YtigeldkbfbcpmaaGreat
open Go.RowKit Go.Kpt Go.Shelf
attribute [local go_sem] Oper.semAt_some
theorem back1_in(n:Nat)(hn:1≤n)(l Bs b len cap:Nat)(zs:List Int)(hlen:len≤1000000000)(J Jx:Nat→World→Prop)
  (hY:∀ k W,J k W→k < len→YieldAt Fence.wide (n - 1) Tryz.prog l #[.int .i64 ((len - 1 - k:Nat):Int),.int .i64 (zs.getD (len - 1 - k) 0)] W fun e W'=>
   (e=.returned (.bool true)∧J (k+1) W'∧W'.heap[Bs]?=W.heap[Bs]?∧W'.heap[b]?=W.heap[b]?)∨(e=.returned (.bool false)∧Jx (k+1) W'))
  (W:World) (hBs:W.cell? ⟨Bs,0,none⟩=some (.slice (some ⟨b,0,none⟩) len cap)) (hc:∀ j,j < len→W.cell? ⟨b,j,none⟩=some (.int .i64 (zs.getD j 0))) (h0:J 0 W):
  CallsIn Fence.wide n Tryz.prog 160 #[.func (.yield l) #[] #[],.pointer (some ⟨Bs,0,none⟩)] W fun e W'=>(∃ v,e=.returned v)∧(J len W'∨∃ k,k < len∧Jx (k+1) W'):=by
 refine callsIn_of_wp Tryz.func160 rfl trivial ?_ rfl;simp only[Tryz.ntmps160,List.size_toArray,List.length_cons,List.length_nil,Nat.reduceAdd,Nat.reduceSub,Array.replicate_succ,Array.replicate_zero,List.push_toArray,List.append_toArray,List.nil_append,List.cons_append];have hw1:IntKind.i64.wrap ((len:Int) - 1)=(len:Int) - 1:=IntWalk.i64_in _ ⟨by omega,by omega⟩;have hw2:wrap64 ((len:Int) - 1)=(len:Int) - 1:=IntWalk.wrap64_in _ ⟨by omega,by omega⟩
 gi_wp2
 gi_loopw [3] (fun i wr=>∃ k:Nat,k≤len∧i=.int .i64 ((len:Int) - 1 - k)∧J k wr∧wr.heap[Bs]?=W.heap[Bs]?∧wr.heap[b]?=W.heap[b]?)
  (fun i _=>(intOf i+1).toNat)
 case atStart=>exact⟨0,Nat.zero_le _,by simp,h0,rfl,rfl⟩
 case round=>
  obtain⟨k,hk,rfl,hJs,hb1,hb2⟩:=hrel;by_cases hlt:k < len
  ·have q1:wr.cell? ⟨Bs,0,none⟩=some (.slice (some ⟨b,0,none⟩) len cap):=by rw[World.cell?_of_block (show wr.heap[Bs]?=W.heap[Bs]? from hb1)];exact hBs
   have q2:wr.cell? ⟨b,len - 1 - k,none⟩=some (.int .i64 (zs.getD (len - 1 - k) 0)):=by rw[World.cell?_of_block (show wr.heap[b]?=W.heap[b]? from hb2)];exact hc _ (by omega)
   obtain⟨fn,tmps,assign,body,hy,hR⟩:=hY k wr hJs hlt;obtain⟨j,hj⟩:∃ j:Nat,len - 1 - k=j:=⟨_,rfl⟩;have hji:(len:Int) - 1 - k=(j:Int):=by omega
   have hjl:j < len:=by omega
   rw[hj] at hy q2;obtain⟨z,hz⟩:∃ z,zs.getD j 0=z:=⟨_,rfl⟩;rw[hz] at hy q2;clear hz;have hw3:IntKind.i64.wrap ((j:Int) - 1)=(j:Int) - 1:=IntWalk.i64_in _ ⟨by omega,by omega⟩;have hw4:wrap64 ((j:Int) - 1)=(j:Int) - 1:=IntWalk.wrap64_in _ ⟨by omega,by omega⟩;have j1:(j:Int) < (len:Int):=by omega
   have j0:¬ (j:Int) < 0:=by omega
   rw[hji];have HJ:=Lib.hid (And.intro hj hji);have HB:=Lib.hid (And.intro hb1 hb2);clear hj hji hb1 hb2 hw1 hw2
   gi_wp2
   refine hR.mono ?_;rintro e W3 (⟨rfl,hJ3,hk3,hk4⟩|⟨rfl,hJx3⟩)
   ·gi_wp2
    go_roundw
    case rel=>exact⟨k+1,by omega,by have:=HJ.out.2;simp;omega,hJ3,hk3.trans HB.out.1,hk4.trans HB.out.2⟩
    case measure=>simp[intOf]
   ·gi_wp2
    refine bodyPost_ret (results_none rfl _ _ _) rfl ?_;exact⟨⟨_,rfl⟩,.inr ⟨k,hlt,hJx3⟩⟩
  ·obtain rfl:k=len:=by omega
   have hm:(k:Int) - 1 - k=-1:=by omega
   rw[hm];clear hm
   gi_wp2
   go_end0
   exact⟨⟨_,rfl⟩,.inl hJs⟩
theorem back_nil(n:Nat)(l Bs:Nat)(J:Nat→World→Prop)(W:World)(hBs:W.cell? ⟨Bs,0,none⟩=some (.slice none 0 0))(h0:J 0 W):
  CallsIn Fence.wide n Tryz.prog 160 #[.func (.yield l) #[] #[],.pointer (some ⟨Bs,0,none⟩)] W fun e W'=>(∃ v,e=.returned v)∧J 0 W':=by
 refine callsIn_of_wp Tryz.func160 rfl trivial ?_ rfl;simp only[Tryz.ntmps160,List.size_toArray,List.length_cons,List.length_nil,Nat.reduceAdd,Nat.reduceSub,Array.replicate_succ,Array.replicate_zero,List.push_toArray,List.append_toArray,List.nil_append,List.cons_append]
 gi_wp2
 gi_loopw [3] (fun i wr=>i=.int .i64 (-1)∧J 0 wr) (fun _ _=>0)
 case atStart=>exact⟨rfl,h0⟩
 case round=>
  obtain⟨rfl,hJs⟩:=hrel
  gi_wp2
  go_end0
  exact⟨⟨_,rfl⟩,hJs⟩
theorem backward_in(n:Nat)(a:Option Addr)(len cap:Nat)(w:World):
  CallsIn Fence.wide n Tryz.prog 127 #[.slice a len cap] w fun e w'=>e=.returned (.func (.func 160) #[] #[.pointer (some ⟨w.heap.size,0,none⟩)])∧w'=w.alloc (.cells #[.slice a len cap] 22):=by
 refine callsIn_of_wp Tryz.func127 rfl trivial ?_ rfl;simp only[Tryz.ntmps127,List.size_toArray,List.length_cons,List.length_nil,Nat.reduceAdd,Nat.reduceSub,Array.replicate_succ,Array.replicate_zero,List.push_toArray,List.append_toArray,List.nil_append,List.cons_append]
 gi_wp2
 go_ret
 exact⟨rfl,rfl⟩
def rPost(D Bs b:Nat)(I:World→Prop)(Ix:Nat→World→Prop)(W:World):Exit→Act→World→Prop
 | .normal,_,W'=>(W'.heap[D]?=W.heap[D]?∧W'.heap[D+1]?=W.heap[D+1]?)∧(W'.heap[Bs]?=W.heap[Bs]?∧W'.heap[b]?=W.heap[b]?)∧I W'
 | .exit id,_,W'=>(W'.heap[D]?=W.heap[D]?∧W'.heap[D+1]?=W.heap[D+1]?)∧Ix id W'
 | .ret,_,_=>False
 | .goto _,_,_=>False
 | .panic _,_,_=>False
 | .outgrown,_,_=>False
theorem putObj_kept{B l:Nat}{W:World}(o:Obj)(hl:B=l∨B+1=l):Kept (fun x=>x=B∨x=B+1) W (W.putObj l o):=
 ⟨rfl,rfl,rfl,by simp,fun k _ hk=>World.putObj_heap_other (fun e=>hk (by rcases hl with h | h <;> omega))⟩
theorem range_back{g:Operand}{ps:Array Tmp}{assign body:Code}{Q:Exit→Act→World→Prop}{a:Act}{w:World}(n:Nat)(h1:3≤n)(Bs b len:Nat)(zs:List Int)(hlen:len≤1000000000)
  (hg:a.eval g=.func (.func 160) #[] #[.pointer (some ⟨Bs,0,none⟩)]) (hps:ps.size=2) (hlt:Bs < w.heap.size∧b < w.heap.size)
  (hsl:(len=0∧w.cell? ⟨Bs,0,none⟩=some (.slice none 0 0))∨∃ cap,w.cell? ⟨Bs,0,none⟩=some (.slice (some ⟨b,0,none⟩) len cap)∧∀ j,j < len→w.cell? ⟨b,j,none⟩=some (.int .i64 (zs.getD j 0)))
  (I:World→Nat→World→Prop) (Ix:World→Nat→Nat→World→Prop)
  (hI0:∀ W1,Below w.heap.size w W1→W1.heap.size=w.heap.size+2→I W1 0 W1)
  (hSt:∀ W1 k W W',Kept (fun x=>x=w.heap.size∨x=w.heap.size+1) W W'→W'.heap.size=W.heap.size→I W1 k W→I W1 k W')
  (hSx:∀ W1 id k W W',Kept (fun x=>x=w.heap.size∨x=w.heap.size+1) W W'→W'.heap.size=W.heap.size→Ix W1 id k W→Ix W1 id k W')
  (a₁:Int→Int→Act)
  (hassign:∀ (l:Nat) (i x:Int) (W:World) (K:Act→World→Prop),K (a₁ i x) W →
   assign.wpIn (Fence.wide.inRound l) (n - 1 - 1) Tryz.prog (Exit.then K (fun _ _ _=>False)) { tmps:=(ps.zip #[.int .i64 i,.int .i64 x]).foldl (fun t (p,v)=>t.setIfInBounds p v) a.tmps,defers:=[] } W)
  (hbody:∀ (W1:World) (l k:Nat) (W:World),I W1 k W→k < len→w.heap.size+2≤W.heap.size →
   body.wpIn (Fence.wide.inRound l) (n - 1 - 1) Tryz.prog (rPost w.heap.size Bs b (I W1 (k+1)) (fun id=>Ix W1 id (k+1)) W) (a₁ ((len - 1 - k:Nat):Int) (zs.getD (len - 1 - k) 0)) W)
  (hdone:∀ (W1 W:World),I W1 len W→W.heap[w.heap.size]?=some (.deferred (some []))→Q .normal { a with defers:={ target:=.collected w.heap.size,args:=#[] } :: a.defers } W)
  (hstop:∀ (W1:World) (id k:Nat) (W:World),k < len→Ix W1 id (k+1) W→W.heap[w.heap.size]?=some (.deferred (some []))→(Code.exit id).wpIn Fence.wide n Tryz.prog Q { a with defers:={ target:=.collected w.heap.size,args:=#[] } :: a.defers } W):
  (Code.rangeFunc g ps assign body).wpIn Fence.wide n Tryz.prog Q a w:=by
 refine wpIn_rangeFunc fun fn hfn=>?_;obtain⟨D,hD⟩:∃ D,w.heap.size=D:=⟨_,rfl⟩;rw[hD] at hI0 hSt hSx hbody hdone hstop hlt
 let rec_:LoopState→Option Code→Obj:=fun st pe=>.loop { state:=st,pending:=pe,fn,tmps:=a.tmps,params:=ps,assign,body,defers:=D }
 obtain⟨W1,hW1⟩:∃ W1,(w.alloc (.deferred (some []))).alloc (rec_ .ready none)=W1:=⟨_,rfl⟩;have hs1:W1.heap.size=D+2:=by rw[← hW1,← hD];simp
 have hB1:Below w.heap.size w W1:=by rw[← hW1];exact((Below.refl _ w).alloc (Nat.le_refl _) _).alloc (by simp) _
 have hl1:W1.heap[D+1]?=some (rec_ .ready none):=by
  rw[← hW1,← hD];have:=World.alloc_heap_new (w.alloc (.deferred (some []))) (rec_ .ready none)
  rwa [World.size_alloc] at this
 have hd1:W1.heap[D]?=some (.deferred (some [])):=by
  rw[← hW1,← hD];exact(Below.heap_alloc _ _ _ (by simp)).trans (World.alloc_heap_new w _)
 have hold:∀ c j v,c < D→w.cell? ⟨c,j,none⟩=some v→W1.cell? ⟨c,j,none⟩=some v:=fun c j v h1 h2=>by
  rw[World.cell?_of_block (show W1.heap[c]?=w.heap[c]? from hB1.block c (by omega))];exact h2
 refine⟨D+1,[{ target:=.collected D,args:=#[] }],W1,{ target:=.fn (.func 160) #[.pointer (some ⟨Bs,0,none⟩)],args:=#[.func (.yield (D+1)) #[] #[]] },W1,160,
  #[.func (.yield (D+1)) #[] #[]]++#[.pointer (some ⟨Bs,0,none⟩)],W1,?_,?_,?_,?_,fun _=>by omega,?_⟩
 ·subst hD
  rw[← hW1];exact run_enterLoop_outer _ _ _ _ _
 ·simp only[resolve,hg]
  simp[go_sem]
 ·intro f' hf'
  exact trivial
 ·simp[invoke,go_sem]
 ·have hend:∀ (jump:Option Code) (W3:World),W3.heap[D+1]?=some (rec_ .busy none) →
    (Instr.endRound (D+1) jump).run Tryz.prog W3=.ok (.bool jump.isNone) (W3.putObj (D+1) (rec_ (if jump.isNone then .ready else .done) jump)):=fun jump W3 h=>run_endRound (P:=Tryz.prog) jump h
  have hcall:∀ (J Jx:Nat→World→Prop),(∀ k W,J k W→k < len→YieldAt Fence.wide (n - 1 - 1) Tryz.prog (D+1) #[.int .i64 ((len - 1 - k:Nat):Int),.int .i64 (zs.getD (len - 1 - k) 0)] W fun e W'=>
    (e=.returned (.bool true)∧J (k+1) W'∧W'.heap[Bs]?=W.heap[Bs]?∧W'.heap[b]?=W.heap[b]?)∨(e=.returned (.bool false)∧Jx (k+1) W'))→J 0 W1 →
    CallsIn Fence.wide (n - 1) Tryz.prog 160 #[.func (.yield (D+1)) #[] #[],.pointer (some ⟨Bs,0,none⟩)] W1 fun e W'=>(∃ v,e=.returned v)∧(J len W'∨∃ k,k < len∧Jx (k+1) W'):=fun J Jx hY h0=>by
   rcases hsl with ⟨rfl,hBs⟩|⟨cap,hBs,hc⟩
   ·exact(back_nil (n - 1) (D+1) Bs J W1 (hold _ _ _ hlt.1 hBs) h0).mono fun e W' ⟨h1,h2⟩=>⟨h1,.inl h2⟩
   ·exact back1_in (n - 1) (by omega) (D+1) Bs b len cap zs hlen J Jx hY W1 (hold _ _ _ hlt.1 hBs) (fun j hj=>hold _ _ _ hlt.2 (hc j hj)) h0
  refine(hcall (fun k W=>I W1 k W∧W.heap[D+1]?=some (rec_ .ready none)∧W.heap[D]?=some (.deferred (some []))∧D+2≤W.heap.size)
   (fun k W=>∃ id,Ix W1 id k W∧W.heap[D+1]?=some (rec_ .done (some (.exit id)))∧W.heap[D]?=some (.deferred (some []))∧D+2≤W.heap.size) ?_ ⟨hI0 W1 (by rw[← hD];exact hB1) hs1,hl1,hd1,by omega⟩).mono ?_
  ·rintro k W ⟨hi,hl,hd,hsz⟩ hk
   have hy:=run_yield (P:=Tryz.prog) (args:=#[.int .i64 ((len - 1 - k:Nat):Int),.int .i64 (zs.getD (len - 1 - k) 0)]) hl (by rw[hps];rfl);refine⟨_,_,_,_,hy,roundIn_of_wpIn hfn (hassign _ _ _ W _ ⟨_,run_beginRound hl rfl,?_⟩)⟩;have hk2:Kept (fun x=>x=D∨x=D+1) W (W.putObj (D+1) (rec_ .busy none)):=putObj_kept _ (.inr rfl);have hl2:(W.putObj (D+1) (rec_ .busy none)).heap[D+1]?=some (rec_ .busy none):=World.putObj_heap_same (by omega);have hd2:(W.putObj (D+1) (rec_ .busy none)).heap[D]?=some (.deferred (some [])):=(World.putObj_heap_other (by omega)).trans hd;have ho2:∀ c,c < D→(W.putObj (D+1) (rec_ .busy none)).heap[c]?=W.heap[c]?:=fun c hc=>World.putObj_heap_other (by omega);refine wpIn_mono (hbody W1 (D+1) k _ (hSt W1 k _ _ hk2 (by simp) hi) hk (by simpa using hsz)) ?_;rintro e a3 W3 hp;cases e with
   | normal=>
    obtain⟨⟨p1,p2⟩,⟨p3,p4⟩,p5⟩:=hp;have hl3:=p2.trans hl2;have hsz3:D+2≤W3.heap.size:=by
     have:=(Array.getElem?_eq_some_iff.1 hl3).1;omega
    refine⟨_,_,hend none W3 hl3,.inl ⟨rfl,⟨hSt W1 _ _ _ (putObj_kept _ (.inr rfl)) (by simp) p5,World.putObj_heap_same (by omega),(World.putObj_heap_other (by omega)).trans (p1.trans hd2),by simpa using hsz3⟩,?_,?_⟩⟩
    ·exact(World.putObj_heap_other (by omega)).trans (p3.trans (ho2 _ hlt.1))
    ·exact(World.putObj_heap_other (by omega)).trans (p4.trans (ho2 _ hlt.2))
   | exit id=>
    obtain⟨⟨p1,p2⟩,p5⟩:=hp;have hl3:=p2.trans hl2;have hsz3:D+2≤W3.heap.size:=by
     have:=(Array.getElem?_eq_some_iff.1 hl3).1;omega
    exact⟨_,_,hend (some (.exit id)) W3 hl3,.inr ⟨rfl,id,hSx W1 id _ _ _ (putObj_kept _ (.inr rfl)) (by simp) p5,World.putObj_heap_same (by omega),(World.putObj_heap_other (by omega)).trans (p1.trans hd2),by simpa using hsz3⟩⟩
   | ret=>exact hp.elim
   | goto t=>exact hp.elim
   | panic ch=>exact hp.elim
   | outgrown=>exact hp.elim
  ·rintro e W2 ⟨⟨v,rfl⟩,(⟨hi,hl,hd,hsz⟩ | ⟨k,hk,id,hi,hl,hd,hsz⟩)⟩
   ·exact⟨none,_,run_endLoop (P:=Tryz.prog) hl (by simp),hdone W1 _ (hSt W1 _ _ _ (putObj_kept _ (.inr rfl)) (by simp) hi) ((World.putObj_heap_other (by omega)).trans hd)⟩
   ·exact⟨some (.exit id),_,run_endLoop (P:=Tryz.prog) hl (by simp),hstop W1 id k _ hk (hSx W1 id _ _ _ (putObj_kept _ (.inr rfl)) (by simp) hi) ((World.putObj_heap_other (by omega)).trans hd)⟩
end Go.Proofs.YtigeldkbfbcpmaaGreat
namespace Go.Proofs.YtigeldkbfbcpmaaGreat
open Go.RowKit Go.Kpt
section
variable {P:Program} {ops:Array Oper} {Q:Exit→Act→World→Prop} {md:Region.Mode} {S:World→Prop} {l n:Nat}
theorem op_in{o:Oper}{a:Act}{w:World}{K:Act→World→Prop}(hd:∀ c,o.op≠.defer c)(h:o.wp P a w K Q):o.wpIn (Fence.wide.inRound l) n P a w K Q:=by
 refine⟨fun f _=>trivial,?_⟩;show o.uponIn (Fence.wide.inRound l) n P a K Q ((o.semAt (some l) a.eval).run P w);rw[Oper.semAt_some l _ o hd];have hdep:(Fence.wide.inRound l).depth.isSome=true→1≤n:=fun e=>by cases e
 unfold Oper.wp at h;generalize (execOp a.eval o).run P w=r at h ⊢;cases r with
 | ok x w'=>
  cases x with
  | value v=>exact h
  | skip=>exact h
  | defer d=>exact h
  | enter f args=>
   refine⟨hdep,(callsIn_wide (n:=n - 1)).2 ?_⟩;have h:Calls P f args w' fun e w''=>_:=h;exact h
  | row row args=>
   have h:Rows P row args w' fun v w''=>_:=h;exact⟨hdep,fun c cs _=>let ⟨v,w'',r,s⟩:=h c cs;⟨v,w'',r,stepsIn_wide.2 s⟩⟩
  | _=>exact h.elim
 | halt x w'=>
  cases x <;> first | exact h | exact h.elim
theorem opsIn_of{i:Nat}{K K':Act→World→Prop}{a:Act}{w:World}(hd:∀ (o:Oper),ops[i]?=some o→∀ c,o.op≠.defer c)(hL:¬ LetsOut Q)(hK:∀ a w,K a w→K' a w)(h:wpOp P ops Q i K a w):wpOpIn (Fence.wide.inRound l) n P ops Q i K' a w:=by
 unfold wpOp at h;unfold wpOpIn;cases ho:ops[i]? with
 | none=>rw[ho] at h;exact hK _ _ h
 | some o=>
  rw[ho] at h;simp only at h ⊢;split
  ·rename_i hw
   rw[if_pos hw] at h;rcases h with h|⟨-,h⟩
   ·exact Oper.wpIn_mono hK (op_in (hd o ho) h)
   ·exact absurd h hL
  ·rename_i hw
   rw[if_neg hw] at h;exact⟨fun f _=>trivial,hK _ _ h⟩
theorem anyIn_of(hd:∀ (i:Nat) (o:Oper),ops[i]?=some o→∀ c,o.op≠.defer c)(hL:¬ LetsOut Q):∀ (fuel:Nat) (listed:Array Bool) (a:Act) (w:World),wpAnyH P md ops Q S fuel listed a w→wpAnyIn (Fence.wide.inRound l) n P md ops Q fuel listed a w
 | 0,_,_,_,h=>h
 | fuel+1,_,_,_,h=>⟨h.1,fun i hi=>opsIn_of (hd i) hL (fun a' w' h'=>anyIn_of hd hL fuel _ a' w' h'.2) (h.2 i hi)⟩
def noDefer(ops:Array Oper):Bool:=ops.toList.all fun o=>match o.op with | .defer _=>false | _=>true
theorem noDefer_spec(h:noDefer ops=true):∀ (i:Nat) (o:Oper),ops[i]?=some o→∀ c,o.op≠.defer c:=by
 intro i o ho c hc;have h1:o ∈ ops.toList:=by
  rw[Array.mem_toList_iff];exact Array.mem_of_getElem? ho
 have h2:=List.all_eq_true.1 h o h1;rw[hc] at h2;cases h2
theorem region_held_in{id:Nat}{a:Act}{w:World}(hm:P.follows .mixedOrders=true)(hd:noDefer ops=true)(hL:¬ LetsOut Q)(hS:S w.drew)
  (h:S w.drew→wpAnyH P .any ops Q S ops.size (Array.replicate ops.size false) a w.drew):(Code.region id ops true).wpIn (Fence.wide.inRound l) n P Q a w:=
 wpIn_region_any hm (anyIn_of (noDefer_spec hd) hL _ _ _ _ (h hS))
end
theorem tkH{P:Program}{md:Region.Mode}{ops:Array Oper}{Q:Exit→Act→World→Prop}{S:World→Prop}(i:Nat){oi:Oper}{v:Value}{fuel:Nat}{listed:Array Bool}{a:Act}{w:World}{rest:List Oper}(hi':ops.toList.drop i=oi :: rest)
  (hy:∀ w,S w→(execOp a.eval oi).run P w=.ok (.value v) w)
  (h:wpAnyH P md ops Q S fuel (listed.setIfInBounds i true) (a.put oi.dst v) w)
  (hw:Region.wanted oi (yielded ops a.tmps)=true:=by rfl)
  (hs:Region.noSelect ops=true:=by kernel_rfl) (hf:Region.free md ops listed i=true:=by kernel_rfl) (hr:(Region.ready md ops listed).contains i=true:=by kernel_rfl)
  (hQ:∀ c a w,Q (.panic c) (a.put oi.dst v) w→Q (.panic c) a w:=by exact fun _ _ _ h=>h)
  (hS:S w:=by assumption):wpAnyH P md ops Q S (fuel+1) listed a w:=by
 have hi:ops[i]?=some oi:=by
  have h1:=congrArg (fun l=>l[0]?) hi';simpa[List.getElem?_drop] using h1
 exact wpAnyH_take hi hs hf hr hQ (Or.inl ⟨hw,hy⟩) hS h
def ac4(a b c d:Int):Array Value:=#[.int .i64 a,.int .i64 b,.int .i64 c,.int .i64 d]
def cc4(x:Bool)(b c d:Int):Array Value:=#[.bool x,.int .i64 b,.int .i64 c,.int .i64 d]
theorem step_bool (xs ys : Array Value) (fd : Field) (fs : List Field) (a b : Bool) (w : World) (hn : fd.name ≠ "_") (ht : Tryz.prog.underlying fd.type = some .bool) (ha : xs[fd.offset]? = some (.bool a)) (hb : ys[fd.offset]? = some (.bool b)) :
  (Op.eqFields 9999 xs ys (fd :: fs)).run Tryz.prog w=if a=b then (Op.eqFields 9999 xs ys fs).run Tryz.prog w else .ok false w:=by
 have p1:(part fd.type xs fd.offset).run Tryz.prog w=.ok (.bool a) w:=by simp[part,isAgg,run_underlying ht,ha]
 have p2:(part fd.type ys fd.offset).run Tryz.prog w=.ok (.bool b) w:=by simp[part,isAgg,run_underlying ht,hb]
 have p3:=run_equalIn_bool (P:=Tryz.prog) w 9998 fd.type a b ht;simp only[Op.eqFields,hn,ne_eq,not_false_eq_true,if_true,Sem.run_bind,p1,p2,p3,Result.andThen_ok];by_cases h:a=b
 ·subst h;simp
 ·simp[h]
theorem eqIn_an(a b c d a' b' c' d':Int)(w:World):(Op.equalIn 10000 38 (.agg (ac4 a b c d)) (.agg (ac4 a' b' c' d'))).run Tryz.prog w=.ok (decide (a=a'∧b=b'∧c=c'∧d=d')) w:=by
 have hs:Tryz.prog.stoodInHeld 38=false:=by kernel_rfl
 have hu:=Tryz.underlying38;rw[run_equalIn_struct (P:=Tryz.prog) w 9999 38 (ac4 a b c d) (ac4 a' b' c' d') (by unfold Program.fieldsOf;rw[hu]) hs];unfold Program.fieldsOf;rw[hu];dsimp only;rw[P16.step_ev _ _ _ _ a a' w (by simp) Tryz.underlying34 rfl rfl,P16.step_ev _ _ _ _ b b' w (by simp) Tryz.underlying3 rfl rfl,P16.step_ev _ _ _ _ c c' w (by simp) Tryz.underlying35 rfl rfl,P16.step_ev _ _ _ _ d d' w (by simp) Tryz.underlying36 rfl rfl];by_cases h1:a=a'
 ·by_cases h2:b=b'
  ·by_cases h3:c=c'
   ·by_cases h4:d=d'
    ·simp[h1,h2,h3,h4,Op.eqFields]
    ·simp[h1,h2,h3,h4]
   ·simp[h1,h2,h3]
  ·simp[h1,h2]
 ·simp[h1]
theorem eql_an(a b c d a' b' c' d':Int)(w:World):(binOp .eql 38 (.agg (ac4 a b c d)) (.agg (ac4 a' b' c' d'))).run Tryz.prog w=.ok (.bool (decide (a=a'∧b=b'∧c=c'∧d=d'))) w:=by
 rw[run_eql_struct,eqIn_an];rfl
theorem neq_an(a b c d a' b' c' d':Int)(w:World):(binOp .neq 38 (.agg (ac4 a b c d)) (.agg (ac4 a' b' c' d'))).run Tryz.prog w=.ok (.bool (!decide (a=a'∧b=b'∧c=c'∧d=d'))) w:=by
 rw[run_neq_struct,eqIn_an];rfl
theorem guard_an(op:BinOp)(x y:Operand)(xs ys:Array Value)(w:World):(eqGuard op 38 x y (.agg xs) (.agg ys)).run Tryz.prog w=.ok () w:=run_eqGuard_agg (P:=Tryz.prog) w op 38 x y xs ys (by kernel_rfl)
theorem eqIn_cmd(x:Bool)(b c d:Int)(w:World):(Op.equalIn 10000 43 (.agg (cc4 x b c d)) (.agg (cc4 x b c d))).run Tryz.prog w=.ok true w:=by
 have hs:Tryz.prog.stoodInHeld 43=false:=by kernel_rfl
 have hu:=Tryz.underlying43;rw[run_equalIn_struct (P:=Tryz.prog) w 9999 43 (cc4 x b c d) (cc4 x b c d) (by unfold Program.fieldsOf;rw[hu]) hs];unfold Program.fieldsOf;rw[hu];dsimp only;rw[step_bool _ _ _ _ x x w (by simp) Tryz.underlying4 rfl rfl,P16.step_ev _ _ _ _ b b w (by simp) Tryz.underlying3 rfl rfl,P16.step_ev _ _ _ _ c c w (by simp) Tryz.underlying3 rfl rfl,P16.step_ev _ _ _ _ d d w (by simp) Tryz.underlying3 rfl rfl];simp[Op.eqFields]
theorem neq_cmd(x:Bool)(b c d:Int)(w:World):(binOp .neq 43 (.agg (cc4 x b c d)) (.agg (cc4 x b c d))).run Tryz.prog w=.ok (.bool false) w:=by
 rw[run_neq_struct,eqIn_cmd];rfl
theorem guard_cmd(op:BinOp)(x y:Operand)(xs ys:Array Value)(w:World):(eqGuard op 43 x y (.agg xs) (.agg ys)).run Tryz.prog w=.ok () w:=run_eqGuard_agg (P:=Tryz.prog) w op 43 x y xs ys (by kernel_rfl)
theorem eqIn_bx(x:P12.Bx)(w:World):(Op.equalIn 10000 70 (.agg (P12.bc x)) (.agg (P12.bc x))).run Tryz.prog w=.ok true w:=by
 have hs:Tryz.prog.stoodInHeld 70=false:=by kernel_rfl
 have hu:=Tryz.underlying70;rw[run_equalIn_struct (P:=Tryz.prog) w 9999 70 (P12.bc x) (P12.bc x) (by unfold Program.fieldsOf;rw[hu]) hs];unfold Program.fieldsOf;rw[hu];dsimp only;rw[P16.step_ev _ _ _ _ x.id x.id w (by simp) Tryz.underlying3 rfl rfl,P16.step_ev _ _ _ _ x.fn x.fn w (by simp) Tryz.underlying3 rfl rfl,P16.step_ev _ _ _ _ x.host x.host w (by simp) Tryz.underlying3 rfl rfl,P16.step_ev _ _ _ _ x.mem x.mem w (by simp) Tryz.underlying3 rfl rfl,
  P16.step_ev _ _ _ _ x.st x.st w (by simp) Tryz.underlying68 rfl rfl,step_bool _ _ _ _ x.bound x.bound w (by simp) Tryz.underlying4 rfl rfl,step_bool _ _ _ _ x.pin x.pin w (by simp) Tryz.underlying4 rfl rfl,P16.step_ev _ _ _ _ x.since x.since w (by simp) Tryz.underlying2 rfl rfl]
 simp[Op.eqFields]
theorem neq_bx(x:P12.Bx)(w:World):(binOp .neq 70 (.agg (P12.bc x)) (.agg (P12.bc x))).run Tryz.prog w=.ok (.bool false) w:=by
 rw[run_neq_struct,eqIn_bx];rfl
theorem guard_bx(op:BinOp)(x y:Operand)(xs ys:Array Value)(w:World):(eqGuard op 70 x y (.agg xs) (.agg ys)).run Tryz.prog w=.ok () w:=run_eqGuard_agg (P:=Tryz.prog) w op 70 x y xs ys (by kernel_rfl)
end Go.Proofs.YtigeldkbfbcpmaaGreat
