/- The walk of WholeStays: the body of the law's function, step by step, returns true. -/
import Derived.Deep.CutRange
import Derived.BigQuiet
import Derived.BigRegion
import Derived.Test.YtigeldkbfbcpmaaGreatM45
import Derived.Test.YtigeldkbfbcpmaaGreatM41
import Derived.Test.YtigeldkbfbcpmaaGreatM43
import Derived.Test.YtigeldkbfbcpmaaGreatM17
set_option linter.unusedVariables false
set_option linter.unusedSectionVars false
set_option linter.unusedSimpArgs false
set_option maxRecDepth 100000
set_option maxHeartbeats 8000000
namespace Go.Proofs.YtigeldkbfbcpmaaGreat
open Go.RowKit Go.Kpt
end Go.Proofs.YtigeldkbfbcpmaaGreat
namespace Go.Proofs.YtigeldkbfbcpmaaGreat
open Go.RowKit Go.Kpt
theorem wa_gone(s:St)(a:Nat→Int)(i:Nat):goneS (wa s a) i=wa (goneS s i) a:=by
 unfold goneS;show (match s.boxes[i]? with | none=>_ | some x=>_)=_;cases s.boxes[i]? <;> rfl
theorem wa_kill(s:St)(a:Nat→Int)(i:Nat):killS (wa s a) i=wa (killS s i) a:=by
 unfold killS;rw[wa_gone];show (match s.boxes[i]? with | none=>_ | some x=>_)=_;cases s.boxes[i]? <;> rfl
theorem wa_idle(s:St)(a:Nat→Int)(i:Nat)(e:Int):idleS (wa s a) i e=wa (idleS s i e) a:=by
 unfold idleS;rw[wa_kill];show (match s.boxes[i]? with | none=>_ | some x=>if e≤s.now then _ else match s.fns x.fn.toNat with | none=>_ | some f=>_)=_;cases s.boxes[i]? with
 | none=>rfl
 | some x=>
  dsimp only;split
  ·rfl
  ·cases s.fns x.fn.toNat <;> rfl
theorem wa_start(s:St)(a:Nat→Int)(f h:Nat):startS (wa s a) f h=wa (startS s f h) a:=by
 unfold startS;show (match s.fns f with | none=>_ | some x=>_)=_;cases s.fns f <;> rfl
theorem wa_pinB(s:St)(a:Nat→Int)(i:Nat)(v:Bool):pinB (wa s a) i v=wa (pinB s i v) a:=by
 unfold pinB;show (match s.boxes[i]? with | some x=>_ | none=>_)=_;cases s.boxes[i]? <;> rfl
theorem wa_takeB(s:St)(a:Nat→Int)(i:Nat):takeB (wa s a) i=wa (takeB s i) a:=by
 unfold takeB;show (match s.boxes[i]? with | some x=>_ | none=>_)=_;cases s.boxes[i]? <;> rfl
theorem wa_evict1(s:St)(a:Nat→Int)(h:Nat):evict1 (wa s a) h=wa (evict1 s h) a:=by
 unfold evict1;exact wa_kill { s with cac:=cset s.cac h (HeapPure.drop P09.lt ((s.cac h).getD ([],0)).1 (HeapPure.kk ((s.cac h).getD ([],0)).1 0),max ((s.cac h).getD ([],0)).2 ((HeapPure.vv ((s.cac h).getD ([],0)).1 0).n / (HeapPure.vv ((s.cac h).getD ([],0)).1 0).d)) } a _
theorem wa_evictS(mem:Int)(h:Nat)(a:Nat→Int):∀ (n:Nat) (s:St),evictS mem h n (wa s a)=wa (evictS mem h n s) a:=by
 intro n
 induction n with
 | zero=>intro s;rfl
 | succ n ih=>
  intro s;unfold evictS;rw[wa_evict1,ih];show (if P13.free (s.hosts h) < mem then _ else _)=_;split <;> rfl
theorem wa_roomFrom(mem:Int)(a:Nat→Int):∀ (n h:Nat) (s:St),roomFrom mem n h (wa s a)=(wa (roomFrom mem n h s).1 a,(roomFrom mem n h s).2):=by
 intro n
 induction n with
 | zero=>intro h s;rfl
 | succ n ih=>
  intro h s;unfold roomFrom;rw[wa_evictS,ih];show (if upH s.hosts h=true∧mem≤freeAll s h then _ else _)=_;split <;> rfl
theorem wa_room(s:St)(a:Nat→Int)(mem:Int):roomS (wa s a) mem=(wa (roomS s mem).1 a,(roomS s mem).2):=by
 unfold roomS;rw[wa_roomFrom];show (match P13.fitK s.hosts mem 32 with | some h=>_ | none=>_)=_;cases P13.fitK s.hosts mem 32 <;> rfl
theorem wa_unpin(f:Nat)(s:St)(a:Nat→Int)(id:Int):unpin f (wa s a) id=wa (unpin f s id) a:=by
 unfold unpin;rw[wa_pinB,wa_idle];show (if idleB s (id.toNat - 1)=true then _ else _)=_;split <;> rfl
theorem wa_pin1(s:St)(a:Nat→Int)(i:Nat):pin1 (wa s a) i=wa (pin1 s i) a:=by
 unfold pin1;rw[wa_takeB,wa_pinB]
theorem wa_pinMore(s:St)(a:Nat→Int)(f:Nat):pinMore (wa s a) f=(wa (pinMore s f).1 a,(pinMore s f).2):=by
 unfold pinMore;show (match spareS s f with | some i=>(pin1 (wa s a) i,true) | none=>match roomS (wa s a) (memF s f) with | (s1,none)=>(s1,false) | (s1,some h)=>(pin1 (startS s1 f h) s1.boxes.length,true))=_;rw[wa_room];cases spareS s f with
 | some i=>dsimp only;rw[wa_pin1]
 | none=>
  dsimp only;obtain⟨s1,k⟩:=roomS s (memF s f);cases k with
  | none=>rfl
  | some h=>
   dsimp only;rw[wa_start,wa_pin1];rfl
theorem wa_pinUp(f:Nat)(a:Nat→Int):∀ (n:Nat) (s:St),pinUp f n (wa s a)=wa (pinUp f n s) a:=by
 intro n
 induction n with
 | zero=>intro s;rfl
 | succ n ih=>
  intro s;unfold pinUp;rw[wa_pinMore];dsimp only;rw[ih];split <;> rfl
theorem wa_fold(g:St→Int→St)(a:Nat→Int)(hg:∀ s x,g (wa s a) x=wa (g s x) a):∀ (l:List Int) (s:St),l.foldl g (wa s a)=wa (l.foldl g s) a:=by
 intro l
 induction l with
 | nil=>intro s;rfl
 | cons x l ih=>intro s;rw[List.foldl_cons,List.foldl_cons,hg,ih]
theorem wa_keep(f:Nat)(s:St)(a:Nat→Int):keepS f (wa s a)=wa (keepS f s) a:=by
 unfold keepS;show (match s.fns f with | none=>wa s a | some x=>pinUp f (x.keep - (pinnedL (((pinnedL s f).drop x.keep).reverse.foldl (unpin f) (wa s a)) f).length) (((pinnedL s f).drop x.keep).reverse.foldl (unpin f) (wa s a)))=_;cases s.fns f with
 | none=>rfl
 | some x=>
  dsimp only;rw[wa_fold (unpin f) a (fun s x=>wa_unpin f s a x),wa_pinUp];rfl
theorem wa_keepAll(s:St)(a:Nat→Int):keepAllS (wa s a)=wa (keepAllS s) a:=by
 unfold keepAllS;exact wa_fold (fun s f=>keepS f.toNat s) a (fun s x=>wa_keep x.toNat s a) (fids s) s
theorem wa_ahead(s:St)(a:Nat→Int)(f:Nat):aheadS (wa s a) f=wa (aheadS s f) a:=by
 unfold aheadS;show (match s.fns f with | none=>wa s a | some x=>match P13.fitK s.hosts x.mem 32 with | none=>wa s a | some h=>if 0 < ((ids s).filter (bp s fun b=>b.fn == (f:Int))).length then wa s a else { startS (wa s a) f h with unt:=gput s.unt s.next x.fin })=_;cases s.fns f with
 | none=>rfl
 | some x=>
  dsimp only;cases P13.fitK s.hosts x.mem 32 with
  | none=>rfl
  | some h=>dsimp only;rw[wa_start];split <;> rfl
theorem wa_time1(s:St)(a:Nat→Int):time1 (wa s a)=wa (time1 s) a:=by
 show (if (HeapPure.kk s.tim 0).1=0 then killS (wa { s with tim:=HeapPure.drop P14.lt s.tim (HeapPure.kk s.tim 0) } a) _ else aheadS (wa { s with tim:=HeapPure.drop P14.lt s.tim (HeapPure.kk s.tim 0) } a) _)=wa (if _ then _ else _) a;rw[wa_kill,wa_ahead];split <;> rfl
theorem wa_times(a:Nat→Int):∀ (n:Nat) (s:St),timesS n (wa s a)=wa (timesS n s) a:=by
 intro n
 induction n with
 | zero=>intro s;rfl
 | succ n ih=>
  intro s;unfold timesS;rw[wa_time1,ih];show (if 0 < s.tim.length∧(HeapPure.vv s.tim 0).at_≤s.now then _ else _)=_;split <;> rfl
theorem wa_tick(s:St)(a:Nat→Int):tickS (wa s a)=wa (tickS s) a:=by
 unfold tickS;show (if s.now=1099511627776 then _ else keepAllS (timesS s.tim.length (wa { s with now:=s.now+1,tok:=fun a=>(s.tok a).map bktTick } a)))=_;rw[wa_times,wa_keepAll];split <;> rfl
theorem wa_account(s:St)(a:Nat→Int)(e:P16.Evt):accountS (wa s a) e=(wa (accountS s e).1 a,(accountS s e).2):=by
 unfold accountS;show (if e 3 > 1000∨e 4 > 1000∨e 1≥16∨e 2 > 1000 then _ else if e 2 < P11.rs s.quo.fs (e 1).toNat 64 then _ else _)=_;split
 ·rfl
 split <;> rfl
theorem wa_function(s:St)(a:Nat→Int)(e:P16.Evt):functionS (wa s a) e=(wa (functionS s e).1 a,(functionS s e).2):=by
 unfold functionS;show (if e 1≥64∨e 5≥16∨e 8 > 1000∨e 9 > 1000∨e 6 < 1∨e 6 > 4096∨e 7 < 1∨e 7 > 1000 then _ else
  if s.tok (e 5).toNat=none then _ else if clash s e=true then _ else if e 8 > 0∧e 9 > e 8 then _ else if P11.rs s.quo.fs (e 5).toNat 64 - (s.quo.fs (e 1).toNat).res+e 8 > (s.quo.ac (e 5).toNat).lim then _ else
  (keepS (e 1).toNat (wa { s with quo:=s.quo.setF (e 1).toNat ⟨true,(e 5).toNat,e 8,(s.quo.fs (e 1).toNat).bu⟩,fns:=fset s.fns (e 1).toNat (newFn s e) } a),0))=_
 rw[wa_keep];split
 ·rfl
 split
 ·rfl
 split
 ·rfl
 split
 ·rfl
 split <;> rfl
theorem wa_host(s:St)(a:Nat→Int)(e:P16.Evt):hostS (wa s a) e=(wa (hostS s e).1 a,(hostS s e).2):=by
 unfold hostS;show (if e 1≥32∨e 3 < 1∨e 3 > 4096 then _ else if (s.hosts (e 1).toNat).th=true then _ else (keepAllS (wa { s with hosts:=P13.put s.hosts (e 1).toNat ⟨true,false,e 3,0⟩,cac:=fun j=>if j=(e 1).toNat then none else s.cac j } a),0))=_;rw[wa_keepAll];split
 ·rfl
 split <;> rfl
theorem wa_drain1(s:St)(a:Nat→Int)(x:Int):drain1 (wa s a) x=wa (drain1 s x) a:=by
 unfold drain1;rw[wa_pinB,wa_kill];show (if runsB s (x.toNat - 1)=true then _ else _)=_;split <;> rfl
theorem wa_drain(s:St)(a:Nat→Int)(n:Int):drainS (wa s a) n=(wa (drainS s n).1 a,(drainS s n).2):=by
 unfold drainS;show (if n≥32∨(s.hosts n.toNat).th=false then _ else if (s.hosts n.toNat).dr=true then _ else
  (keepAllS ((onHost { s with hosts:=P13.put s.hosts n.toNat (P13.swept { s.hosts n.toNat with dr:=true }) } n.toNat).foldl drain1 (wa { s with hosts:=P13.put s.hosts n.toNat (P13.swept { s.hosts n.toNat with dr:=true }) } a)),0))=_
 rw[wa_fold drain1 a (fun s x=>wa_drain1 s a x),wa_keepAll];split
 ·rfl
 split <;> rfl
theorem wa_fail(s:St)(a:Nat→Int)(n:Int):failS (wa s a) n=(wa (failS s n).1 a,(failS s n).2):=by
 unfold failS;show (if n≥32∨(s.hosts n.toNat).th=false then _ else
  (keepAllS { ((onHost s n.toNat).foldl (fun s id=>goneS s (id.toNat - 1)) (wa s a)) with hosts:=P13.put ((onHost s n.toNat).foldl (fun s id=>goneS s (id.toNat - 1)) (wa s a)).hosts n.toNat (if ((((onHost s n.toNat).foldl (fun s id=>goneS s (id.toNat - 1)) (wa s a)).hosts n.toNat).th=true) then ⟨false,false,0,0⟩ else ((onHost s n.toNat).foldl (fun s id=>goneS s (id.toNat - 1)) (wa s a)).hosts n.toNat) },0))=_
 rw[wa_fold (fun s id=>goneS s (id.toNat - 1)) a (fun s x=>wa_gone s a _)];obtain⟨t,ht⟩:∃ t,(onHost s n.toNat).foldl (fun s id=>goneS s (id.toNat - 1)) s=t:=⟨_,rfl⟩;rw[ht];split
 ·rfl
 ·refine Prod.ext ?_ rfl
  exact wa_keepAll { t with hosts:=P13.put t.hosts n.toNat (if (t.hosts n.toNat).th=true then ⟨false,false,0,0⟩ else t.hosts n.toNat) } a
theorem wa_begin(s:St)(a:Nat→Int)(f i:Nat):beginS (wa s a) f i=wa (beginS s f i) a:=by
 unfold beginS;show (match s.fns f,s.boxes[i]? with | some x,some b=>_ | _,_=>_)=_;cases s.fns f with
 | none=>rfl
 | some x=>cases s.boxes[i]? <;> rfl
theorem wa_call(s:St)(a:Nat→Int)(n:Int):callS (wa s a) n=(wa (callS s n).1 a,(callS s n).2):=by
 unfold callS;show (if n≥64∨(s.quo.fs n.toNat).th=false then _ else if P11.askR s.quo n.toNat=1 then _ else if P11.askR s.quo n.toNat=2 then _ else
  match s.fns n.toNat with
  | none=>_
  | some x=>match freeOf s n with
   | some i=>(beginS (wa s a) n.toNat i,_)
   | none=>match s.tok x.account with
    | none=>_
    | some t=>if t.t=0 then _ else
     match roomS (wa s a) x.mem with
     | (s1,none)=>(s1,_)
     | (s1,some h)=>_)=_
 split
 ·rfl
 split
 ·rfl
 split
 ·rfl
 cases s.fns n.toNat with
 | none=>rfl
 | some x=>
  dsimp only;cases freeOf s n with
  | some i=>dsimp only;rw[wa_begin]
  | none=>
   dsimp only;cases s.tok x.account with
   | none=>rfl
   | some t=>
    dsimp only;split
    ·rfl
    ·rw[wa_room]
     obtain⟨s1,k⟩:=roomS s x.mem;cases k with
     | none=>rfl
     | some h=>
      dsimp only;refine Prod.ext ?_ rfl;show beginS (startS (wa { s1 with tok:=tset s1.tok x.account { t with t:=t.t - 1 } } a) n.toNat h) n.toNat _=_;rw[wa_start,wa_begin];rfl
theorem wa_booted(s:St)(a:Nat→Int)(n:Int):bootedS (wa s a) n=(wa (bootedS s n).1 a,(bootedS s n).2):=by
 unfold bootedS;show (if isLive s n=false then _ else match s.boxes[n.toNat - 1]? with
  | none=>_
  | some b=>if (P12.booted b s.now).2=false then _ else
   (if P12.idle (P12.booted b s.now).1=true∧b.pin=false then idleS (wa { s with boxes:=s.boxes.set (n.toNat - 1) (P12.booted b s.now).1,unt:=gdel s.unt n } a) (n.toNat - 1) ((s.unt n).getD (s.now+(winS s b.fn.toNat).fin)) else wa { s with boxes:=s.boxes.set (n.toNat - 1) (P12.booted b s.now).1,unt:=gdel s.unt n } a,0))=_
 split
 ·rfl
 cases s.boxes[n.toNat - 1]? with
 | none=>rfl
 | some b=>
  dsimp only;rw[wa_idle];split
  ·rfl
  ·refine Prod.ext ?_ rfl
   dsimp only;split <;> rfl
theorem wa_broke(s:St)(a:Nat→Int)(n:Int):brokeS (wa s a) n=(wa (brokeS s n).1 a,(brokeS s n).2):=by
 unfold brokeS;rw[wa_gone];show (if isLive s n=false then _ else match s.boxes[n.toNat - 1]? with
  | none=>_
  | some b=>(keepS b.fn.toNat (wa (goneS s (n.toNat - 1)) a),0))=_
 split
 ·rfl
 cases s.boxes[n.toNat - 1]? with
 | none=>rfl
 | some b=>dsimp only;rw[wa_keep]
theorem wa_done(s:St)(a:Nat→Int)(n:Int):doneS (wa s a) n=(wa (doneS s n).1 a,(doneS s n).2):=by
 unfold doneS;show (if isLive s n=false then _ else match s.boxes[n.toNat - 1]? with
  | none=>_
  | some b=>if (P12.done b s.now).2=false then _ else
   (if upH s.hosts b.host.toNat=false then killS (wa { s with boxes:=s.boxes.set (n.toNat - 1) (P12.done b s.now).1,quo:=endQ s.quo b.fn.toNat,fns:=lastF s.fns b.fn.toNat s.now } a) (n.toNat - 1)
   else if b.pin=true then wa { s with boxes:=s.boxes.set (n.toNat - 1) (P12.done b s.now).1,quo:=endQ s.quo b.fn.toNat,fns:=lastF s.fns b.fn.toNat s.now } a
   else if 0 < (winS s b.fn.toNat).pre then
    killS (wa { ({ s with boxes:=s.boxes.set (n.toNat - 1) (P12.done b s.now).1,quo:=endQ s.quo b.fn.toNat,fns:=lastF s.fns b.fn.toNat s.now }:St) with
     fns:=(match lastF s.fns b.fn.toNat s.now b.fn.toNat with | some x=>fset (lastF s.fns b.fn.toNat s.now) b.fn.toNat { x with fin:=s.now+(winS s b.fn.toNat).fin } | none=>lastF s.fns b.fn.toNat s.now),tim:=HeapPure.setAt P14.lt s.tim (1,b.fn) ⟨s.now+(winS s b.fn.toNat).pre,1,b.fn⟩ } a) (n.toNat - 1)
   else idleS (wa { s with boxes:=s.boxes.set (n.toNat - 1) (P12.done b s.now).1,quo:=endQ s.quo b.fn.toNat,fns:=lastF s.fns b.fn.toNat s.now } a) (n.toNat - 1) (s.now+(winS s b.fn.toNat).fin),0))=_
 split
 ·rfl
 cases s.boxes[n.toNat - 1]? with
 | none=>rfl
 | some b=>
  dsimp only;rw[wa_kill,wa_kill,wa_idle];split
  ·rfl
  ·refine Prod.ext ?_ rfl
   dsimp only;split
   ·rfl
   split
   ·rfl
   split <;> rfl
theorem wa_act(s:St)(a:Nat→Int)(e:P16.Evt):actS (wa s a) e=(wa (actS s e).1 a,(actS s e).2):=by
 unfold actS;rw[wa_tick,wa_account,wa_function,wa_host,wa_drain,wa_fail,wa_call,wa_booted,wa_broke,wa_done];split
 ·rfl
 split
 ·rfl
 split
 ·rfl
 split
 ·rfl
 split
 ·rfl
 split
 ·rfl
 split
 ·rfl
 split
 ·rfl
 split <;> rfl
theorem nz_do(s:St)(a:Nat→Int)(e:P16.Evt):nz (doS (wa s a) e).1=nz (doS s e).1∧(doS (wa s a) e).2=(doS s e).2:=by
 unfold doS;by_cases h:P16.right e
 ·rw[if_pos h,if_pos h]
  dsimp only;rw[show ({ wa s a with out:=some [] }:St)=wa { s with out:=some [] } a from rfl,wa_act];exact⟨rfl,rfl⟩
 ·rw[if_neg h,if_neg h]
  exact⟨rfl,rfl⟩
theorem ansOf_same{s:St}{r:St×Nat}(hr:r.2≠0→r.1=s)(hk:(ansOf r).2.1=1):(ansOf r).1=s:=by
 unfold ansOf at hk ⊢;dsimp only at hk ⊢;by_cases h:r.2=0
 ·rw[if_pos h] at hk;cases hk
 ·exact hr h
theorem account_same(s:St)(e:P16.Evt)(h:(accountS s e).2≠0):(accountS s e).1=s:=by
 unfold accountS at h ⊢;split
 ·rfl
 split
 ·rfl
 ·rename_i h1 h2
  rw[if_neg h1,if_neg h2] at h;exact absurd rfl h
theorem function_same(s:St)(e:P16.Evt)(h:(functionS s e).2≠0):(functionS s e).1=s:=by
 unfold functionS at h ⊢;split
 ·rfl
 split
 ·rfl
 split
 ·rfl
 split
 ·rfl
 split
 ·rfl
 ·rename_i h1 h2 h3 h4 h5
  rw[if_neg h1,if_neg h2,if_neg h3,if_neg h4,if_neg h5] at h;exact absurd rfl h
theorem host_same(s:St)(e:P16.Evt)(h:(hostS s e).2≠0):(hostS s e).1=s:=by
 unfold hostS at h ⊢;split
 ·rfl
 split
 ·rfl
 ·rename_i h1 h2
  rw[if_neg h1,if_neg h2] at h;exact absurd rfl h
theorem drain_same(s:St)(n:Int)(h:(drainS s n).2≠0):(drainS s n).1=s:=by
 unfold drainS at h ⊢;split
 ·rfl
 split
 ·rfl
 ·rename_i h1 h2
  rw[if_neg h1,if_neg h2] at h;exact absurd rfl h
theorem fail_same(s:St)(n:Int)(h:(failS s n).2≠0):(failS s n).1=s:=by
 unfold failS at h ⊢;split
 ·rfl
 ·rename_i h1
  rw[if_neg h1] at h;exact absurd rfl h
theorem booted_same(s:St)(n:Int)(h:(bootedS s n).2≠0):(bootedS s n).1=s:=by
 unfold bootedS at h ⊢;split
 ·rfl
 split
 ·rfl
 split
 ·rfl
 ·rename_i h1 _ _ h2 h3
  rw[if_neg h1,h2] at h;dsimp only at h;rw[if_neg h3] at h;exact absurd rfl h
theorem broke_same(s:St)(n:Int)(h:(brokeS s n).2≠0):(brokeS s n).1=s:=by
 unfold brokeS at h ⊢;split
 ·rfl
 split
 ·rfl
 ·rename_i h1 _ _ h2
  rw[if_neg h1,h2] at h;exact absurd rfl h
theorem done_same(s:St)(n:Int)(h:(doneS s n).2≠0):(doneS s n).1=s:=by
 unfold doneS at h ⊢;split
 ·rfl
 split
 ·rfl
 split
 ·rfl
 ·rename_i h1 _ _ h2 h3
  rw[if_neg h1,h2] at h;dsimp only at h;rw[if_neg h3] at h;exact absurd rfl h
theorem call_same(s:St)(n:Int)(h:(callS s n).2.1=1):(callS s n).1=s:=by
 unfold callS at h ⊢;split
 ·rfl
 split
 ·rfl
 split
 ·rfl
 split
 ·rfl
 ·rename_i h1 h2 h3 _ _ h4
  rw[if_neg h1,if_neg h2,if_neg h3,h4] at h;dsimp only at h;split
  ·rename_i h5
   rw[h5] at h;exact absurd (show (2:Int)=1 from h) (by decide)
  ·rename_i h5
   rw[h5] at h;dsimp only at h;split
   ·rfl
   ·rename_i h6
    rw[h6] at h;dsimp only at h;split
    ·rfl
    ·rename_i h7
     rw[if_neg h7] at h;split
     ·rename_i h8
      rw[h8] at h;exact absurd (show (4:Int)=1 from h) (by decide)
     ·rename_i h8
      rw[h8] at h;exact absurd (show (3:Int)=1 from h) (by decide)
theorem act_same(s:St)(e:P16.Evt)(h:(actS s e).2.1=1):(actS s e).1=s:=by
 unfold actS at h ⊢;split
 ·rename_i h0
  rw[if_pos h0] at h;exact absurd (show (0:Int)=1 from h) (by decide)
 rename_i h0;rw[if_neg h0] at h;split
 ·rename_i h1;rw[if_pos h1] at h;exact ansOf_same (account_same s e) h
 rename_i h1;rw[if_neg h1] at h;split
 ·rename_i h2;rw[if_pos h2] at h;exact ansOf_same (function_same s e) h
 rename_i h2;rw[if_neg h2] at h;split
 ·rename_i h3;rw[if_pos h3] at h;exact ansOf_same (host_same s e) h
 rename_i h3;rw[if_neg h3] at h;split
 ·rename_i h4;rw[if_pos h4] at h;exact ansOf_same (drain_same s _) h
 rename_i h4;rw[if_neg h4] at h;split
 ·rename_i h5;rw[if_pos h5] at h;exact ansOf_same (fail_same s _) h
 rename_i h5;rw[if_neg h5] at h;split
 ·rename_i h6;rw[if_pos h6] at h;exact call_same s _ h
 rename_i h6;rw[if_neg h6] at h;split
 ·rename_i h7;rw[if_pos h7] at h;exact ansOf_same (booted_same s _) h
 rename_i h7;rw[if_neg h7] at h;split
 ·rename_i h8;rw[if_pos h8] at h;exact ansOf_same (broke_same s _) h
 rename_i h8;rw[if_neg h8] at h;exact ansOf_same (done_same s _) h
theorem nz_same(s:St)(ho:s.out=none)(e:P16.Evt)(h:(doS s e).2.1.1=1):nz (doS s e).1=nz s:=by
 unfold doS at h ⊢;by_cases hr:P16.right e
 ·rw[if_pos hr] at h ⊢
  dsimp only at h ⊢;rw[act_same _ e h];show wa _ _=wa _ _;cases s
  dsimp only at ho;subst ho;rfl
 ·rw[if_neg hr]
theorem do_out(s:St)(ho:s.out=none)(e:P16.Evt):(doS s e).1.out=none:=by
 unfold doS;split
 ·rfl
 ·exact ho
theorem nz_evs(l:List P16.Evt):∀ (s:St) (a:Nat→Int),nz (evs (wa s a) l).1=nz (evs s l).1:=by
 induction l with
 | nil=>intro s a;rfl
 | cons e l ih=>
  intro s a;have h:=(nz_do s a e).1;simp only[evs];have h1:nz (evs (nz (doS (wa s a) e).1) l).1=nz (evs (doS (wa s a) e).1 l).1:=ih _ _;have h2:nz (evs (nz (doS s e).1) l).1=nz (evs (doS s e).1 l).1:=ih _ _;rw[← h1,← h2,h]
theorem nz_less(l:List P16.Evt):∀ (s:St),s.out=none→nz (evs s (takenOf (evs s l).2)).1=nz (evs s l).1:=by
 induction l with
 | nil=>intro s _;rfl
 | cons e l ih=>
  intro s ho;simp only[evs,takenOf,List.filter_cons];by_cases h:(doS s e).2.1.1=1
  ·rw[if_neg (by simpa using h)]
   have h1:=ih _ (do_out s ho e);have h2:=nz_same s ho e h;have h3:∀ k,nz (evs (nz (doS s e).1) k).1=nz (evs (doS s e).1 k).1:=fun k=>nz_evs k _ _;have h4:∀ k,nz (evs (nz s) k).1=nz (evs s k).1:=fun k=>nz_evs k _ _;show nz (evs s (takenOf (evs (doS s e).1 l).2)).1=_;rw[← h4,← h2,h3];exact h1
  ·rw[if_pos (by simpa using h)]
   simp only[List.map_cons,evs];exact ih _ (do_out s ho e)
end Go.Proofs.YtigeldkbfbcpmaaGreat
namespace Go.Proofs.YtigeldkbfbcpmaaGreat
open Go.RowKit Go.Kpt
theorem bcells_snoc(l:List P12.Bx)(x:P12.Bx):bcells (l++[x])=bcells l++(P12.bc x).toList:=by simp[bcells]
theorem bcells_get(l:List P12.Bx):∀ (i j:Nat) (x:P12.Bx),l[i]?=some x→j < 8→(bcells l)[i*8+j]?=(P12.bc x)[j]?:=by
 induction l with
 | nil=>intro i j x h;simp at h
 | cons a l ih=>
  intro i j x h hj;have e:bcells (a :: l)=(P12.bc a).toList++bcells l:=rfl;have ha:(P12.bc a).toList.length=8:=rfl;cases i with
  | zero=>
   simp at h;subst h;rw[e,List.getElem?_append_left (by omega)];simp
  | succ i=>
   rw[e,List.getElem?_append_right (by rw[ha];omega),ha,show (i+1)*8+j - 8=i*8+j by omega];exact ih i j x (by simpa using h) hj
def OwnB(w:World)(base:Nat)(v:Value)(l:List P12.Bx):Prop:=w.ownsRow base 70 8 v l.length (bcells l)
def nbx:P12.Bx:=⟨0,0,0,0,0,false,false,0⟩
theorem OwnB.shape{w:World}{base:Nat}{v:Value}{l:List P12.Bx}(h:OwnB w base v l):∃ a cap,v=.slice a l.length cap∧l.length≤cap ∧
  ∀ i,i < l.length→∃ b,a=some ⟨b,0,none⟩∧base≤b∧b < w.heap.size∧w.cell? ⟨b,i*8,none⟩=some (.int .i64 (l.getD i nbx).id)∧w.cell? ⟨b,i*8+1,none⟩=some (.int .i64 (l.getD i nbx).fn)∧w.cell? ⟨b,i*8+2,none⟩=some (.int .i64 (l.getD i nbx).host)∧w.cell? ⟨b,i*8+3,none⟩=some (.int .i64 (l.getD i nbx).mem) ∧
   w.cell? ⟨b,i*8+4,none⟩=some (.int .i64 (l.getD i nbx).st)∧w.cell? ⟨b,i*8+5,none⟩=some (.bool (l.getD i nbx).bound)∧w.cell? ⟨b,i*8+6,none⟩=some (.bool (l.getD i nbx).pin)∧w.cell? ⟨b,i*8+7,none⟩=some (.int .i64 (l.getD i nbx).since):=by
 rcases h.2 with ⟨h1,h2⟩|⟨g,cap,cur,rfl,hb,hg,hl,hm,hs,ht⟩
 ·subst h1
  exact⟨none,0,by rw[h2],by omega,fun i hi=>by omega⟩
 ·refine⟨_,cap,rfl,hl,fun i hi=>?_⟩
  have hx:l[i]?=some l[i]:=List.getElem?_eq_getElem hi;have e:l.getD i nbx=l[i]:=by simp[List.getD_eq_getElem?_getD,hi]
  have key:∀ j,j < 8→w.cell? ⟨g,i*8+j,none⟩=(P12.bc l[i])[j]?:=fun j hj=>by
   rw[cell_of hg,← bcells_get l i j _ hx hj,← ht,List.getElem?_take,if_pos (by omega)];simp
  rw[e];exact⟨g,rfl,hb,lt_of hg,key 0 (by omega),key 1 (by omega),key 2 (by omega),key 3 (by omega),key 4 (by omega),key 5 (by omega),key 6 (by omega),key 7 (by omega)⟩
theorem info70:(Tryz.prog.info? 70).map (fun i=>(i.zero,i.size,i.bytes))=some (some (.agg #[.int .i64 0,.int .i64 0,.int .i64 0,.int .i64 0,.int .i64 0,.bool false,.bool false,.int .i64 0]),8,56):=by kernel_rfl
theorem boxesOf_len(s:St):(boxesOf s).length=(ids s).length:=by simp[boxesOf]
theorem boxesOf_next(s:St)(i:Nat)(h:i < (ids s).length):(boxesOf s).take (i+1)=(boxesOf s).take i++[s.boxes.getD (((ids s).getD i 0).toNat - 1) nbx]:=by
 rw[P16.take_snoc (boxesOf s) i (by rw[boxesOf_len];exact h) nbx];congr 2
 unfold boxesOf;have e:(ids s).getD i 0=(ids s)[i]:=by simp[List.getD_eq_getElem?_getD,h]
 rw[e,List.getD_eq_getElem?_getD,List.getElem?_map,List.getElem?_eq_getElem h];rfl
theorem boxes_any{w:World}{c:Nat}{s:St}{F:Nat→Prop}(h:Cr w c s F)(hN:s.boxes.length≤900000000):
  Calls Tryz.prog 19 #[.pointer (some ⟨c,0,none⟩)] w fun e w'=>∃ v,e=.returned v∧OwnB w' w.heap.size v (boxesOf s)∧Below w.heap.size w w':=by
 obtain⟨A,rfl,hS,hF⟩:=h;have hids:=ids_any s A F (by omega) w hS;have hil:=ids_len s;obtain⟨i0,hi0,iz0,iz1,iz2⟩:=info_parts info70;simp only[ptr] at hids;go_enter Tryz.func19,Tryz.ntmps19
 go_wp2_with fail
 refine hids.mono ?_;clear hids;rintro e w1 ⟨v,rfl,hv,hB1⟩;have hS1:=hS.below hB1;have hz1:=hB1.size;obtain⟨a,cap,rfl,hcap,-,hsl⟩:=hv.sl;obtain⟨n,hn⟩:∃ n,(ids s).length=n:=⟨_,rfl⟩;rw[hn] at hil hcap ⊢;have hnil:OwnB w1 w1.heap.size (.slice none 0 0) ((boxesOf s).take 0):=World.ownsRow_nil w1 w1.heap.size 70 8;clear hv;go_wp2_with fail
 go_loopw [3,9] (fun v k wr=>∃ i:Nat,k=.int .i64 i∧i≤n∧OwnB wr w1.heap.size v ((boxesOf s).take i)∧Kept (fun x=>w1.heap.size≤x) w1 wr) (fun _ k _=>n - (intOf k).toNat)
 case atStart=>exact⟨0,rfl,by omega,hnil,Kept.refl _ _⟩
 case round=>
  obtain⟨i,rfl,hi,hv,hK⟩:=hrel;clear hnil;by_cases hin:i < n
  ·have hS2:Sys wr s A F:=hS1.kept hK (fun x hx h=>by have:=hF x hx;omega)
   obtain⟨ov,hc,-⟩:=hS2.core;have c7:wr.cell? ⟨A.core,7,none⟩=some (.map (some A.boxM)):=(cell_of hc).trans rfl;obtain⟨b,off,rfl,hb,y0⟩:=(hsl.kept hK (fun x hx h=>by omega)) i (by omega);have hmem:(ids s).getD i 0 ∈ ids s:=P16.getD_mem _ _ (by omega) _;have hsome:=(ids_mem s A _).1 hmem;have hnx:=boxesOf_next s i (by omega);generalize (ids s).getD i 0=id at *;unfold mBox at hsome;split at hsome
   ·rename_i hc3
    obtain⟨j,hj⟩:∃ j:Nat,id=(j:Int)+1:=⟨id.toNat - 1,by omega⟩;subst hj;have hjl:j < s.boxes.length:=by omega
    have hlk:=hS2.look_box ((j:Int)+1) (WalkArith.wf_i64 (by omega)) (some (A.box j)) (by unfold mBox;rw[if_pos hc3,show ((j:Int)+1).toNat - 1=j by omega];rfl);have hx:s.boxes[j]?=some s.boxes[j]:=List.getElem?_eq_getElem hjl;have hge:s.boxes.getD (((j:Int)+1).toNat - 1) nbx=s.boxes[j]:=by rw[show ((j:Int)+1).toNat - 1=j by omega];simp[List.getD_eq_getElem?_getD,hjl]
    rw[hge] at hnx;obtain⟨own,hO,-⟩:=hS2;have hq:=(hO.at_ (.box j) _ hx).2;generalize s.boxes[j]=x at *;obtain⟨z0,z1,z2,z3,z4,z5,z6,z7⟩:=hq.cells;have hA:(wr.alloc (.cells (P12.bc x) 70)).heap[wr.heap.size]?=some (.cells (P12.bc x) 70 (0,0)):=heap_alloc_new _ _;have hv1:OwnB (wr.alloc (.cells (P12.bc x) 70)) w1.heap.size u3 ((boxesOf s).take i):=World.ownsRow.alloc hv _;have hK1:=hK.alloc (.cells (P12.bc x) 70);have hlt:=(boxesOf s).length_take (i:=i);rw[boxesOf_len] at hlt;have hzw:w1.heap.size≤(wr.alloc (.cells (P12.bc x) 70)).heap.size:=hK1.size;obtain⟨wa,hwa⟩:∃ wa,wr.alloc (.cells (P12.bc x) 70)=wa:=⟨_,rfl⟩;rw[hwa] at hA hv1 hK1 hzw;have hone:∀ u ∈ (P12.bc x).toList,u.oneCell'=true:=by intro u hu;simp[P12.bc] at hu;rcases hu with rfl|rfl|rfl|rfl|rfl|rfl|rfl|rfl <;> rfl
    have HA:=Lib.hid hA;simp only[P12.bc] at hwa;simp only[pv] at hlk;clear hq hO hS1 hc hx hge hA hv hK hmem;go_wp2_with (at_builtin;go_loud (
     refine wpList_append_own_at wa rfl _ _ 66 rfl w1.heap.size 70 i0 _ 8 56 Tryz.underlying66 hi0 iz0 iz1 iz2 rfl (by omega) u3 ((boxesOf s).take i).length (bcells ((boxesOf s).take i)) rfl hv1 ⟨wr.heap.size,0,none⟩ 1 1 (P12.bc x).toList rfl rfl (fun j u hj=>by
      have hplain:(⟨wr.heap.size,0,none⟩:Addr).add j=⟨wr.heap.size,j,none⟩:=by unfold Addr.add;split <;> simp_all
      rw[hplain];exact(cell_of HA.out).trans (by simpa using hj)) hone (by unfold maxLen;omega) (by omega) hzw ?_
     intro v4 w4 h1 h2 _ h4;have hv4:OwnB w4 w1.heap.size v4 ((boxesOf s).take (i+1)):=by
      unfold OwnB;rw[hnx,bcells_snoc,List.length_append];exact h1
     have hK4:Kept (fun x=>w1.heap.size≤x) w1 w4:=hK1.trans (Kept.of_grown h2) (fun x _ h=>(World.ownsRow.lt hv1 x h.symm).1);clear h1 h2 h4 hv1 hK1 hwa))
    exact⟨⟨i+1,rfl,by omega,hv4,hK4⟩,by simp[intOf];omega⟩
   ·cases hsome
  ·obtain rfl:i=n:=by omega
   rw[List.take_of_length_le (by rw[boxesOf_len];omega)] at hv;have hBr:Below w.heap.size w wr:=hB1.trans (hK.below hz1 (fun x hx h=>by omega));go_wp2_with fail
   go_returns
   refine⟨_,rfl,⟨hv.1,?_⟩,hBr⟩;rcases hv.2 with h1|⟨g,cap,cur,h0,hb',hr⟩
   ·exact .inl h1
   ·exact .inr ⟨g,cap,cur,h0,by omega,hr⟩
end Go.Proofs.YtigeldkbfbcpmaaGreat
namespace Go.Proofs.YtigeldkbfbcpmaaGreat
open Go.RowKit Go.Kpt
theorem stays_pure(R:List P16.Evt):(evs s0 (takenOf (evs s0 R).2)).1.now=(evs s0 R).1.now∧boxesOf (evs s0 (takenOf (evs s0 R).2)).1=boxesOf (evs s0 R).1:=by
 have h:=nz_less R s0 rfl;have e1:=congrArg St.now h;have e2:=congrArg boxesOf h;exact⟨e1,e2⟩
theorem takenOf_next(l:List Stp)(i:Nat)(h:i < l.length):takenOf (l.take (i+1))=takenOf (l.take i)++(if (l.getD i nstp).2.1.1≠1 then [(l.getD i nstp).1] else []):=by
 rw[P16.take_snoc l i h nstp];unfold takenOf;rw[List.filter_append,List.map_append];by_cases c:(l.getD i nstp).2.1.1≠1
 ·rw[if_pos c,List.filter_cons_of_pos (by simpa using c)];rfl
 ·rw[if_neg c,List.filter_cons_of_neg (by simpa using c)];rfl
theorem takenOf_len(l:List Stp):(takenOf l).length≤l.length:=by
 unfold takenOf;rw[List.length_map];exact List.length_filter_le _ _
end Go.Proofs.YtigeldkbfbcpmaaGreat
namespace Go.Proofs.YtigeldkbfbcpmaaGreat.P16
open Go.RowKit Go.Kpt WirePure
theorem allE_junk(junk:List Nat)(hj:(getE junk).2.2≠0):∀ (l:List Evt) (fuel c:Nat),(∀ f ∈ l,right f)→l.length+c≤16384→(l.flatMap encE++junk).length≤fuel →
  ∃ E,allE fuel (l.flatMap encE++junk) c=(l,(l.flatMap encE).length,E):=by
 intro l
 induction l with
 | nil=>
  intro fuel c _ _ hf;by_cases hn:junk=[]
  ·subst hn;exact⟨0,allE_nil fuel c⟩
  ·have hlen:0 < junk.length:=List.length_pos_iff.2 hn
   obtain⟨fuel,rfl⟩:∃ k,fuel=k+1:=⟨fuel - 1,by simp at hf;omega⟩;obtain⟨⟨f,n,e⟩,hg⟩:∃ x,getE junk=x:=⟨_,rfl⟩;rw[hg] at hj;exact⟨e,allE_err hn hg hj⟩
 | cons f l ih=>
  intro fuel c hr hl hf;have hp:=encE_pos f;have hg:=getE_enc (hr f (by simp)) (l.flatMap encE++junk);simp only[List.flatMap_cons,List.append_assoc,List.length_append,List.length_cons] at hf hl ⊢;obtain⟨fuel,rfl⟩:∃ k,fuel=k+1:=⟨fuel - 1,by omega⟩;have hne:encE f++(l.flatMap encE++junk)≠[]:=fun h=>by have:=congrArg List.length h;rw[List.length_append,List.length_nil] at this;omega
  obtain⟨E,hE⟩:=ih fuel (c+1) (fun x hx=>hr x (List.mem_cons_of_mem _ hx)) (by omega) (by simp only[List.length_append];omega);refine⟨E,?_⟩;rw[allE_next hne hg (by omega),List.drop_left,hE]
theorem all_junk(la:List Evt)(junk:List Nat)(h:la.length≤16384)(hj:(getE junk).2.2≠0):∃ E,allB (encM la++junk)=(rlm la,(encM la).length,E):=by
 have:=rlm_len la;exact allE_junk junk hj (rlm la) _ 0 (rlm_right la) (by omega) (Nat.le_refl _)
end Go.Proofs.YtigeldkbfbcpmaaGreat.P16
namespace Go.Proofs.YtigeldkbfbcpmaaGreat
open Go.RowKit Go.Kpt
theorem evs_step(l:List P16.Evt):∀ (s:St) (i:Nat),i < l.length→((evs s l).2.getD i nstp).1=l.getD i P16.noev:=by
 induction l with
 | nil=>intro s i h;simp at h
 | cons e l ih=>
  intro s i h;cases i with
  | zero=>rfl
  | succ i=>
   have:=ih (doS s e).1 i (by simpa using h);simp only[evs,List.getD_cons_succ] at this ⊢;exact this
theorem nats_of{z:List Int}(h:∀ n ∈ z,0≤n):∃ zs:List Nat,z=P16.ib zs:=by
 refine⟨z.map Int.toNat,?_⟩;simp only[P16.ib,List.map_map]
 conv=>lhs;rw[← List.map_id z]
 apply List.map_congr_left
 intro n hn;have:=h n hn;simp only[id,Function.comp];exact(Int.toNat_of_nonneg this).symm
theorem isBytes{w:World}{a:Option Addr}{z:List Int}(h:IsInts .u8 w a z):∃ zs:List Nat,z=P16.ib zs∧(∀ c ∈ zs,c < 256)∧Sl .u8 w (fun x=>x < w.heap.size) a (P16.ib zs):=by
 obtain⟨zs,rfl⟩:=nats_of (z:=z) (fun n hn=>(bounds_u8 (h.2.1 n hn)).1);refine⟨zs,rfl,fun c hc=>?_,fun i hi=>?_⟩
 ·have:=(bounds_u8 (h.2.1 (Int.ofNat c) (List.mem_map.2 ⟨c,hc,rfl⟩))).2
  simp at this;omega
 ·obtain⟨b,off,ha,hc⟩:=h.2.2 i hi
  exact⟨b,off,ha,block_lt_of_cell hc,hc⟩
theorem wholeStays_any(a:Option Addr)(ca:Nat)(la:List P16.Evt)(ja:Option Addr)(jc:Nat)(js:List Nat)(hjs:∀ c ∈ js,c < 256)(hjc:js.length≤jc)(w:World)(ha:P16.SE w (fun x=>x < w.heap.size) a la)(hj:Sl .u8 w (fun x=>x < w.heap.size) ja (P16.ib js)):
  Calls Tryz.prog 7 #[.slice a la.length ca,.slice ja js.length jc] w fun e w'=>e=.returned (.bool true)∧Below w.heap.size w w':=by
 obtain⟨i0,hi0,iz0,iz1,iz2⟩:=info_parts P16.Tryz.info5;obtain⟨n,hn⟩:∃ n,la.length=n:=⟨_,rfl⟩;obtain⟨nj,hnj⟩:∃ n,js.length=n:=⟨_,rfl⟩;rw[hn,hnj];rw[hnj] at hjc;go_enter Tryz.func7,Tryz.ntmps7
 go_wp2_with fail
 refine(alive_any _).mono ?_;rintro e w1 ⟨rfl,hB1⟩;have hk1:=Kept.of_below (F:=fun _=>False) hB1;have ha1:=ha.kept hk1 (fun _ _ h=>h);have hj1:=hj.kept hk1 (fun _ _ h=>h);have hz1:=hB1.size;clear hk1;go_wp2_with fail
 refine(P16.few_any _ _ _ _).mono ?_;rintro e w2 ⟨rfl,rfl⟩;by_cases hla:n≤150
 ·rw[decide_eq_true hla]
  by_cases hl60:(60:Int) < (nj:Int)
  ·go_wp2_with fail
   go_ret
   exact⟨rfl,hB1⟩
  ·have hse1:=ha1.mono (q:=fun x=>x < w2.heap.size) (fun x hx=>by omega)
   have hby:=P16.bytes_any a ca la (by omega) w2 hse1;rw[hn] at hby
   have hall:=P16.all_encM la (by omega);have helen:=P16.encM_len la;have hebyte:=P16.encM_byte la;have hjunk:=P16.all_junk la js (by omega);have hrl:=P16.rlm_len la;have hpure:=stays_pure (P16.rlm la);have hstep:=evs_step (P16.rlm la) s0;have hel:=evs_len s0 (P16.rlm la);obtain⟨bs,hbs⟩:∃ bs,P16.encM la=bs:=⟨_,rfl⟩;rw[hbs] at hby hall helen hebyte hjunk;obtain⟨R,hR⟩:∃ R,P16.rlm la=R:=⟨_,rfl⟩;rw[hR] at hby hall hjunk hrl hpure hstep hel;have hokR:Ok (evs s0 R).1 R.length:=by
    have:=ok0.evs (l:=R) (by omega);rw[Nat.zero_add] at this;exact this
   obtain⟨out,hout⟩:∃ out,(evs s0 R).2=out:=⟨_,rfl⟩;obtain⟨sR,hsR⟩:∃ s,(evs s0 R).1=s:=⟨_,rfl⟩;rw[hout] at hpure hstep hel;rw[hsR] at hpure hokR;obtain⟨m,hm⟩:∃ m,R.length=m:=⟨_,rfl⟩;obtain⟨nb,hnb⟩:∃ n,bs.length=n:=⟨_,rfl⟩;rw[hm] at hrl hstep hel hokR;have HP:=Lib.hid hpure;have HST:=Lib.hid hstep;have HOK:=Lib.hid hokR;clear hpure hstep hokR hse1 ha1 ha hj hR;go_wp2_with fail
   refine hby.mono ?_;clear hby
   rintro e w3 ⟨v1,v2,rfl,hb3,hr3,hB3⟩;have hz3:=hB3.size;obtain⟨ab,cb,rfl,hcb,-,hslb⟩:=hb3.sl;obtain⟨ar,cr,rfl,hcr,-,hser⟩:=hr3.se;rw[P16.ib_length] at hcb;have hbt:=bytes17_any ab cb bs _ w3 hslb (fun x hx=>hx.2) hcb (by omega) hebyte R bs.length 0 hall (by omega);rw[P16.ib_length,hnb,hm];rw[hnb] at hcb hbt;rw[hm] at hcr;have hB4:Below w.heap.size w w3:=hB1.trans (hB3.mono hz1);have hj3:=hj1.kept (Kept.of_below (F:=fun _=>False) hB3) (fun _ _ h=>h);have HB3:=Lib.hid hb3;have HR3:=Lib.hid hser;clear hb3 hr3 hslb hB1 hB3 hj1 hser;go_wp2_with fail
   refine hbt.mono ?_;clear hbt;rintro e w4 ⟨c,v,F,rfl,hC,hT,hF,hB5⟩;rw[hsR] at hC;rw[hout] at hT;have hz4:=hB5.size;obtain⟨ao,co,rfl,hco,hrows⟩:=hT.rows;rw[hel] at hco hrows ⊢;have HO:=Lib.hid hrows;have HC:=Lib.hid hC;have hkp4:Kept (fun _=>False) w3 w4:=Kept.of_below hB5;have hB6:Below w.heap.size w w4:=hB4.trans (hB5.mono (by omega));have hE0:P16.OwnE (w4.alloc (.cells #[] 28)) w4.heap.size (.slice (some ⟨w4.heap.size,0,none⟩) 0 0) (takenOf (out.take 0)):=P16.OwnE.empty _ _ (Nat.le_refl _);have k5:Kept (fun _=>False) w4 (w4.alloc (.cells #[] 28)):=(Kept.refl _ _).alloc _;obtain⟨w5,hw5⟩:∃ w5,w4.alloc (.cells #[] 28)=w5:=⟨_,rfl⟩;rw[hw5] at hE0 k5;have hz5:=k5.size;clear hT hrows hC hB4 hB5;go_wp2_with fail
   go_loopw [11,63] (fun v k wr=>∃ i:Nat,k=.int .i64 i∧i≤m∧P16.OwnE wr w4.heap.size v (takenOf (out.take i))∧Kept (fun x=>w4.heap.size≤x) w5 wr) (fun _ k _=>m - (intOf k).toNat)
   case atStart=>exact⟨0,rfl,by omega,hE0,Kept.refl _ _⟩
   case round=>
    obtain⟨i,rfl,hi,hv,hK⟩:=hrel;clear hE0 hw5;by_cases hin:i < m
    ·obtain⟨bk,va,vc,rfl,-,hbk,-,hRo⟩:=HO.out i (by omega)
     have hRo':=(hRo.kept k5 (fun h=>h)).kept hK (fun h=>by omega);obtain⟨br,off,rfl,hbr,e0,e1,e2,e3,e4,e5,e6,e7,e8,e9⟩:=P16.SE.ten (((HR3.out.kept hkp4 (fun _ _ h=>h)).kept k5 (fun _ _ h=>h)).kept hK (fun x hx h=>by omega)) i (by omega);have hnx:=takenOf_next out i (by omega);have hst:=HST.out i (by omega);have hlt:=takenOf_len (out.take i);rw[List.length_take] at hlt;generalize out.getD i nstp=x at *;obtain⟨f,⟨x0,x1,x2,x3⟩,lx⟩:=x;dsimp only at hst hnx;rw[← hst] at e0 e1 e2 e3 e4 e5 e6 e7 e8 e9;clear hst;have hA:(wr.alloc (.cells (c15 (f,(x0,x1,x2,x3),lx) va vc) 41)).heap[wr.heap.size]?=some (.cells (c15 (f,(x0,x1,x2,x3),lx) va vc) 41 (0,0)):=heap_alloc_new _ _;have hv1:=hv.alloc (.cells (c15 (f,(x0,x1,x2,x3),lx) va vc) 41);have kA:Kept (fun _=>False) wr (wr.alloc (.cells (c15 (f,(x0,x1,x2,x3),lx) va vc) 41)):=(Kept.refl _ _).alloc _;have hK1:=hK.trans kA (fun x _ h=>h.elim);have hqb:w4.heap.size≤wr.heap.size:=by have:=hK.size;omega
     have hev1:P16.Ev ((wr.alloc (.cells (c15 (f,(x0,x1,x2,x3),lx) va vc) 41)).alloc (.cells (P16.evc f) 28)) (wr.alloc (.cells (c15 (f,(x0,x1,x2,x3),lx) va vc) 41)).heap.size f:=P16.Ev.new _ _;obtain⟨q,hq⟩:∃ q,wr.heap.size=q:=⟨_,rfl⟩;obtain⟨wa,hwa⟩:∃ wa,wr.alloc (.cells (c15 (f,(x0,x1,x2,x3),lx) va vc) 41)=wa:=⟨_,rfl⟩;rw[hwa] at hA hv1 hK1 kA hev1;rw[hq] at hA hqb;have key:∀ {b j:Nat} {v:Value},wr.cell? ⟨b,j,none⟩=some v→wa.cell? ⟨b,j,none⟩=some v:=fun {b j v} hv=>(kA.cell (p:=⟨b,j,none⟩) (block_lt_of_cell hv) (fun h=>h)).trans hv;obtain⟨r0,r1,r2,r3,r4,r5,r6,r7,r8,r9,r10,r11,r12,r13,r14⟩:=hRo';dsimp only at r0 r1 r2 r3 r4 r5 r6 r7 r8 r9 r10 r11 r12 r13 r14;have HE:=Lib.hid (And.intro e0 (And.intro e1 (And.intro e2 (And.intro e3 (And.intro e4 (And.intro e5 (And.intro e6 (And.intro e7 (And.intro e8 e9)))))))));clear e0 e1 e2 e3 e4 e5 e6 e7 e8 e9;simp only[c15] at hwa hA;go_upto_region 13 with fail
     clear hwa hv hK r0 r1 r2 r3 r4 r5 r6 r7 r8 r9 r10 r11 r12 r13 r14 hRo hq;have y10:=cell_of (j:=10) hA;have hza:=hK1.size;have hzb:=k5.size;by_cases ck:x0=1
     ·have d1:(x0 != 1)=false:=by rw[ck];rfl
      rw[if_neg (by simpa using ck),List.append_nil] at hnx;have hno:P16.OwnE wa w4.heap.size u11 (takenOf (out.take (i+1))):=by rw[hnx];exact hv1
      clear hA hv1 hnx hev1;go_wp2_with fail
      exact⟨⟨i+1,rfl,by omega,hno,hK1⟩,by simp[intOf];omega⟩
     ·have d1:(x0 != 1)=true:=by simpa using ck
      rw[if_pos (by simpa using ck)] at hnx;have hyes:∀ v' w',P16.OwnE w' w4.heap.size v' (takenOf (out.take i)++[f])→P16.OwnE w' w4.heap.size v' (takenOf (out.take (i+1))):=fun v' w' h=>by rw[hnx];exact h
      obtain⟨e0,e1,e2,e3,e4,e5,e6,e7,e8,e9⟩:=HE.out;have e0:=key e0;have e1:=key e1;have e2:=key e2;have e3:=key e3;have e4:=key e4;have e5:=key e5;have e6:=key e6;have e7:=key e7;have e8:=key e8;have e9:=key e9;have hE5:P16.Ev (wa.alloc (.cells (P16.evc f) 28)) wa.heap.size f:=P16.Ev.new _ _;have hv5:=hv1.alloc (.cells (P16.evc f) 28);have hK5:=hK1.alloc (.cells (P16.evc f) 28);have hz7:w4.heap.size≤(wa.alloc (.cells (P16.evc f) 28)).heap.size:=by have:=hK5.size;omega
      obtain⟨w7,hw7⟩:∃ w7,wa.alloc (.cells (P16.evc f) 28)=w7:=⟨_,rfl⟩;rw[hw7] at hE5 hv5 hK5 hz7;simp only[P16.evc] at hw7;clear hA hv1 hK1 hnx hev1 key;go_wp2_with (at_builtin;go_loud (
       refine P16.wpList_append_ev rfl _ _ rfl w4.heap.size u11 (takenOf (out.take i)) rfl hv5 _ _ f rfl hE5 (by omega) hz7 ?_;intro v8 w8 hown8 hgrow hloc;have hK8:Kept (fun x=>w4.heap.size≤x) w5 w8:=hK5.trans (Kept.of_grown hgrow) (fun x _ h=>(hv5.lt x h.symm).1);have hv8:P16.OwnE w8 w4.heap.size v8 (takenOf (out.take (i+1))):=hyes v8 w8 hown8;clear hown8 hgrow hloc hv5 hE5 hK5 hw7))
      exact⟨⟨i+1,rfl,by omega,hv8,hK8⟩,by simp[intOf];omega⟩
    ·obtain rfl:i=m:=by omega
     rw[List.take_of_length_le (by omega)] at hv;rename World=>w6
     have hz6:=hK.size;have hlt:=takenOf_len out;obtain⟨al,cl,rfl,-,-,hsel⟩:=hv.se;have hev:=events_any al cl (takenOf out) (by omega) _ w6 hsel (fun x hx=>hx.2);have hokL:Ok (evs s0 (takenOf out)).1 (takenOf out).length:=by
      have:=ok0.evs (l:=takenOf out) (by omega);rw[Nat.zero_add] at this;exact this
     obtain⟨hp1,hp2⟩:=HP.out;obtain⟨ml,hml⟩:∃ n,(takenOf out).length=n:=⟨_,rfl⟩;obtain⟨sL,hsL⟩:∃ s,(evs s0 (takenOf out)).1=s:=⟨_,rfl⟩;rw[hsL] at hp1 hp2 hokL hev;rw[hml] at hokL hev hlt ⊢;have HOL:=Lib.hid hokL;have hK6:Kept (fun x=>w4.heap.size≤x) w4 w6:=(k5.mono (fun _ _ h=>h.elim)).trans hK (fun x _ h=>h);clear hv hK hokL hsel;go_wp2_with fail
     refine hev.mono ?_;clear hev;rintro e w7 ⟨d,v7,F7,rfl,hD,-,hF7,hB7⟩;have hC7:Cr w7 c sR F:=(HC.out.kept hK6 (fun x hx h=>by have:=HC.out.lt hx;omega)).below hB7;have hK7:Kept (fun x=>w4.heap.size≤x) w4 w7:=hK6.trans (Kept.of_below (F:=fun _=>False) hB7) (fun x _ h=>h.elim);have hno1:=now_any hC7;have hno2:=now_any hD;rw[hp1] at hno2;have HC7:=Lib.hid hC7;have HD7:=Lib.hid hD;clear hK6 hB7 hD hC7;go_wp2_with fail
     refine hno1.mono ?_;clear hno1;rintro e w8 ⟨rfl,rfl⟩;go_wp2_with fail
     refine hno2.mono ?_;clear hno2;rintro e w8 ⟨rfl,rfl⟩;have hbx1:=boxes_any HC7.out (by have:=HOK.out.len;omega);go_wp2_with fail
     refine hbx1.mono ?_;clear hbx1;rintro e w9 ⟨vx,rfl,hx9,hB9⟩;have hbx2:=boxes_any (HD7.out.below hB9) (by have:=HOL.out.len;omega);rw[hp2] at hbx2;obtain⟨L,hL⟩:∃ L,boxesOf sR=L:=⟨_,rfl⟩;rw[hL] at hbx2 hx9;go_wp2_with fail
     refine hbx2.mono ?_;clear hbx2;rintro e w10 ⟨vy,rfl,hy10,hB10⟩;have hx10:OwnB w10 w8.heap.size vx L:=row_kept hx9 (Kept.of_below (F:=fun _=>False) hB10) (fun _ _ h=>h);obtain⟨ax,cx,rfl,hcx,hsx⟩:=hx10.shape;obtain⟨ay,cy,rfl,hcy,hsy⟩:=hy10.shape;have hK10:Kept (fun x=>w4.heap.size≤x) w4 w10:=(hK7.trans (Kept.of_below (F:=fun _=>False) hB9) (fun x _ h=>h.elim)).trans (Kept.of_below (F:=fun _=>False) hB10) (fun x _ h=>h.elim);have HX:=Lib.hid (And.intro hsx hsy);obtain⟨nL,hnL⟩:∃ n,L.length=n:=⟨_,rfl⟩;rw[hnL] at hcx hcy ⊢;have hL8:nL≤10000000:=by
      have h1:=ids_len sR;have h2:=HOK.out.len;rw[← hnL,← hL,boxesOf_len];omega
     clear hx9 hx10 hy10 hsx hsy hK7 hB9 hB10 hp1 hp2 hL;go_wp2_with fail
     go_loopw [105] (fun k wr=>∃ i r:Nat,k=.int .i64 i∧i≤nL∧wr=w10.drewN r) (fun k _=>nL - (intOf k).toNat)
     case atStart=>exact⟨0,0,rfl,by omega,rfl⟩
     case round=>
      obtain⟨i,r,rfl,hi,rfl⟩:=hrel;by_cases hin:i < nL
      ·obtain⟨b1,rfl,-,-,p0,p1,p2,p3,p4,p5,p6,p7⟩:=HX.out.1 i (by omega)
       obtain⟨b2,rfl,-,-,q0,q1,q2,q3,q4,q5,q6,q7⟩:=HX.out.2 i (by omega);generalize L.getD i nbx=x at *;have hneq:=neq_bx x;simp only[P12.bc] at hneq;have hgd:=guard_bx;have p0:(w10.drewN r).cell? _=_:=p0;have p1:(w10.drewN r).cell? _=_:=p1;have p2:(w10.drewN r).cell? _=_:=p2;have p3:(w10.drewN r).cell? _=_:=p3;have p4:(w10.drewN r).cell? _=_:=p4;have p5:(w10.drewN r).cell? _=_:=p5;have p6:(w10.drewN r).cell? _=_:=p6;have p7:(w10.drewN r).cell? _=_:=p7;have q0:(w10.drewN r).cell? _=_:=q0;have q1:(w10.drewN r).cell? _=_:=q1;have q2:(w10.drewN r).cell? _=_:=q2;have q3:(w10.drewN r).cell? _=_:=q3;have q4:(w10.drewN r).cell? _=_:=q4;have q5:(w10.drewN r).cell? _=_:=q5;have q6:(w10.drewN r).cell? _=_:=q6;have q7:(w10.drewN r).cell? _=_:=q7;go_wp2_with fail
       go_big_region
       all_goals (go_wp2_with fail)
       all_goals exact⟨⟨i+1,r+1,rfl,by omega,rfl⟩,by simp[intOf];omega⟩
      ·obtain rfl:i=nL:=by omega
       have K11:Kept (fun x=>w4.heap.size≤x) w3 (w10.drewN r):=(hkp4.mono (fun _ _ h=>h.elim)).trans (hK10.trans ((Kept.refl (fun _=>False) w10).drewN r) (fun x _ h=>h.elim)) (fun x _ h=>h);obtain⟨w11,hw11⟩:∃ w11,w10.drewN r=w11:=⟨_,rfl⟩;rw[hw11] at K11 ⊢;have hz11:=K11.size;have hj11:=hj3.kept K11 (fun x hx h=>by omega);have hb11:=HB3.out.kept K11 (fun g hg h=>by have:=HB3.out.lt g hg;omega);have hbel:Below w.heap.size w w11:=by
        have h1:=K11.below (B:=w.heap.size) (by omega) (fun x hx h=>by omega);exact(hB6.trans ((hK10.below (B:=w.heap.size) (by omega) (fun x hx h=>by omega)))).trans (by rw[← hw11];exact(((Kept.refl (fun _=>False) w10).drewN r).below (B:=w.heap.size) (by have:=hK10.size;omega) (fun _ _ h=>h)))
       obtain⟨⟨fj,nn,ej⟩,hge⟩:∃ x,P16.getE js=x:=⟨_,rfl⟩;have hget:=P16.get_any ja jc js _ w11 hj11 (fun x hx=>by omega) (by omega) (by omega) hjs fj nn ej hge;rw[hnj] at hget;simp only[P16.evc] at hget;rw[hge] at hjunk;dsimp only at hjunk;clear hw11 hK10 hkp4 HX;go_wp2_with fail
       refine hget.mono ?_;clear hget;rintro e w12 ⟨rfl,hB12⟩;have k13:Kept (fun _=>False) w12 (w12.alloc (.cells (P16.evc fj) 28)):=(Kept.refl _ _).alloc _;obtain⟨w13,hw13⟩:∃ w13,w12.alloc (.cells (P16.evc fj) 28)=w13:=⟨_,rfl⟩;rw[hw13] at k13;simp only[P16.evc] at hw13;have K13:Kept (fun _=>False) w11 w13:=(Kept.of_below hB12).trans k13 (fun _ _ h=>h);have hb13:=hb11.kept K13 (fun _ _ h=>h);have hj13:=hj11.kept K13 (fun _ _ h=>h);have hbel13:=hbel.trans (K13.below hbel.size (fun _ _ h=>h));have hz13:=K13.size;clear hb11 hj11 k13 K13 hB12 hbel K11;by_cases he:ej=0
       ·have d1:((ej:Int) == 0)=true:=by rw[he];rfl
        go_wp2_with fail
        go_ret
        exact⟨rfl,hbel13⟩
       ·have d1:((ej:Int) == 0)=false:=by simp;omega
        obtain⟨E,hE⟩:=hjunk he;have hx0:OwnI (w13.alloc (.cells #[] 5)) w13.heap.size 5 .u8 (.slice (some ⟨w13.heap.size,0,none⟩) 0 0) (P16.ib []):=OwnI.empty w13 w13.heap.size 5 .u8 (Nat.le_refl _);have k14:Kept (fun _=>False) w13 (w13.alloc (.cells #[] 5)):=(Kept.refl _ _).alloc _;obtain⟨w14,hw14⟩:∃ w14,w13.alloc (.cells #[] 5)=w14:=⟨_,rfl⟩;rw[hw14] at hx0 k14;have hz14:=k14.size;have hb14:=hb13.kept k14 (fun _ _ h=>h);have hj14:=hj13.kept k14 (fun _ _ h=>h);have hbel14:=hbel13.trans (k14.below hbel13.size (fun _ _ h=>h));obtain⟨_,_,he2,-,-,hslb⟩:=hb14.sl;simp only[Value.slice.injEq] at he2;obtain⟨rfl,-,rfl⟩:=he2;have hbl:=fun g hg=>(hb14.lt g hg).2;have hel0:=evs_len s0 R;rw[hm] at hel0;clear hb13 hj13 hbel13 he hge k14;go_wp2_with (first
         | (
          at_builtin;go_loud (
          refine wpList_append_ints rfl _ _ 46 rfl w13.heap.size 5 .u8 i0 (.int .u8 0) 1 Tryz.underlying46 hi0 iz0 iz1 iz2 rfl _ (P16.ib []) rfl hx0 ab cb (P16.ib bs) _ (by rw[P16.ib_length,hnb];rfl) hslb (by rw[P16.ib_length,P16.ib_length];unfold maxLen;simp;omega) (by rw[P16.ib_length,P16.ib_length];simp;omega) hz14 ?_;intro v15 w15 hown15 hgrow hloc;have k15:Kept (fun x=>some x=some w13.heap.size) w14 w15:=Kept.of_grown hgrow;have hj15:=hj14.kept k15 (fun x hx h=>by cases h;omega);have hbel15:=hbel14.trans (k15.below hbel14.size (fun x hx h=>by cases h;omega));have hz15:=k15.size;have hown15':OwnI w15 w13.heap.size 5 .u8 v15 (P16.ib bs):=hown15;clear hx0 hgrow hloc k15 hown15 hj14 hbel14 hw14))
         | (
          at_builtin;go_loud (
          refine wpList_append_ints rfl _ _ 46 rfl w13.heap.size 5 .u8 i0 (.int .u8 0) 1 Tryz.underlying46 hi0 iz0 iz1 iz2 rfl _ (P16.ib bs) rfl hown15' ja jc (P16.ib js) _ (by rw[P16.ib_length,hnj];rfl) hj15 (by rw[P16.ib_length,P16.ib_length];unfold maxLen;omega) (by rw[P16.ib_length,P16.ib_length];omega) (by omega) ?_;intro v16 w16 hown16 hgrow hloc;have k16:Kept (fun x=>some x=v15.ownBlock) w15 w16:=Kept.of_grown hgrow;have hbel16:=hbel15.trans (k16.below hbel15.size (fun x hx h=>by have:=(hown15'.lt x h.symm).1;omega));have hown16':OwnI w16 w13.heap.size 5 .u8 v16 (P16.ib (bs++js)):=by rw[P16.ib_append];exact hown16
          obtain⟨a16,c16,rfl,hc16,-,hsl16⟩:=hown16'.sl;rw[P16.ib_length] at hc16 ⊢;clear hgrow hloc k16 hown16 hown15' hj15 hbel15)))
        have hbt:=bytes17_any a16 c16 (bs++js) _ w16 hsl16 (fun x hx=>hx.2) hc16 (by rw[List.length_append];omega) (fun c hc=>by
         rcases List.mem_append.1 hc with h|h
         ·exact hebyte c h
         ·exact hjs c h) R bs.length E hE (by omega)
        rw[List.length_append,hnb,hnj] at hbt;refine hbt.mono ?_;clear hbt;rintro e w17 ⟨c17,v17,F17,rfl,-,hT17,-,hB17⟩;obtain⟨a17,c17',rfl,-,-⟩:=hT17.rows;rw[hel0];clear hT17;go_wp2_with fail
        go_ret
        exact⟨rfl,hbel16.trans (hB17.mono hbel16.size)⟩
 ·rw[decide_eq_false hla]
  go_wp2_with fail
  go_ret
  exact⟨rfl,hB1⟩
theorem wholeStays_walk(a0:Option Addr)(cap0:Nat)(z0:List (Nat→Int))(a1:Option Addr)(cap1:Nat)(z1:List Int)(W:World)(w0:IsStructs 10 W a0 z0)(y0:z0.length≤cap0)(w1:IsInts .u8 W a1 z1)(y1:z1.length≤cap1):
  Calls Tryz.prog 7 #[.slice a0 z0.length cap0,.slice a1 z1.length cap1] W fun e W'=>e=.returned (.bool true)∧Below W.heap.size W W':=by
 obtain⟨zs,rfl,hb,hsl⟩:=isBytes w1;rw[P16.ib_length] at y1 ⊢;have:=wholeStays_any a0 cap0 (evsOf z0) a1 cap1 zs hb y1 W (isEvents w0) hsl;simpa[evsOf] using this
end Go.Proofs.YtigeldkbfbcpmaaGreat
