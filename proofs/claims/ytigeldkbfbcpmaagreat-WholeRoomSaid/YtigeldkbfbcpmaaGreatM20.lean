/- A part of the proof: what the functions of the program come to, and what holds at all times. -/
import Derived.Deep.RegionLaw
import Derived.Test.YtigeldkbfbcpmaaGreatM18
import Derived.Test.YtigeldkbfbcpmaaGreatM08
import Derived.Test.YtigeldkbfbcpmaaGreatM19
set_option linter.unusedVariables false
set_option linter.unusedSectionVars false
set_option linter.unusedSimpArgs false
set_option maxRecDepth 100000
set_option maxHeartbeats 8000000
namespace Go.Proofs.YtigeldkbfbcpmaaGreat
open Go.RowKit Go.Kpt Go.Maps Go.Sort Go.Shelf
def upH(f:Nat→P13.Ma)(h:Nat):Bool:=(f h).th && !(f h).dr
theorem spare162_any(b:Nat)(x:P12.Bx)(c1 c2 c3 core hosts:Nat)(f:Nat→P13.Ma)(k:Int)(sv:Nat)(W:World)(h:P12.Bq W b x)(h1:W.cell? ⟨c1,0,none⟩=some (.int .i64 k))(h2:W.cell? ⟨c2,0,none⟩=some (.int .i64 sv))(h3:W.cell? ⟨c3,0,none⟩=some (ptr core))
  (h5:W.cell? ⟨core,5,none⟩=some (ptr hosts)) (hq:P13.Hq W hosts f) (ho:Nat) (hho:x.host=(ho:Int)) (hl:ho < 32):
  Calls Tryz.prog 162 #[.pointer (some ⟨b,0,none⟩),.pointer (some ⟨c1,0,none⟩),.pointer (some ⟨c2,0,none⟩),.pointer (some ⟨c3,0,none⟩)] W fun e w'=>e=.returned (.bool (x.fn == k && !x.pin && x.st == sv && upH f ho))∧∃ m,w'=W.drewN m:=by
 obtain⟨-,d1,d2,-,d4,-,d6,-⟩:=h.cells;rw[hho] at d2;have hup:∀ n,Calls Tryz.prog 100 #[.pointer (some ⟨hosts,0,none⟩),.int .i64 ho] (W.drewN n) fun e w''=>e=.returned (.bool (upH f ho))∧∃ m,w''=W.drewN m:=fun n=>(P13.up_any hosts f ho hl (W.drewN n) (hq.kept (F:=fun _=>False) ((Kept.refl _ W).drewN n) (fun h=>h))).mono (by rintro e w' ⟨rfl,rfl⟩;exact⟨rfl,n,rfl⟩);simp only[ptr] at h3 h5;generalize upH f ho=up at hup ⊢;clear h hq;by_cases e:x.fn=k
 ·have e':(x.fn == k)=true:=beq_iff_eq.2 e
  cases hp:x.pin
  ·rw[hp] at d6
   by_cases e2:x.st=sv
   ·have e3:(x.st == sv)=true:=beq_iff_eq.2 e2
    rw[e2] at d4;go_enter Tryz.func162,Tryz.ntmps162
    go_wp2_with fail
    go_quiet ((go_at_call 100;exact hup _))
    go_wp2_with fail
    go_ret
    exact⟨by rw[e',e3];rfl,_,rfl⟩
   ·have e3:(x.st == sv)=false:=beq_eq_false_iff_ne.2 e2
    have e4:((x.st:Int) == (sv:Int))=false:=beq_eq_false_iff_ne.2 (by omega);generalize (x.st:Int)=st at d4 e4;clear hup;go_enter Tryz.func162,Tryz.ntmps162
    go_wp2_with fail
    go_quiet (fail)
    go_wp2_with fail
    go_ret
    exact⟨by rw[e',e3];rfl,_,rfl⟩
  ·rw[hp] at d6
   clear hup;go_enter Tryz.func162,Tryz.ntmps162
   go_wp2_with fail
   go_quiet (fail)
   go_wp2_with fail
   go_ret
   exact⟨by rw[e'];rfl,_,rfl⟩
 ·have e':(x.fn == k)=false:=beq_eq_false_iff_ne.2 e
  clear hup;go_enter Tryz.func162,Tryz.ntmps162
  go_wp2_with fail
  go_quiet (fail)
  go_wp2_with fail
  go_ret
  exact⟨by rw[e'];rfl,_,rfl⟩
end Go.Proofs.YtigeldkbfbcpmaaGreat
namespace Go.Proofs.YtigeldkbfbcpmaaGreat
open Go.RowKit Go.Kpt
def endQ(q:P11.Lg)(f:Nat):P11.Lg:=if (q.fs f).th=true∧(q.fs f).bu≠0 then q.setF f { q.fs f with bu:=(q.fs f).bu - 1 } else q
def begQ(q:P11.Lg)(f:Nat):P11.Lg:=if (q.fs f).th=true∧P11.askR q f=0 then q.setF f { q.fs f with bu:=(q.fs f).bu+1 } else q
def lastF(c:Nat→Option Fnc)(f:Nat)(now:Int):Nat→Option Fnc:=match c f with | some x=>fset c f { x with last:=now } | none=>c
def outl(s:St):List Cmd:=s.out.getD []
def goneS(s:St)(i:Nat):St:=
 match s.boxes[i]? with
 | none=>s
 | some x=>
  { s with
   cac:=cset s.cac x.host.toNat (HeapPure.drop P09.lt ((s.cac x.host.toNat).getD ([],0)).1 x.id,((s.cac x.host.toNat).getD ([],0)).2)
   tim:=HeapPure.drop P14.lt s.tim (0,x.id)
   quo:=if P12.runs x=true then endQ s.quo x.fn.toNat else s.quo
   fns:=if P12.runs x=true then lastF s.fns x.fn.toNat s.now else s.fns
   boxes:=s.boxes.set i (P12.kill x s.now).1
   hosts:=P13.put s.hosts x.host.toNat (P13.gave (s.hosts x.host.toNat) x.mem)
   live:=fun j=>if j=x.id then false else s.live j
   unt:=gdel s.unt x.id }
def killS(s:St)(i:Nat):St:=
 match s.boxes[i]? with
 | none=>s
 | some x=>{ goneS s i with out:=some (outl s++[⟨false,x.id,x.fn,x.host⟩]) }
def mkC(c up d:Nat)(id:Int):P09.Mk:=
 if h:0 < d∧c*d+up < 18446744073709551616∧d < 18446744073709551616 then P09.mk c up d id h.1 h.2.1 h.2.2 else default
def idleS(s:St)(i:Nat)(e:Int):St:=
 match s.boxes[i]? with
 | none=>s
 | some x=>
  if e≤s.now then killS s i else
  match s.fns x.fn.toNat with
  | none=>s
  | some f=>
   { s with
    cac:=cset s.cac x.host.toNat (HeapPure.setAt P09.lt ((s.cac x.host.toNat).getD ([],0)).1 x.id (mkC ((s.cac x.host.toNat).getD ([],0)).2 (f.often*f.cost) f.mem x.id),((s.cac x.host.toNat).getD ([],0)).2)
    tim:=HeapPure.setAt P14.lt s.tim (0,x.id) ⟨e,0,x.id⟩ }
def winS(s:St)(f:Nat):Win:=match s.fns f with | some x=>win x.his x.ring | none=>fixedW
def startS(s:St)(f h:Nat):St:=
 match s.fns f with
 | none=>s
 | some x=>
  { s with
   hosts:=P13.put s.hosts h (P13.took (s.hosts h) x.mem)
   boxes:=s.boxes++[⟨s.next,f,h,x.mem,0,false,false,s.now⟩]
   next:=s.next+1
   live:=fun j=>if j=s.next then true else s.live j
   out:=some (outl s++[⟨true,s.next,f,h⟩]) }
def memOf(s:St)(id:Int):Int:=match s.boxes[id.toNat - 1]? with | some x=>x.mem | none=>0
def idleOn(h:Nat)(x:P12.Bx):Bool:=x.host == (h:Int) && P12.idle x && !x.pin
def evict1(s:St)(h:Nat):St:=
 killS { s with cac:=cset s.cac h (HeapPure.drop P09.lt ((s.cac h).getD ([],0)).1 (HeapPure.kk ((s.cac h).getD ([],0)).1 0),max ((s.cac h).getD ([],0)).2 ((HeapPure.vv ((s.cac h).getD ([],0)).1 0).n / (HeapPure.vv ((s.cac h).getD ([],0)).1 0).d)) }
  ((HeapPure.kk ((s.cac h).getD ([],0)).1 0).toNat - 1)
def evictS(mem:Int)(h:Nat):Nat→St→St
 | 0,s=>s
 | n+1,s=>if P13.free (s.hosts h) < mem then evictS mem h n (evict1 s h) else s
def freeAll(s:St)(h:Nat):Int:=P13.free (s.hosts h)+(((ids s).filter (bp s (idleOn h))).map (memOf s)).sum
def roomFrom(mem:Int):Nat→Nat→St→St×Option Nat
 | 0,_,s=>(s,none)
 | n+1,h,s=>if upH s.hosts h=true∧mem≤freeAll s h then (evictS mem h 4097 s,some h) else roomFrom mem n (h+1) s
def roomS(s:St)(mem:Int):St×Option Nat:=
 match P13.fitK s.hosts mem 32 with
 | some h=>(s,some h)
 | none=>roomFrom mem 32 0 s
def spareL(s:St)(f:Nat)(sv:Nat):List Int:=(ids s).filter (bp s fun x=>x.fn == (f:Int) && !x.pin && x.st == sv && upH s.hosts x.host.toNat)
def spareS(s:St)(f:Nat):Option Nat:=
 match spareL s f 1 with
 | id :: _=>some (id.toNat - 1)
 | []=>match spareL s f 0 with
  | id :: _=>some (id.toNat - 1)
  | []=>match spareL s f 2 with
   | id :: _=>some (id.toNat - 1)
   | []=>none
def pinnedL(s:St)(f:Nat):List Int:=(ids s).filter (bp s fun x=>x.fn == (f:Int) && x.pin)
def pinB(s:St)(i:Nat)(v:Bool):St:=match s.boxes[i]? with | some x=>{ s with boxes:=s.boxes.set i { x with pin:=v } } | none=>s
def takeB(s:St)(i:Nat):St:=match s.boxes[i]? with | some x=>takeS s x.host.toNat x.id | none=>s
def idleB(s:St)(i:Nat):Bool:=match s.boxes[i]? with | some x=>P12.idle x | none=>false
def unpin(f:Nat)(s:St)(id:Int):St:=
 if idleB s (id.toNat - 1)=true then idleS (pinB s (id.toNat - 1) false) (id.toNat - 1) (s.now+(winS s f).fin) else pinB s (id.toNat - 1) false
def pin1(s:St)(i:Nat):St:=pinB (takeB s i) i true
def memF(s:St)(f:Nat):Int:=match s.fns f with | some x=>x.mem | none=>0
def pinMore(s:St)(f:Nat):St×Bool:=
 match spareS s f with
 | some i=>(pin1 s i,true)
 | none=>match roomS s (memF s f) with
  | (s1,none)=>(s1,false)
  | (s1,some h)=>(pin1 (startS s1 f h) s1.boxes.length,true)
def pinUp(f:Nat):Nat→St→St
 | 0,s=>s
 | n+1,s=>if (pinMore s f).2=true then pinUp f n (pinMore s f).1 else (pinMore s f).1
def keepS(f:Nat)(s:St):St:=
 match s.fns f with
 | none=>s
 | some x=>
  let s1:=((pinnedL s f).drop x.keep).reverse.foldl (unpin f) s
  pinUp f (x.keep - (pinnedL s1 f).length) s1
def keepAllS(s:St):St:=(fids s).foldl (fun s f=>keepS f.toNat s) s
def aheadS(s:St)(f:Nat):St:=
 match s.fns f with
 | none=>s
 | some x=>
  match P13.fitK s.hosts x.mem 32 with
  | none=>s
  | some h=>if 0 < ((ids s).filter (bp s fun b=>b.fn == (f:Int))).length then s else
   { startS s f h with unt:=gput s.unt s.next x.fin }
def bktTick(t:Bkt):Bkt:={ t with t:=if t.t+t.r≤t.s then t.t+t.r else t.s }
def time1(s:St):St:=
 let k:=HeapPure.kk s.tim 0
 let s1:={ s with tim:=HeapPure.drop P14.lt s.tim k }
 if k.1=0 then killS s1 (k.2.toNat - 1) else aheadS s1 k.2.toNat
def timesS:Nat→St→St
 | 0,s=>s
 | n+1,s=>if 0 < s.tim.length∧(HeapPure.vv s.tim 0).at_≤s.now then timesS n (time1 s) else s
def tickS(s:St):St:=
 if s.now=1099511627776 then s else
 keepAllS (timesS s.tim.length { s with now:=s.now+1,tok:=fun a=>(s.tok a).map bktTick })
def accountS(s:St)(e:P16.Evt):St×Nat:=
 if e 3 > 1000∨e 4 > 1000∨e 1≥16∨e 2 > 1000 then (s,1) else
 if e 2 < P11.rs s.quo.fs (e 1).toNat 64 then (s,4) else
 ({ s with quo:=s.quo.setA (e 1).toNat ⟨true,e 2⟩,tok:=tset s.tok (e 1).toNat (match s.tok (e 1).toNat with | some b=>⟨P10.bnd (e 3),P10.bnd (e 4),if b.t≤P10.bnd (e 3) then b.t else P10.bnd (e 3)⟩ | none=>⟨P10.bnd (e 3),P10.bnd (e 4),P10.bnd (e 3)⟩) },0)
def newFn(s:St)(e:P16.Evt):Fnc:=
 match s.fns (e 1).toNat with
 | some x=>{ x with cost:=(e 7).toNat,keep:=(e 9).toNat }
 | none=>⟨(e 5).toNat,(e 6).toNat,(e 7).toNat,(e 9).toNat,0,-1,0,h0,[]⟩
def clash(s:St)(e:P16.Evt):Bool:=match s.fns (e 1).toNat with | some x=>!((x.account:Int) == e 5 && (x.mem:Int) == e 6) | none=>false
def functionS(s:St)(e:P16.Evt):St×Nat:=
 if e 1≥64∨e 5≥16∨e 8 > 1000∨e 9 > 1000∨e 6 < 1∨e 6 > 4096∨e 7 < 1∨e 7 > 1000 then (s,1) else
 if s.tok (e 5).toNat=none then (s,2) else
 if clash s e=true then (s,3) else
 if e 8 > 0∧e 9 > e 8 then (s,4) else
 if P11.rs s.quo.fs (e 5).toNat 64 - (s.quo.fs (e 1).toNat).res+e 8 > (s.quo.ac (e 5).toNat).lim then (s,4) else
 (keepS (e 1).toNat { s with quo:=s.quo.setF (e 1).toNat ⟨true,(e 5).toNat,e 8,(s.quo.fs (e 1).toNat).bu⟩,fns:=fset s.fns (e 1).toNat (newFn s e) },0)
def hostS(s:St)(e:P16.Evt):St×Nat:=
 if e 1≥32∨e 3 < 1∨e 3 > 4096 then (s,1) else
 if (s.hosts (e 1).toNat).th=true then (s,3) else
 (keepAllS { s with hosts:=P13.put s.hosts (e 1).toNat ⟨true,false,e 3,0⟩,cac:=fun j=>if j=(e 1).toNat then none else s.cac j },0)
def onHost(s:St)(h:Nat):List Int:=(ids s).filter (bp s fun b=>b.host == (h:Int))
def runsB(s:St)(i:Nat):Bool:=match s.boxes[i]? with | some x=>P12.runs x | none=>false
def drain1(s:St)(id:Int):St:=if runsB s (id.toNat - 1)=true then pinB s (id.toNat - 1) false else killS s (id.toNat - 1)
def drainS(s:St)(n:Int):St×Nat:=
 if n≥32∨(s.hosts n.toNat).th=false then (s,2) else
 if (s.hosts n.toNat).dr=true then (s,3) else
 let s1:={ s with hosts:=P13.put s.hosts n.toNat (P13.swept { s.hosts n.toNat with dr:=true }) }
 (keepAllS ((onHost s1 n.toNat).foldl drain1 s1),0)
def failS(s:St)(n:Int):St×Nat:=
 if n≥32∨(s.hosts n.toNat).th=false then (s,2) else
 let s1:=(onHost s n.toNat).foldl (fun s id=>goneS s (id.toNat - 1)) s
 (keepAllS { s1 with hosts:=P13.put s1.hosts n.toNat (if (s1.hosts n.toNat).th=true then ⟨false,false,0,0⟩ else s1.hosts n.toNat) },0)
def beginS(s:St)(f i:Nat):St:=
 match s.fns f,s.boxes[i]? with
 | some x,some b=>
  let y:Fnc:=if (s.quo.fs f).bu=0∧0≤x.last then { x with his:=hadd x.his (s.now - x.last),ring:=x.ring++[s.now - x.last] } else x
  let s1:={ s with fns:=fset s.fns f { y with often:=min (x.often+1) 1000 },tim:=HeapPure.drop P14.lt s.tim (1,(f:Int)),quo:=begQ s.quo f }
  let s2:=takeS s1 b.host.toNat b.id
  { s2 with boxes:=s2.boxes.set i (P12.call b s.now).1 }
 | _,_=>s
abbrev Ans:=Int×Int×Int×Int
def callS(s:St)(n:Int):St×Ans:=
 if n≥64∨(s.quo.fs n.toNat).th=false then (s,(1,0,0,2)) else
 if P11.askR s.quo n.toNat=1 then (s,(4,0,1,0)) else
 if P11.askR s.quo n.toNat=2 then (s,(4,0,2,0)) else
 match s.fns n.toNat with
 | none=>(s,(1,0,0,2))
 | some x=>
  match freeOf s n with
  | some i=>(beginS s n.toNat i,(2,(i:Int)+1,0,0))
  | none=>
   match s.tok x.account with
   | none=>(s,(4,0,3,0))
   | some t=>
    if t.t=0 then (s,(4,0,3,0)) else
    match roomS s x.mem with
    | (s1,none)=>(s1,(4,0,4,0))
    | (s1,some h)=>
     let s2:={ s1 with tok:=tset s1.tok x.account { t with t:=t.t - 1 } }
     (beginS (startS s2 n.toNat h) n.toNat s2.boxes.length,(3,s2.next,0,0))
def isLive(s:St)(n:Int):Bool:=decide (1≤n∧n≤s.boxes.length) && s.live n
def bootedS(s:St)(n:Int):St×Nat:=
 if isLive s n=false then (s,2) else
 match s.boxes[n.toNat - 1]? with
 | none=>(s,2)
 | some b=>
  if (P12.booted b s.now).2=false then (s,3) else
  let s1:={ s with boxes:=s.boxes.set (n.toNat - 1) (P12.booted b s.now).1,unt:=gdel s.unt n }
  let e:=(s.unt n).getD (s.now+(winS s b.fn.toNat).fin)
  (if P12.idle (P12.booted b s.now).1=true∧b.pin=false then idleS s1 (n.toNat - 1) e else s1,0)
def brokeS(s:St)(n:Int):St×Nat:=
 if isLive s n=false then (s,2) else
 match s.boxes[n.toNat - 1]? with
 | none=>(s,2)
 | some b=>(keepS b.fn.toNat (goneS s (n.toNat - 1)),0)
def doneS(s:St)(n:Int):St×Nat:=
 if isLive s n=false then (s,2) else
 match s.boxes[n.toNat - 1]? with
 | none=>(s,2)
 | some b=>
  if (P12.done b s.now).2=false then (s,3) else
  let s1:={ s with boxes:=s.boxes.set (n.toNat - 1) (P12.done b s.now).1,quo:=endQ s.quo b.fn.toNat,fns:=lastF s.fns b.fn.toNat s.now }
  let w:=winS s b.fn.toNat
  (if upH s.hosts b.host.toNat=false then killS s1 (n.toNat - 1)
  else if b.pin=true then s1
  else if 0 < w.pre then
   killS { s1 with fns:=(match s1.fns b.fn.toNat with | some x=>fset s1.fns b.fn.toNat { x with fin:=s.now+w.fin } | none=>s1.fns),tim:=HeapPure.setAt P14.lt s1.tim (1,b.fn) ⟨s.now+w.pre,1,b.fn⟩ } (n.toNat - 1)
  else idleS s1 (n.toNat - 1) (s.now+w.fin),0)
def ansOf(r:St×Nat):St×Ans:=(r.1,if r.2=0 then (0,0,0,0) else (1,0,0,(r.2:Int)))
def actS(s:St)(e:P16.Evt):St×Ans:=
 if e 0=0 then ansOf (tickS s,0)
 else if e 0=1 then ansOf (accountS s e)
 else if e 0=2 then ansOf (functionS s e)
 else if e 0=3 then ansOf (hostS s e)
 else if e 0=4 then ansOf (drainS s (e 1))
 else if e 0=5 then ansOf (failS s (e 1))
 else if e 0=6 then callS s (e 1)
 else if e 0=7 then ansOf (bootedS s (e 1))
 else if e 0=8 then ansOf (brokeS s (e 1))
 else ansOf (doneS s (e 1))
def doS(s:St)(e:P16.Evt):St×Ans×List Cmd:=
 if P16.right e then
  let r:=actS { s with out:=some [] } e
  ({ r.1 with out:=none,ans:=fun k=>if (k:Int)=r.2.1 then r.1.ans k+1 else r.1.ans k },r.2,outl r.1)
 else (s,(1,0,0,1),[])
def s0:St:=⟨0,1,P11.l0,fun _=>none,fun _=>none,fun _=>⟨false,false,0,0⟩,fun _=>none,[],fun _=>false,fun _=>none,[],none,fun _=>0⟩
def Rs(w0:World)(F0:Nat→Prop)(w:World)(s:St)(A:Adr):Prop:=Sys w s A (Grow F0 w0 w)∧Kept F0 w0 w
theorem Rs.start{w:World}{F:Nat→Prop}{s:St}{A:Adr}(h:Sys w s A F):Rs w F w s A:=⟨h.mono (fun x hx=>.inl hx),Kept.refl _ _⟩
theorem Rs.next{w0 w w':World}{F0:Nat→Prop}{s s':St}{A A':Adr}(h:Rs w0 F0 w s A)(h1:Sys w' s' A' (Grow (Grow F0 w0 w) w w'))(k:Kept (Grow F0 w0 w) w w'):Rs w0 F0 w' s' A':=Sys.step h1 h.2 k
theorem Rs.below{w0 w w':World}{F0:Nat→Prop}{s:St}{A:Adr}(h:Rs w0 F0 w s A)(k:Below w.heap.size w w'):Rs w0 F0 w' s A:=
 ⟨(h.1.below k).mono (fun x hx=>hx.elim .inl (fun h=>.inr ⟨h.1,Nat.lt_of_lt_of_le h.2 k.size⟩)),h.2.trans (Kept.of_below (F:=fun _=>False) k) (fun _ _ h=>h.elim)⟩
theorem Rs.drewN{w0 w:World}{F0:Nat→Prop}{s:St}{A:Adr}(h:Rs w0 F0 w s A)(n:Nat):Rs w0 F0 (w.drewN n) s A:=h.below ⟨rfl,rfl,rfl,Nat.le_refl _,fun _ _=>rfl⟩
theorem Rs.drew{w0 w:World}{F0:Nat→Prop}{s:St}{A:Adr}(h:Rs w0 F0 w s A):Rs w0 F0 w.drew s A:=h.below ⟨rfl,rfl,rfl,Nat.le_refl _,fun _ _=>rfl⟩
def Rx(w0:World)(F0:Nat→Prop)(w:World)(s:St)(A:Adr)(n:Nat):Prop:=∃ (cac box:Nat→Nat),(∀ i,i < n→box i=A.box i)∧Rs w0 F0 w s { A with cac:=cac,box:=box }
theorem Rs.rx{w0 w:World}{F0:Nat→Prop}{s:St}{A:Adr}(h:Rs w0 F0 w s A)(n:Nat):Rx w0 F0 w s A n:=⟨A.cac,A.box,fun _ _=>rfl,h⟩
theorem Rx.next{w0 w:World}{F0:Nat→Prop}{s:St}{A:Adr}{cac box:Nat→Nat}{n m:Nat}(hb:∀ i,i < n→box i=A.box i)(hnm:n≤m)(h:Rx w0 F0 w s { A with cac:=cac,box:=box } m):Rx w0 F0 w s A n:=by
 obtain⟨c2,b2,h1,h2⟩:=h;exact⟨c2,b2,fun i hi=>(h1 i (by omega)).trans (hb i hi),h2⟩
def sumB(g:P12.Bx→Int)(l:List P12.Bx):Int:=(l.map g).sum
theorem sumB_set(g:P12.Bx→Int):∀ (l:List P12.Bx) (i:Nat) (x y:P12.Bx),l[i]?=some x→sumB g (l.set i y)=sumB g l - g x+g y:=by
 intro l
 induction l with
 | nil=>intro i x y h;simp at h
 | cons a l ih=>
  intro i x y h;cases i with
  | zero=>
   simp at h;subst h;simp[sumB];omega
  | succ i=>
   have:=ih i x y (by simpa using h);simp only[sumB,List.set_cons_succ,List.map_cons,List.sum_cons] at this ⊢;omega
theorem sumB_snoc(g:P12.Bx→Int)(l:List P12.Bx)(x:P12.Bx):sumB g (l++[x])=sumB g l+g x:=by simp[sumB]
theorem sumB_nonneg{g:P12.Bx→Int}:∀ {l:List P12.Bx},(∀ x ∈ l,0≤g x)→0≤sumB g l:=by
 intro l
 induction l with
 | nil=>intro _;simp[sumB]
 | cons a l ih=>
  intro h;have h1:=h a (by simp);have h2:=ih (fun x hx=>h x (by simp[hx]));simp only[sumB,List.map_cons,List.sum_cons] at h2 ⊢;omega
theorem sumB_ge{g:P12.Bx→Int}:∀ {l:List P12.Bx} (i:Nat) (x:P12.Bx),(∀ y ∈ l,0≤g y)→l[i]?=some x→g x≤sumB g l:=by
 intro l
 induction l with
 | nil=>intro i x _ h;simp at h
 | cons a l ih=>
  intro i x hn h;have h1:=hn a (by simp);have h0:=sumB_nonneg (fun y hy=>hn y (List.mem_cons_of_mem _ hy));cases i with
  | zero=>
   simp at h;subst h;simp only[sumB,List.map_cons,List.sum_cons] at h0 ⊢;omega
  | succ i=>
   have:=ih i x (fun y hy=>hn y (by simp[hy])) (by simpa using h);simp only[sumB,List.map_cons,List.sum_cons] at this ⊢;omega
theorem sumB_le{g:P12.Bx→Int}:∀ {l:List P12.Bx},(∀ x ∈ l,g x≤1)→sumB g l≤l.length:=by
 intro l
 induction l with
 | nil=>intro _;simp[sumB]
 | cons a l ih=>
  intro h;have h1:=h a (by simp);have h2:=ih (fun x hx=>h x (by simp[hx]));simp only[sumB,List.map_cons,List.sum_cons,List.length_cons] at h2 ⊢;omega
def deadG(x:P12.Bx):Int:=if x.st=3 then 1 else 0
def dead(s:St):Int:=sumB deadG s.boxes
def memG(h:Nat)(x:P12.Bx):Int:=if x.st≠3∧x.host=(h:Int) then x.mem else 0
def memOn(s:St)(h:Nat):Int:=sumB (memG h) s.boxes
def busyG(f:Nat)(x:P12.Bx):Int:=if P12.runs x=true∧x.fn=(f:Int) then 1 else 0
def busyOn(s:St)(f:Nat):Int:=sumB (busyG f) s.boxes
theorem dead_bd(s:St):0≤dead s∧dead s≤s.boxes.length:=
 ⟨sumB_nonneg (fun x _=>by unfold deadG;split <;> omega),sumB_le (fun x _=>by unfold deadG;split <;> omega)⟩
def cacL(s:St)(h:Nat):List (Int×P09.Mk):=((s.cac h).getD ([],0)).1
def cacC(s:St)(h:Nat):Nat:=((s.cac h).getD ([],0)).2
def loose(x:P12.Bx):Prop:=x.st=1∧x.pin=false
structure BoxOk (s:St) (i:Nat) (x:P12.Bx):Prop where
 id:x.id=(i:Int)+1
 st:x.st < 4
 live:s.live ((i:Int)+1)=true↔x.st≠3
 bound:x.bound=true→x.st=0
 deadpin:x.st=3→x.pin=false
 fn:∃ f:Nat,f < 64∧x.fn=(f:Int)∧∃ y,s.fns f=some y∧x.mem=(y.mem:Int)
 host:∃ h:Nat,h < 32∧x.host=(h:Int)
structure FnOk (s:St) (N:Nat) (f:Nat) (y:Fnc):Prop where
 lt:f < 64
 acc:y.account < 16
 tok:(s.tok y.account).isSome=true
 mem:1≤y.mem∧y.mem≤4096
 cost:1≤y.cost∧y.cost≤1000
 keep:y.keep≤1000
 often:y.often≤1000
 last:-1≤y.last∧y.last≤s.now
 qacc:(s.quo.fs f).acc=y.account
 his:HGood y.his N
structure HostOk (m:P13.Ma):Prop where
 us:0≤m.us∧m.us≤m.sz∧m.sz≤4096
 out:m.th=false→m=⟨false,false,0,0⟩
 dr:m.dr=true→0 < m.us
structure TokOk (a:Nat) (t:Bkt):Prop where
 lt:a < 16
 tt:0≤t.t∧t.t≤t.s
 ts:t.s≤1000
 tr:0≤t.r∧t.r≤1000
structure Inv (s:St) (N:Nat) (X:Nat→Prop):Prop where
 now:0≤s.now∧s.now≤1099511627776
 next:s.next=(s.boxes.length:Int)+1
 box:∀ i x,s.boxes[i]?=some x→BoxOk s i x
 fn:∀ f y,s.fns f=some y→FnOk s N f y
 fnq:∀ f,f < 64→(s.quo.fs f).th=(s.fns f).isSome
 quo:P11.Good s.quo
 qb:∀ f,f < 64→(s.quo.fs f).bu=busyOn s f∧(s.quo.fs f).bu≤1000
 qa:∀ a,a < 16→(s.quo.ac a).th=(s.tok a).isSome
 host:∀ h,h < 32→HostOk (s.hosts h)∧(s.hosts h).us=memOn s h
 tok:∀ a t,s.tok a=some t→TokOk a t
 cacLt:∀ h c,s.cac h=some c→h < 32
 cacG:∀ h,HeapPure.Good P09.lt (cacL s h)
 cacK:∀ h,(cacC s h:Int)≤1000000*dead s
 cacV:∀ h id m,HeapPure.Has (cacL s h) id m→m.n≤m.d*(cacC s h+1000000)
 cacI:∀ h id m,HeapPure.Has (cacL s h) id m→∃ (i:Nat) (x:P12.Bx),id=(i:Int)+1∧s.boxes[i]?=some x∧x.host=(h:Int)∧x.st≠3∧(¬ X i→loose x)
 cacS:∀ (i:Nat) (x:P12.Bx),s.boxes[i]?=some x→¬ X i→loose x→∃ m,HeapPure.Has (cacL s x.host.toNat) ((i:Int)+1) m
 timG:HeapPure.Good P14.lt s.tim
 timI:∀ (k:P14.Ke) t,HeapPure.Has s.tim k t→(k.1=0∧∃ (i:Nat) (x:P12.Bx),k.2=(i:Int)+1∧s.boxes[i]?=some x∧x.st≠3∧(¬ X i→loose x))∨(k.1=1∧∃ f:Nat,k.2=(f:Int)∧(s.fns f).isSome=true)
 timS:∀ (i:Nat) (x:P12.Bx),s.boxes[i]?=some x→¬ X i→loose x→∃ t,HeapPure.Has s.tim (0,(i:Int)+1) t
 out:((outl s).length:Int)≤s.boxes.length+dead s
theorem Inv.mono{s:St}{N:Nat}{X Y:Nat→Prop}(h:Inv s N X)(hx:∀ i,X i→Y i):Inv s N Y:=
 { h with
  cacI:=fun a id m hm=>by obtain⟨i,x,h1,h2,h3,h4,h5⟩:=h.cacI a id m hm;exact⟨i,x,h1,h2,h3,h4,fun hn=>h5 (fun e=>hn (hx i e))⟩
  cacS:=fun i x h1 h2 h3=>h.cacS i x h1 (fun e=>h2 (hx i e)) h3
  timI:=fun k t hm=>by
   rcases h.timI k t hm with ⟨h0,i,x,h1,h2,h4,h5⟩|h0
   ·exact .inl ⟨h0,i,x,h1,h2,h4,fun hn=>h5 (fun e=>hn (hx i e))⟩
   ·exact .inr h0
  timS:=fun i x h1 h2 h3=>h.timS i x h1 (fun e=>h2 (hx i e)) h3 }
def none_(i:Nat):Prop:=False
theorem Inv.any{s:St}{N:Nat}{X:Nat→Prop}(h:Inv s N none_):Inv s N X:=h.mono (fun _ e=>e.elim)
section
variable {w0 w:World} {F0:Nat→Prop} {s:St} {A:Adr}
theorem Rs.cc(h:Rs w0 F0 w s A):w.cell? ⟨A.core,0,none⟩=some (.int .i64 s.now)∧w.cell? ⟨A.core,1,none⟩=some (.int .i64 s.next)∧w.cell? ⟨A.core,2,none⟩=some (.pointer (some ⟨A.quo,0,none⟩)) ∧
  w.cell? ⟨A.core,3,none⟩=some (.map (some A.tokM))∧w.cell? ⟨A.core,4,none⟩=some (.map (some A.fnM))∧w.cell? ⟨A.core,5,none⟩=some (.pointer (some ⟨A.hosts,0,none⟩)) ∧
  w.cell? ⟨A.core,6,none⟩=some (.map (some A.cacM))∧w.cell? ⟨A.core,7,none⟩=some (.map (some A.boxM))∧w.cell? ⟨A.core,8,none⟩=some (.map (some A.untM))∧w.cell? ⟨A.core,9,none⟩=some (.pointer (some ⟨A.tim,0,none⟩)) ∧
  ∀ j,w.frozen? ⟨A.core,j,none⟩=false:=by
 obtain⟨ov,hc,-⟩:=h.1.core;exact⟨(cell_of hc).trans rfl,(cell_of hc).trans rfl,(cell_of hc).trans rfl,(cell_of hc).trans rfl,(cell_of hc).trans rfl,(cell_of hc).trans rfl,(cell_of hc).trans rfl,(cell_of hc).trans rfl,(cell_of hc).trans rfl,(cell_of hc).trans rfl,fun j=>frozen_of hc⟩
theorem Rs.bq(h:Rs w0 F0 w s A){i:Nat}{x:P12.Bx}(hx:s.boxes[i]?=some x):P12.Bq w (A.box i) x:=(h.1.box hx).1
theorem Rs.lt(h:Rs w0 F0 w s A):A.core < w.heap.size:=by obtain⟨ov,hc,-⟩:=h.1.core;exact lt_of hc
theorem cset_cput(c:Nat→Option Cac)(k:Nat)(z:Cac):cset (cput c k) k z=cset c k z:=by
 funext j
 unfold cset cput;by_cases e:j=k
 ·rw[if_pos e,if_pos e]
 ·rw[if_neg e,if_neg e,if_neg (fun h=>e h.1)]
theorem takeS_eq(s:St)(k:Nat)(id:Int):takeS s k id={ s with cac:=cset s.cac k (HeapPure.drop P09.lt ((s.cac k).getD ([],0)).1 id,((s.cac k).getD ([],0)).2),tim:=HeapPure.drop P14.lt s.tim (0,id) }:=by
 unfold takeS;rw[cset_cput]
theorem take_rs(h:Rs w0 F0 w s A)(i:Nat)(x:P12.Bx)(hx:s.boxes[i]?=some x)(k:Nat)(hk:k < 32)(hxk:x.host=(k:Int))(hid:(Lit.int .i64 x.id).wf=true):
  Calls Tryz.prog 130 #[.pointer (some ⟨A.core,0,none⟩),.pointer (some ⟨A.box i,0,none⟩)] w fun e w'=>e=.returned (.tuple #[])∧∃ cac:Nat→Nat,Rs w0 F0 w' { s with cac:=cset s.cac k (HeapPure.drop P09.lt ((s.cac k).getD ([],0)).1 x.id,((s.cac k).getD ([],0)).2),tim:=HeapPure.drop P14.lt s.tim (0,x.id) } { A with cac:=cac }:=by
 refine(take_any s A _ i x hx k hk hxk hid ⟨(by decide:(Lit.int .i64 0).wf=true),hid⟩ w h.1).mono ?_;rintro e w' ⟨rfl,cac,h1,h2⟩;rw[takeS_eq] at h1;exact⟨rfl,cac,⟨(h.next (A':={ A with cac:=cac }) h1 h2).1,(h.next (A':={ A with cac:=cac }) h1 h2).2⟩⟩
theorem runs_rs(h:Rs w0 F0 w s A)(i:Nat)(x:P12.Bx)(hx:s.boxes[i]?=some x)(hs:x.st < 4):
  Calls Tryz.prog 83 #[.pointer (some ⟨A.box i,0,none⟩)] w fun e w'=>e=.returned (.bool (P12.runs x))∧Rs w0 F0 w' s A:=by
 refine(P12.runs_any (A.box i) x w (h.bq hx) hs).mono ?_;rintro e w' ⟨rfl,hB⟩;exact⟨rfl,h.below hB⟩
theorem end_rs(h:Rs w0 F0 w s A)(f:Nat)(hf:f < 64)(hg:P11.goodf (s.quo.fs f)):
  Calls Tryz.prog 99 #[.pointer (some ⟨A.quo,0,none⟩),.int .i64 f] w fun e w'=>(∃ b,e=.returned (.bool b))∧Rs w0 F0 w' { s with quo:=endQ s.quo f } A:=by
 obtain⟨hq,hn⟩:=h.1.quoTurn;unfold endQ;by_cases hc:(s.quo.fs f).th=true∧(s.quo.fs f).bu≠0
 ·refine(P11.end_t A.quo s.quo f hf hg hc.1 hc.2 w hq).mono ?_
  rintro e w' ⟨rfl,h1,h2⟩;rw[if_pos hc];obtain⟨h3,h4⟩:=hn w' _ h1 h2;exact⟨⟨_,rfl⟩,h.next h3 h4⟩
 ·refine(P11.end_f A.quo s.quo f hf ?_ w hq).mono ?_
  ·cases hb:(s.quo.fs f).th
   ·exact .inl rfl
   ·right
    by_cases h0:(s.quo.fs f).bu=0
    ·exact h0
    ·exact absurd ⟨hb,h0⟩ hc
  ·rintro e w' ⟨rfl,rfl⟩
   rw[if_neg hc];exact⟨⟨_,rfl⟩,h⟩
theorem kill_rs(h:Rs w0 F0 w s A)(i:Nat)(x:P12.Bx)(hx:s.boxes[i]?=some x)(hs:x.st < 4)(n:Int):
  Calls Tryz.prog 135 #[.pointer (some ⟨A.box i,0,none⟩),.int .i64 n] w fun e w'=>(∃ b,e=.returned (.bool b))∧Rs w0 F0 w' { s with boxes:=s.boxes.set i (P12.kill x n).1 } A:=by
 obtain⟨hq,hn⟩:=h.1.boxTurn i x hx;refine(P12.kill_any (A.box i) x n w hq hs).mono ?_;rintro e w' ⟨rfl,h1,h2⟩;obtain⟨h3,h4⟩:=hn w' _ h1 h2;exact⟨⟨_,rfl⟩,h.next h3 h4⟩
theorem call_rs(h:Rs w0 F0 w s A)(i:Nat)(x:P12.Bx)(hx:s.boxes[i]?=some x)(hs:x.st < 4)(n:Int):
  Calls Tryz.prog 142 #[.pointer (some ⟨A.box i,0,none⟩),.int .i64 n] w fun e w'=>(∃ b,e=.returned (.bool b))∧Rs w0 F0 w' { s with boxes:=s.boxes.set i (P12.call x n).1 } A:=by
 obtain⟨hq,hn⟩:=h.1.boxTurn i x hx;refine(P12.call_any (A.box i) x n w hq hs).mono ?_;rintro e w' ⟨rfl,h1,h2⟩;obtain⟨h3,h4⟩:=hn w' _ h1 h2;exact⟨⟨_,rfl⟩,h.next h3 h4⟩
theorem give_rs(h:Rs w0 F0 w s A)(k:Nat)(hk:k < 32)(hg:0≤(s.hosts k).us∧(s.hosts k).us≤(s.hosts k).sz∧(s.hosts k).sz≤4096)(n:Int)(hn:0≤n):
  Calls Tryz.prog 136 #[.pointer (some ⟨A.hosts,0,none⟩),.int .i64 k,.int .i64 n] w fun e w'=>(∃ b,e=.returned (.bool b))∧Rs w0 F0 w' { s with hosts:=P13.put s.hosts k (P13.gave (s.hosts k) n) } A:=by
 obtain⟨hq,hnx⟩:=h.1.hostsTurn;refine(P13.give_any A.hosts s.hosts k hk hg n hn w hq).mono ?_;rintro e w' ⟨rfl,h1,h2⟩;obtain⟨h3,h4⟩:=hnx w' _ h1 h2;exact⟨⟨_,rfl⟩,h.next h3 h4⟩
theorem hostTake_rs(h:Rs w0 F0 w s A)(k:Nat)(hk:k < 32)(hg:0≤(s.hosts k).us∧(s.hosts k).us≤(s.hosts k).sz∧(s.hosts k).sz≤4096)(n:Int)(hn:0≤n):
  Calls Tryz.prog 146 #[.pointer (some ⟨A.hosts,0,none⟩),.int .i64 k,.int .i64 n] w fun e w'=>(∃ b,e=.returned (.bool b))∧Rs w0 F0 w' { s with hosts:=P13.put s.hosts k (P13.took (s.hosts k) n) } A:=by
 obtain⟨hq,hnx⟩:=h.1.hostsTurn;refine(P13.take_any A.hosts s.hosts k hk hg n hn w hq).mono ?_;rintro e w' ⟨rfl,h1,h2⟩;obtain⟨h3,h4⟩:=hnx w' _ h1 h2;exact⟨⟨_,rfl⟩,h.next h3 h4⟩
end
theorem step_im_del{α:Type}{E:El α}{t et:TypeId}{ops:Array Oper}{o:Oper}{a:Act}{w:World}{K:Act→World→Prop}{Q:Exit→Act→World→Prop}{Ep:Prop}(hg:o.guard=none)(x y:Operand)(hop:o.op=Op.call { callee:=Callee.builtin Builtin.delete,args:=#[x,y],argTypes:=#[t,3] })(ht:Tryz.prog.underlying t=some (.map 3 et))
  (mb c:Nat) (m:Int→Option α) (hm:a.eval x=.map (some mb)) (h:Gm intK E w mb c m) (k:Int) (hx:a.eval y=.int .i64 k) (hw:(Lit.int .i64 k).wf=true)
  (hK:∀ w',Gm intK E w' mb (if (m k).isSome then c - 1 else c) (gdel m k)→Kept (fun x=>x=mb) w w'→K (a.put o.dst (.tuple #[])) w'):
  if Region.wanted o (yielded ops a.tmps)=true then Oper.wp Tryz.prog o a w K Q else Ep:=by
 have hwd:Region.wanted o (yielded ops a.tmps)=true:=by simp[Region.wanted,hg]
 rw[if_pos hwd];obtain⟨D,h1,h2⟩:=h;obtain⟨w',hrun,r1,r2⟩:=h1.drop intK.keyed ht (intK.of k hw) o.type;have hrun:(Builtin.delete_ #[t,3] o.type #[.map (some mb),.int .i64 k]).run Tryz.prog w=.ok (.tuple #[]) w':=hrun;have h3:=h2.del (h1.tidy intK.keyed) k hw;have h4:=Go.Kpt.own_size r1;rw[h3.size] at h4;have hfin:=hK w' ⟨_,h4,h3⟩ (Kept.of_grown1 r2.grown);unfold Oper.wp;simp[execOp,hop,resolve,invoke,builtin,hm,hx,hrun,Result.andThen];exact hfin
end Go.Proofs.YtigeldkbfbcpmaaGreat
