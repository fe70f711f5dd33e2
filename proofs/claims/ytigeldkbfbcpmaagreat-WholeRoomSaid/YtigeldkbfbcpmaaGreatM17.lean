/- A part of the proof: what the functions of the program come to, and what holds at all times. -/
import Derived.OwnWalkIn
import Derived.TacticsInMore
import Derived.Deep.QuietTactic
import Derived.BigQuiet
import Derived.Shelf.SlicesE.DeleteFunc
import Derived.Lib.SliceRun
import Derived.Laws.IdiomCopy
import Derived.Deep.Upon
import Derived.Test.YtigeldkbfbcpmaaGreatM04
import Derived.Test.YtigeldkbfbcpmaaGreatM05
import Derived.Test.YtigeldkbfbcpmaaGreatM06
import Derived.Test.YtigeldkbfbcpmaaGreatM07
import Derived.Test.YtigeldkbfbcpmaaGreatM08
import Derived.Test.YtigeldkbfbcpmaaGreatM13
import Derived.Test.YtigeldkbfbcpmaaGreatM16
import Derived.Test.YtigeldkbfbcpmaaGreatM03
set_option linter.unusedVariables false
set_option linter.unusedSectionVars false
set_option linter.unusedSimpArgs false
set_option maxRecDepth 100000
set_option maxHeartbeats 8000000
namespace Go.Proofs.YtigeldkbfbcpmaaGreat
open Go.RowKit Go.Kpt
structure Bkt where
 s:Int
 r:Int
 t:Int
structure Fnc where
 account:Nat
 mem:Nat
 cost:Nat
 keep:Nat
 often:Nat
 last:Int
 fin:Int
 his:Hst
 ring:List Int
structure Cmd where
 boot:Bool
 box:Int
 fn:Int
 host:Int
abbrev Cac:=List (Int×P09.Mk)×Nat
structure St where
 now:Int
 next:Int
 quo:P11.Lg
 tok:Nat→Option Bkt
 fns:Nat→Option Fnc
 hosts:Nat→P13.Ma
 cac:Nat→Option Cac
 boxes:List P12.Bx
 live:Int→Bool
 unt:Int→Option Int
 tim:List (P14.Ke×P14.Tm)
 out:Option (List Cmd)
 ans:Nat→Int
structure Adr where
 core:Nat
 quo:Nat
 hosts:Nat
 tim:Nat
 tokM:Nat
 fnM:Nat
 cacM:Nat
 boxM:Nat
 untM:Nat
 tok:Nat→Nat
 fn:Nat→Nat
 his:Nat→Nat
 rng:Nat→Nat
 cac:Nat→Nat
 box:Nat→Nat
inductive Part where
 | core | quo | hosts | tim | tokM | fnM | cacM | boxM | untM
 | tok (a:Nat) | fn (f:Nat) | his (f:Nat) | rng (f:Nat) | cac (h:Nat) | box (i:Nat)
deriving DecidableEq
def ptr(b:Nat):Value:=.pointer (some ⟨b,0,none⟩)
def coreCells(s:St)(A:Adr)(ov:Value):Array Value:=
 #[.int .i64 s.now,.int .i64 s.next,ptr A.quo,.map (some A.tokM),.map (some A.fnM),ptr A.hosts,.map (some A.cacM),.map (some A.boxM),.map (some A.untM),ptr A.tim,ov,
  .int .i64 (s.ans 0),.int .i64 (s.ans 1),.int .i64 (s.ans 2),.int .i64 (s.ans 3),.int .i64 (s.ans 4)]
def fcells(x:Fnc)(hb rb:Nat):Array Value:=
 #[.int .i64 x.account,.int .i64 x.mem,.int .i64 x.cost,.int .i64 x.keep,.int .i64 x.often,.int .i64 x.last,.int .i64 x.fin,ptr hb,ptr rb]
def cmdCells(c:Cmd):List Value:=[.bool c.boot,.int .i64 c.box,.int .i64 c.fn,.int .i64 c.host]
def outCells(l:List Cmd):List Value:=l.flatMap cmdCells
def mTok(s:St)(A:Adr)(k:Int):Option (Option Nat):=if 0≤k∧k < 16 then (s.tok k.toNat).map (fun _=>some (A.tok k.toNat)) else none
def mFn(s:St)(A:Adr)(k:Int):Option (Option Nat):=if 0≤k∧k < 64 then (s.fns k.toNat).map (fun _=>some (A.fn k.toNat)) else none
def mCac(s:St)(A:Adr)(k:Int):Option Nat:=if 0≤k∧k < 32 then (s.cac k.toNat).map (fun _=>A.cac k.toNat) else none
def mBox(s:St)(A:Adr)(k:Int):Option (Option Nat):=if 1≤k∧k≤s.boxes.length∧s.live k=true then some (some (A.box (k.toNat - 1))) else none
def Off(w:World)(F:Nat→Prop):Nat→Prop:=fun x=>x < w.heap.size∧¬ F x
def OutRow(w:World)(F:Nat→Prop)(core:Nat)(ov:Value)(l:List Cmd):Prop:=
 w.ownsRow 0 43 4 ov l.length (outCells l)∧∀ g,ov.ownBlock=some g→F g∧g≠core
def At(s:St)(A:Adr):Part→World→(Nat→Prop)→Prop
 | .core,w,F=>F A.core∧∃ ov,w.heap[A.core]?=some (.cells (coreCells s A ov) 96 (0,0))∧∀ l,s.out=some l→OutRow w F A.core ov l
 | .quo,w,F=>F A.quo∧P11.Lq w A.quo s.quo
 | .hosts,w,F=>F A.hosts∧P13.Hq w A.hosts s.hosts
 | .tim,w,F=>F A.tim∧P14.TX w 0 A.tim s.tim (Off w F)
 | .tokM,w,F=>F A.tokM∧∃ c,Pm w A.tokM c (mTok s A)
 | .fnM,w,F=>F A.fnM∧∃ c,Pm w A.fnM c (mFn s A)
 | .cacM,w,F=>F A.cacM∧∃ c m,Pm w A.cacM c m∧(∀ k,(m k).isSome=true→0≤k∧k < 32)∧∀ k,(m k).getD none=mCac s A k
 | .boxM,w,F=>F A.boxM∧∃ c,Pm w A.boxM c (mBox s A)
 | .untM,w,F=>F A.untM∧∃ c,Um w A.untM c s.unt
 | .tok a,w,F=>∀ t,s.tok a=some t→F (A.tok a)∧P10.Bk w (A.tok a) t.s t.r t.t
 | .fn f,w,F=>∀ x,s.fns f=some x→F (A.fn f)∧w.heap[A.fn f]?=some (.cells (fcells x (A.his f) (A.rng f)) 133 (0,0))
 | .his f,w,F=>∀ x,s.fns f=some x→F (A.his f)∧Hh w (A.his f) x.his
 | .rng f,w,F=>∀ x,s.fns f=some x→F (A.rng f)∧P05.Rg w (A.rng f) x.ring
 | .cac h,w,F=>∀ c,s.cac h=some c→F (A.cac h)∧P09.WX w 0 (A.cac h) c.1 c.2 (Off w F)
 | .box i,w,F=>∀ b,s.boxes[i]?=some b→F (A.box i)∧P12.Bq w (A.box i) b
theorem off_kept{w w':World}{F G:Nat→Prop}(k:Kept G w w')(hG:∀ x,F x→¬ G x):Kept (Off w F) w w':=
 ⟨k.os,k.tape,k.output,k.size,fun x hx hn=>k.block x hx (fun g=>hn ⟨hx,fun f=>hG x f g⟩)⟩
theorem wx_frame{w w':World}{cb:Nat}{l:List (Int×P09.Mk)}{c:Nat}{F G:Nat→Prop}(h:P09.WX w 0 cb l c (Off w F))(k':Kept G w w')(hG:∀ x,F x→¬ G x):P09.WX w' 0 cb l c (Off w' F):=by
 have k:=off_kept (F:=F) k' hG;obtain⟨hb,v,mb,h,hq⟩:=h;refine⟨hb,v,mb,⟨(k.block cb (lt_of h.blk) (fun hh=>(hq cb hh).2.1 rfl)).trans h.blk,h.hp.kept k (fun hh=>(hq hb hh).2.2.1 rfl) (fun hh=>(hq mb hh).2.2.2 (.inl rfl)) (fun g hg hh=>(hq g hh).2.2.2 (.inr hg.symm)),h.cb,h.hb,h.mb,Nat.le_trans h.sz k.size⟩,fun x hx=>?_⟩;by_cases hlt:x < w.heap.size
 ·exact⟨hx.1,(hq x ⟨hlt,hx.2⟩).2⟩
 ·refine⟨hx.1,fun e=>?_,fun e=>?_,fun e=>?_⟩
  ·have:=lt_of h.blk;omega
  ·have:=lt_of h.hp.blk;omega
  ·rcases e with e | e
   ·have:=h.hp.mp.lt;omega
   ·have:=(h.hp.own.lt x e.symm).2;omega
theorem tx_frame{w w':World}{cb:Nat}{l:List (P14.Ke×P14.Tm)}{F G:Nat→Prop}(h:P14.TX w 0 cb l (Off w F))(k':Kept G w w')(hG:∀ x,F x→¬ G x):P14.TX w' 0 cb l (Off w' F):=by
 have k:=off_kept (F:=F) k' hG;obtain⟨hb,v,mb,h,hq⟩:=h;refine⟨hb,v,mb,h.kept k (fun x hf hh=>(hq x hh).2 hf),fun x hx=>?_⟩;by_cases hlt:x < w.heap.size
 ·exact⟨hx.1,(hq x ⟨hlt,hx.2⟩).2⟩
 ·exact⟨hx.1,fun e=>by have:=(h.lt e).1;omega⟩
theorem row_kept{F:Nat→Prop}{w w':World}{base:Nat}{e:TypeId}{s:Nat}{v:Value}{n:Nat}{raw:List Value}(h:w.ownsRow base e s v n raw)(hk:Kept F w w')(hF:∀ g,v.ownBlock=some g→¬ F g):w'.ownsRow base e s v n raw:=P14.row_kept h hk hF
theorem At.frame{s:St}{A:Adr}{p:Part}{w w':World}{F G:Nat→Prop}(h:At s A p w F)(k:Kept G w w')(hG:∀ x,F x→¬ G x):At s A p w' F:=by
 cases p with
 | core=>
  obtain⟨h1,ov,h2,h3⟩:=h;refine⟨h1,ov,(k.block _ (lt_of h2) (hG _ h1)).trans h2,fun l hl=>?_⟩;obtain⟨r1,r2⟩:=h3 l hl;exact⟨row_kept r1 k (fun g hg=>hG g (r2 g hg).1),r2⟩
 | quo=>exact⟨h.1,h.2.kept k (hG _ h.1)⟩
 | hosts=>exact⟨h.1,h.2.kept k (hG _ h.1)⟩
 | tim=>exact⟨h.1,tx_frame h.2 k hG⟩
 | tokM=>obtain⟨h1,c,h2⟩:=h;exact⟨h1,c,h2.kept k (hG _ h1)⟩
 | fnM=>obtain⟨h1,c,h2⟩:=h;exact⟨h1,c,h2.kept k (hG _ h1)⟩
 | cacM=>obtain⟨h1,c,m,h2,h3⟩:=h;exact⟨h1,c,m,h2.kept k (hG _ h1),h3⟩
 | boxM=>obtain⟨h1,c,h2⟩:=h;exact⟨h1,c,h2.kept k (hG _ h1)⟩
 | untM=>obtain⟨h1,c,h2⟩:=h;exact⟨h1,c,h2.kept k (hG _ h1)⟩
 | tok a=>intro t ht;obtain⟨h1,h2⟩:=h t ht;exact⟨h1,h2.kept k (hG _ h1)⟩
 | fn f=>intro t ht;obtain⟨h1,h2⟩:=h t ht;exact⟨h1,(k.block _ (lt_of h2) (hG _ h1)).trans h2⟩
 | his f=>intro t ht;obtain⟨h1,h2⟩:=h t ht;exact⟨h1,h2.kept k (hG _ h1)⟩
 | rng f=>intro t ht;obtain⟨h1,h2⟩:=h t ht;exact⟨h1,h2.kept k (hG _ h1)⟩
 | cac f=>intro t ht;obtain⟨h1,h2⟩:=h t ht;exact⟨h1,wx_frame h2 k hG⟩
 | box f=>intro t ht;obtain⟨h1,h2⟩:=h t ht;exact⟨h1,h2.kept k (hG _ h1)⟩
def Grow(F:Nat→Prop)(w w':World):Nat→Prop:=fun x=>F x∨(w.heap.size≤x∧x < w'.heap.size)
structure SysO (w:World) (s:St) (A:Adr) (own:Part→Nat→Prop):Prop where
 at_:∀ p,At s A p w (own p)
 lt:∀ p x,own p x→x < w.heap.size
 sep:∀ p q x,own p x→own q x→p=q
def Sys(w:World)(s:St)(A:Adr)(F:Nat→Prop):Prop:=∃ own,SysO w s A own∧∀ p x,own p x→F x
theorem SysO.kept{w w':World}{s:St}{A:Adr}{own:Part→Nat→Prop}{G:Nat→Prop}(h:SysO w s A own)(k:Kept G w w')(hG:∀ p x,own p x→¬ G x):SysO w' s A own:=
 ⟨fun p=>(h.at_ p).frame k (hG p),fun p x hx=>Nat.lt_of_lt_of_le (h.lt p x hx) k.size,h.sep⟩
theorem Sys.kept{w w':World}{s:St}{A:Adr}{F G:Nat→Prop}(h:Sys w s A F)(k:Kept G w w')(hG:∀ x,F x→¬ G x):Sys w' s A F:=by
 obtain⟨own,h,hF⟩:=h;exact⟨own,h.kept k (fun p x hx=>hG x (hF p x hx)),hF⟩
theorem Sys.below{w w':World}{s:St}{A:Adr}{F:Nat→Prop}(h:Sys w s A F)(k:Below w.heap.size w w'):Sys w' s A F:=h.kept (Kept.of_below (F:=fun _=>False) k) (fun _ _ h=>h)
theorem Sys.mono{w:World}{s:St}{A:Adr}{F G:Nat→Prop}(h:Sys w s A F)(hG:∀ x,F x→G x):Sys w s A G:=by
 obtain⟨own,h,hF⟩:=h;exact⟨own,h,fun p x hx=>hG x (hF p x hx)⟩
theorem SysO.upd{w w':World}{s s':St}{A A':Adr}{own:Part→Nat→Prop}(h:SysO w s A own)(p:Part)(k:Kept (own p) w w')
  (hp:At s' A' p w' (Grow (own p) w w')) (hq:∀ q,q≠p→∀ W G,At s A q W G→At s' A' q W G):
  SysO w' s' A' (fun q=>if q=p then Grow (own p) w w' else own q):=by
 refine⟨fun q=>?_,fun q x hx=>?_,fun q r x hx hy=>?_⟩
 ·by_cases e:q=p
  ·subst e;rw[if_pos rfl];exact hp
  ·rw[if_neg e]
   exact hq q e w' _ ((h.at_ q).frame k (fun x h1 h2=>e (h.sep q p x h1 h2)))
 ·skip
  split at hx
  ·rcases hx with hx | hx
   ·exact Nat.lt_of_lt_of_le (h.lt p x hx) k.size
   ·exact hx.2
  ·exact Nat.lt_of_lt_of_le (h.lt q x hx) k.size
 ·skip
  by_cases e1:q=p <;> by_cases e2:r=p
  ·rw[e1,e2]
  ·rw[if_pos e1] at hx;rw[if_neg e2] at hy
   rcases hx with hx|hx
   ·exact absurd (h.sep r p x hy hx) e2
   ·have:=h.lt r x hy;omega
  ·rw[if_neg e1] at hx;rw[if_pos e2] at hy
   rcases hy with hy|hy
   ·exact absurd (h.sep q p x hx hy) e1
   ·have:=h.lt q x hx;omega
  ·rw[if_neg e1] at hx;rw[if_neg e2] at hy
   exact h.sep q r x hx hy
theorem Sys.part{w:World}{s:St}{A:Adr}{F:Nat→Prop}(h:Sys w s A F)(p:Part):
  ∃ G:Nat→Prop,(∀ x,G x→F x)∧(∀ x,G x→x < w.heap.size)∧At s A p w G ∧
   ∀ (w':World) (s':St) (A':Adr),Kept G w w'→At s' A' p w' (Grow G w w')→(∀ q,q≠p→∀ W H,At s A q W H→At s' A' q W H)→Sys w' s' A' (Grow F w w'):=by
 obtain⟨own,h,hF⟩:=h;refine⟨own p,hF p,h.lt p,h.at_ p,fun w' s' A' k hp hq=>⟨_,h.upd p k hp hq,fun q x hx=>?_⟩⟩;split at hx
 ·rcases hx with hx | hx
  ·exact .inl (hF p x hx)
  ·exact .inr hx
 ·exact .inl (hF q x hx)
theorem Kept.grow{F G:Nat→Prop}{w w':World}(k:Kept G w w')(h:∀ x,G x→F x):Kept F w w':=k.mono (fun x _ hx=>h x hx)
theorem Sys.lt{w:World}{s:St}{A:Adr}{F:Nat→Prop}(h:Sys w s A F):Sys w s A (fun x=>F x∧x < w.heap.size):=by
 obtain⟨own,h,hF⟩:=h;exact⟨own,h,fun p x hx=>⟨hF p x hx,h.lt p x hx⟩⟩
theorem SysO.two{w w':World}{s s':St}{A A':Adr}{own:Part→Nat→Prop}(h:SysO w s A own)(p r:Part)(hpr:p≠r)(k:Kept (fun x=>own p x∨own r x) w w')(G H:Nat→Prop)
  (hG:∀ x,G x→own p x∨(w.heap.size≤x∧x < w'.heap.size)) (hH:∀ x,H x→own r x∨(w.heap.size≤x∧x < w'.heap.size)) (hGH:∀ x,G x→¬ H x)
  (hp:At s' A' p w' G) (hr:At s' A' r w' H) (hq:∀ q,q≠p→q≠r→∀ W G,At s A q W G→At s' A' q W G):
  SysO w' s' A' (fun q=>if q=p then G else if q=r then H else own q):=by
 have hlt:∀ q x,(if q=p then G else if q=r then H else own q) x→x < w'.heap.size:=by
  intro q x hx;split at hx
  ·rcases hG x hx with hx | hx
   ·exact Nat.lt_of_lt_of_le (h.lt p x hx) k.size
   ·exact hx.2
  ·split at hx
   ·rcases hH x hx with hx | hx
    ·exact Nat.lt_of_lt_of_le (h.lt r x hx) k.size
    ·exact hx.2
   ·exact Nat.lt_of_lt_of_le (h.lt q x hx) k.size
 have hof:∀ q x,(if q=p then G else if q=r then H else own q) x→own q x∨((q=p∨q=r)∧w.heap.size≤x):=by
  intro q x hx;split at hx
  ·rename_i e;subst e
   rcases hG x hx with hx|hx
   ·exact .inl hx
   ·exact .inr ⟨.inl rfl,hx.1⟩
  ·split at hx
   ·rename_i e;subst e
    rcases hH x hx with hx|hx
    ·exact .inl hx
    ·exact .inr ⟨.inr rfl,hx.1⟩
   ·exact .inl hx
 refine⟨fun q=>?_,hlt,fun q t x hx hy=>?_⟩
 ·by_cases e:q=p
  ·subst e;rw[if_pos rfl];exact hp
  ·rw[if_neg e]
   by_cases e2:q=r
   ·subst e2;rw[if_pos rfl];exact hr
   ·rw[if_neg e2]
    exact hq q e e2 w' _ ((h.at_ q).frame k (fun x h1 h2=>h2.elim (fun h2=>e (h.sep q p x h1 h2)) (fun h2=>e2 (h.sep q r x h1 h2))))
 ·rcases hof q x hx with h1 | ⟨h1,h2⟩ <;> rcases hof t x hy with h3 | ⟨h3,h4⟩
  ·exact h.sep q t x h1 h3
  ·have:=h.lt q x h1;omega
  ·have:=h.lt t x h3;omega
  ·rcases h1 with rfl | rfl <;> rcases h3 with rfl | rfl
   ·rfl
   ·rw[if_pos rfl] at hx
    rw[if_neg (fun e=>hpr e.symm),if_pos rfl] at hy;exact absurd hy (hGH x hx)
   ·rw[if_pos rfl] at hy
    rw[if_neg (fun e=>hpr e.symm),if_pos rfl] at hx;exact absurd hx (hGH x hy)
   ·rfl
theorem Sys.two{w:World}{s:St}{A:Adr}{F:Nat→Prop}(h:Sys w s A F)(p r:Part)(hpr:p≠r):
  ∃ P R:Nat→Prop,(∀ x,P x→F x∧x < w.heap.size)∧(∀ x,R x→F x∧x < w.heap.size)∧(∀ x,P x→¬ R x)∧At s A p w P∧At s A r w R ∧
   ∀ (w':World) (s':St) (A':Adr) (G H:Nat→Prop),Kept (fun x=>P x∨R x) w w'→(∀ x,G x→P x∨(w.heap.size≤x∧x < w'.heap.size))→(∀ x,H x→R x∨(w.heap.size≤x∧x < w'.heap.size))→(∀ x,G x→¬ H x) →
    At s' A' p w' G→At s' A' r w' H→(∀ q,q≠p→q≠r→∀ W G,At s A q W G→At s' A' q W G)→Sys w' s' A' (Grow F w w'):=by
 obtain⟨own,h,hF⟩:=h;refine⟨own p,own r,fun x hx=>⟨hF p x hx,h.lt p x hx⟩,fun x hx=>⟨hF r x hx,h.lt r x hx⟩,fun x h1 h2=>hpr (h.sep p r x h1 h2),h.at_ p,h.at_ r,?_⟩;intro w' s' A' G H k hG hH hGH hp hr hq;refine⟨_,h.two p r hpr k G H hG hH hGH hp hr hq,fun q x hx=>?_⟩;split at hx
 ·rcases hG x hx with hx | hx
  ·exact .inl (hF p x hx)
  ·exact .inr hx
 ·split at hx
  ·rcases hH x hx with hx | hx
   ·exact .inl (hF r x hx)
   ·exact .inr hx
  ·exact .inl (hF q x hx)
end Go.Proofs.YtigeldkbfbcpmaaGreat
namespace Go.Proofs.YtigeldkbfbcpmaaGreat
open Go.RowKit Go.Kpt Go.Maps Go.Sort Go.Shelf
def ids(s:St):List Int:=((List.range s.boxes.length).map fun i:Nat=>(i:Int)+1).filter s.live
def fids(s:St):List Int:=((List.range 64).map fun i:Nat=>(i:Int)).filter fun k=>(s.fns k.toNat).isSome
theorem ids_mem(s:St)(A:Adr)(x:Int):x ∈ ids s↔(mBox s A x).isSome=true:=by
 unfold ids mBox;rw[List.mem_filter,List.mem_map];constructor
 ·rintro⟨⟨i,hi,rfl⟩,hl⟩
  rw[List.mem_range] at hi;rw[if_pos ⟨by omega,by omega,hl⟩];rfl
 ·intro h
  split at h
  ·rename_i hc
   refine⟨⟨x.toNat - 1,?_,by omega⟩,hc.2.2⟩;rw[List.mem_range];omega
  ·cases h
theorem ids_sorted(s:St):(ids s).Pairwise (· < ·):=by
 refine List.Pairwise.filter _ (List.pairwise_map.2 (List.pairwise_lt_range.imp fun h=>?_));omega
theorem fids_mem(s:St)(A:Adr)(x:Int):x ∈ fids s↔(mFn s A x).isSome=true:=by
 unfold fids mFn;rw[List.mem_filter,List.mem_map];constructor
 ·rintro⟨⟨i,hi,rfl⟩,hl⟩
  rw[List.mem_range] at hi;rw[if_pos (by omega),Option.isSome_map];exact hl
 ·intro h
  split at h
  ·rename_i hc
   rw[Option.isSome_map] at h;refine⟨⟨x.toNat,?_,by omega⟩,h⟩;rw[List.mem_range];omega
  ·cases h
theorem fids_sorted(s:St):(fids s).Pairwise (· < ·):=by
 refine List.Pairwise.filter _ (List.pairwise_map.2 (List.pairwise_lt_range.imp fun h=>?_));omega
theorem ids_len(s:St):(ids s).length≤s.boxes.length:=by
 unfold ids;have:=List.length_filter_le s.live ((List.range s.boxes.length).map fun i:Nat=>(i:Int)+1);simp at this;exact this
theorem fids_len(s:St):(fids s).length≤64:=by
 unfold fids;have:=List.length_filter_le (fun k:Int=>(s.fns k.toNat).isSome) ((List.range 64).map fun i:Nat=>(i:Int));simp at this;exact this
theorem keys_are{m:Int→Option (Option Nat)}{w:World}{mb c:Nat}{D:DataW Unit}(h1:w.ownsMap Tryz.prog 3 ptrE.R mb c D)(h2:Tells intK ptrE D c m)(l:List Int)(hl:l.Pairwise (· < ·))(hm:∀ x,x ∈ l↔(m x).isSome=true)(hw:∀ x ∈ l,(Lit.int .i64 x).wf=true)
  {ss:List Int} (hp:ss.Perm (intKeys D)):ss.mergeSort (fun x y=>decide (x≤y))=l∧ss.length=l.length:=by
 obtain⟨k1,k2,k3⟩:=keys_spec h1 h2;have hn:=hp.nodup_iff.2 k1;have he:ss.mergeSort (fun x y=>decide (x≤y))=l:=sorted_eq hn hl fun x=>by
  rw[hp.mem_iff,k2,← hm];exact⟨fun h=>h.1,fun h=>⟨h,hw x h⟩⟩
 refine⟨he,?_⟩;rw[← he,List.length_mergeSort]
theorem Sys.core{w:World}{s:St}{A:Adr}{F:Nat→Prop}(h:Sys w s A F):∃ ov,w.heap[A.core]?=some (.cells (coreCells s A ov) 96 (0,0))∧F A.core:=by
 obtain⟨own,h,hF⟩:=h;obtain⟨h1,ov,h2,-⟩:=h.at_ .core;exact⟨ov,h2,hF _ _ h1⟩
theorem ids_any(s:St)(A:Adr)(F:Nat→Prop)(hN:s.boxes.length≤1000000000)(w:World)(h:Sys w s A F):
  Calls Tryz.prog 32 #[ptr A.core] w fun e w'=>∃ v,e=.returned v∧OwnI w' w.heap.size 3 .i64 v (ids s)∧Below w.heap.size w w':=by
 obtain⟨ov,hc,-⟩:=h.core;obtain⟨own,h,-⟩:=h;obtain⟨-,c,D,hown,hT⟩:=h.at_ .boxM;obtain⟨k1,k2,k3⟩:=keys_spec hown hT;have hcl:c≤s.boxes.length+1:=by
  rw[← k3];refine nodup_le _ _ k1 fun x hx=>?_;have:=((k2 x).1 hx).1;unfold mBox at this;split at this
  ·rename_i hh;push_cast;omega
  ·cases this
 have hsz:Maps.size D=c:=hT.size;have c7:w.cell? ⟨A.core,7,none⟩=some (.map (some A.boxM)):=(cell_of hc).trans rfl;have hlen:=ids_len s;have hwf:∀ x ∈ ids s,(Lit.int .i64 x).wf=true:=fun x hx=>by
  have:=(ids_mem s A x).1 hx;unfold mBox at this;split at this
  ·exact WalkArith.wf_i64 (by omega)
  ·cases this
 have hkeys:=fun (ss:List Int) (hp:ss.Perm (intKeys D))=>keys_are hown hT (ids s) (ids_sorted s) (fun x=>ids_mem s A x) hwf hp;refine(callsIn_wide (n:=6)).1 ?_;have cK:=fun W=>Tryz.keys61 (some A.boxM) W;have cS:=Tryz.sorted61 A.boxM c D ptrE.R w hown (by rw[hsz];unfold maxLen;omega) (by rw[hsz];omega);have hfK:Fence.wide.fn 61:=trivial;have hfS:Fence.wide.fn 60:=trivial;clear hown hT h hc k1 k2 k3;refine callsIn_of_wp Tryz.func32 rfl trivial ?_ rfl;simp only[Tryz.ntmps32,ptr,List.size_toArray,List.length_cons,List.length_nil,Nat.reduceAdd,Nat.reduceSub,Array.replicate_succ,Array.replicate_zero,List.push_toArray,List.append_toArray,List.nil_append,List.cons_append]
 gi_wp2_with (first
  | (gi_at_call 61;refine(cK _).mono ?_;rintro e w' ⟨rfl,rfl⟩)
  | (gi_at_call 60;refine cS.mono ?_;rintro e w' ⟨v,ss,rfl,hS,hrow,hnil,hb⟩))
 go_ret
 obtain⟨e1,e2⟩:=hkeys ss hS;refine⟨v,rfl,?_,((Below.refl _ w).alloc (Nat.le_refl _) _).trans (hb.mono (by simp))⟩;rw[e1,e2] at hrow;exact ownsRow_base_a hrow (by simp)
theorem Sys.look_box{w:World}{s:St}{A:Adr}{F:Nat→Prop}(h:Sys w s A F)(k:Int)(hk:(Lit.int .i64 k).wf=true)(v:Option Nat)(hv:(mBox s A k).getD none=v):
  (Instr.lookup 84 (.map (some A.boxM)) (.int .i64 k) false).run Tryz.prog w=.ok (pv v) w:=by
 obtain⟨own,h,-⟩:=h;obtain⟨-,c,hm⟩:=h.at_ .boxM;have:=hm.look (t:=84) (et:=104) Tryz.underlying84 none (by kernel_rfl) k hk;rw[hv] at this;exact this
theorem Sys.drewN{w:World}{s:St}{A:Adr}{F:Nat→Prop}(h:Sys w s A F)(n:Nat):Sys (w.drewN n) s A F:=h.kept (G:=fun _=>False) ((Kept.refl _ w).drewN n) (fun _ _ h=>h)
theorem wh1_any(s:St)(A:Adr)(F:Nat→Prop)(k:Int)(hk:(Lit.int .i64 k).wf=true)(bb:Nat)(hb:mBox s A k=some (some bb))(pb:Bool)(g:Nat)(lb:Array Value)
  (eg:∀ args w,(callFunc g args).run Tryz.prog w=.ok (.enter g args) w) (b3 b2:Nat) (W:World) (h:Sys W s A F) (hc3:W.cell? ⟨b3,0,none⟩=some (.func (.func g) #[] lb)) (hc2:W.cell? ⟨b2,0,none⟩=some (ptr A.core))
  (hg:∀ n,Calls Tryz.prog g (#[ptr bb]++lb) (W.drewN n) fun e w''=>e=.returned (.bool pb)∧∃ m,w''=W.drewN m):
  Calls Tryz.prog 134 #[.int .i64 k,.pointer (some ⟨b3,0,none⟩),.pointer (some ⟨b2,0,none⟩)] W fun e w'=>e=.returned (.bool (!pb))∧∃ q,w'=W.drewN q:=by
 obtain⟨ov,hc,-⟩:=h.core;have c7:W.cell? ⟨A.core,7,none⟩=some (.map (some A.boxM)):=(cell_of hc).trans rfl;have hlk:∀ n,(Instr.lookup 84 (.map (some A.boxM)) (.int .i64 k) false).run Tryz.prog (W.drewN n)=.ok (.pointer (some ⟨bb,0,none⟩)) (W.drewN n):=fun n=>(h.drewN n).look_box k hk (some bb) (by rw[hb];rfl);simp only[ptr] at hc2 hg;clear hb h hc;go_enter Tryz.func134,Tryz.ntmps134
 go_wp2_with fail
 go_quiet ((go_at_fn g;exact hg _))
 go_wp2_with fail
 go_ret
 exact⟨rfl,_,rfl⟩
def Nums(w:World)(blk:Nat)(n:Nat)(f:Nat→Int):Prop:=∀ j,j < n→w.cell? ⟨blk,j,none⟩=some (.int .i64 (f j))∧w.frozen? ⟨blk,j,none⟩=false
def Says(b3 b2:Nat)(p:Int→Bool)(l:List Int)(w:World):Prop:=
 ∀ x,x ∈ l→Calls Tryz.prog 134 #[.int .i64 x,.pointer (some ⟨b3,0,none⟩),.pointer (some ⟨b2,0,none⟩)] w fun e w''=>e=.returned (.bool (!p x))∧∃ m,w''=w.drewN m
theorem drewN_add(w:World)(a b:Nat):(w.drewN a).drewN b=w.drewN (a+b):=by
 show ({ w with drawn:=w.drawn+a+b }:World)={ w with drawn:=w.drawn+(a+b) };rw[Nat.add_assoc]
theorem idx_any(l:List Int)(p:Int→Bool)(b3 b2 blk cap:Nat)(hl:l.length≤1000000000)(w:World)(hc:Nums w blk l.length (fun j=>l.getD j 0))(hp:∀ q,Says b3 b2 p l (w.drewN q)):
  Calls Tryz.prog 164 #[.slice (some ⟨blk,0,none⟩) l.length cap,.func (.func 134) #[] #[.pointer (some ⟨b3,0,none⟩),.pointer (some ⟨b2,0,none⟩)]] w fun e w'=>∃ q,w'=w.drewN q ∧
   ((e=.returned (.int .i64 (-1))∧∀ j,j < l.length→p (l.getD j 0)=true)∨∃ k:Nat,e=.returned (.int .i64 k)∧k < l.length∧p (l.getD k 0)=false∧∀ j,j < k→p (l.getD j 0)=true):=by
 obtain⟨n,hn⟩:∃ n,l.length=n:=⟨_,rfl⟩;have hmem:∀ j,j < n→l.getD j 0 ∈ l:=fun j hj=>by
  rw[List.getD_eq_getElem?_getD,List.getElem?_eq_getElem (by omega)];exact List.getElem_mem _
 rw[hn] at hc hl ⊢;go_enter Tryz.func164,Tryz.ntmps164
 go_wp2_with fail
 go_loopw [8] (fun x wr=>∃ (k q:Nat),x=.int .i64 k∧k≤n∧wr=w.drewN q∧∀ j,j < k→p (l.getD j 0)=true) (fun x _=>n - (intOf x).toNat)
 case atStart=>exact⟨0,0,rfl,by omega,rfl,fun j hj=>by omega⟩
 case round=>
  obtain⟨k,q,rfl,hk,rfl,hall⟩:=hrel;by_cases hlt:k < n
  ·have hcell:(w.drewN q).cell? ⟨blk,k,none⟩=some (.int .i64 (l.getD k 0)):=(hc k hlt).1
   have hcall:=hp q _ (hmem k hlt);have j1:(k:Int) < (n:Int):=by omega
   obtain⟨x,hx⟩:∃ x,l.getD k 0=x:=⟨_,rfl⟩;rw[hx] at hcell hcall;have HX:=Lib.hid hx;have HA:=Lib.hid hall;clear hx hall;cases hpx:p x
   ·rw[hpx] at hcall
    go_wp2_with (go_at_call 134;refine hcall.mono ?_;rintro e w' ⟨rfl,qq,rfl⟩)
    go_ret
    exact⟨q+qq,rfl,.inr ⟨k,rfl,hlt,by rw[HX.out];exact hpx,HA.out⟩⟩
   ·rw[hpx] at hcall
    go_wp2_with (go_at_call 134;refine hcall.mono ?_;rintro e w' ⟨rfl,qq,rfl⟩)
    go_roundw
    case rel=>
     refine⟨k+1,q+qq,by go_num,by omega,rfl,fun j hj=>?_⟩;by_cases e:j=k
     ·subst e;rw[HX.out];exact hpx
     ·exact HA.out j (by omega)
    case measure=>simp[intOf];omega
  ·obtain rfl:k=n:=by omega
   have HA:=Lib.hid hall;clear hall;go_wp2_with fail
   go_ret
   exact⟨q,rfl,.inl ⟨rfl,HA.out⟩⟩
theorem kept_setCells{a:World}(b:Nat):∀ (vs:List Value) (o:Nat) (w:World),Kept (fun y=>y=b) a w→Kept (fun y=>y=b) a (w.setCells b o vs)
 | [],_,w,h=>h
 | v :: r,o,w,h=>by
  rw[World.setCells];exact kept_setCells b r (o+1) _ (h.setCell (p:=⟨b,o,none⟩) (fun _=>rfl) v)
theorem Nums.put{w:World}{blk n:Nat}{f:Nat→Int}(h:Nums w blk n f)(i:Nat)(hi:i < n)(x:Int):Nums (w.setCell ⟨blk,i,none⟩ (.int .i64 x)) blk n (fun t=>if t=i then x else f t):=fun j hj=>by
 refine⟨?_,by rw[World.frozen?_setCell];exact(h j hj).2⟩;by_cases e:j=i
 ·subst e
  simp only[if_pos];exact World.cell?_setCell_same _ _ _ (h j hj).1
 ·rw[World.cell?_setCell_other _ _ _ _ (fun e'=>e (by injection e' with _ h2 _;exact h2.symm))]
  simp only[if_neg e];exact(h j hj).1
theorem filter_snoc(l:List Int)(p:Int→Bool)(j:Nat)(hj:j < l.length):(l.take (j+1)).filter p=(l.take j).filter p++(if p (l.getD j 0) then [l.getD j 0] else []):=by
 rw[List.take_add_one,List.filter_append,List.getElem?_eq_getElem hj,List.getD_eq_getElem?_getD,List.getElem?_eq_getElem hj];simp[List.filter_cons]
theorem del_any(l:List Int)(p:Int→Bool)(b3 b2 blk cap:Nat)(hl:l.length≤1000000000)(hcap:l.length≤cap)(w:World)(hc:Nums w blk l.length (fun j=>l.getD j 0))(hlt:blk < w.heap.size)(hp:∀ W,Kept (fun y=>y=blk) w W→Says b3 b2 p l W):
  Calls Tryz.prog 133 #[.slice (some ⟨blk,0,none⟩) l.length cap,.func (.func 134) #[] #[.pointer (some ⟨b3,0,none⟩),.pointer (some ⟨b2,0,none⟩)]] w fun e w'=>
   e=.returned (.slice (some ⟨blk,0,none⟩) (l.filter p).length cap)∧Kept (fun y=>y=blk) w w'∧Nums w' blk (l.filter p).length (fun j=>(l.filter p).getD j 0):=by
 have hix:=idx_any l p b3 b2 blk cap hl w hc (fun q=>hp _ ((Kept.refl _ w).drewN q));obtain⟨n,hn⟩:∃ n,l.length=n:=⟨_,rfl⟩;have hmem:∀ j,j < n→l.getD j 0 ∈ l:=fun j hj=>by
  rw[List.getD_eq_getElem?_getD,List.getElem?_eq_getElem (by omega)];exact List.getElem_mem _
 have hsn:=filter_snoc l p;have hall:l.take n=l:=List.take_of_length_le (by omega);rw[hn] at hc hl hix hcap hsn ⊢;have HSN:=Lib.hid hsn;clear hsn;obtain⟨fl,hfl⟩:∃ fl,l.filter p=fl:=⟨_,rfl⟩;rw[hfl];have HFL:=Lib.hid hfl;clear hfl;go_enter Tryz.func133,Tryz.ntmps133
 go_wp2_with fail
 refine hix.mono ?_;clear hix;rintro e w1 ⟨q,rfl,⟨rfl,hyes⟩|⟨k,rfl,hk,hno,hyes⟩⟩
 ·have he:fl=l:=by
   rw[← HFL.out,List.filter_eq_self];intro x hx;obtain⟨j,hj,rfl⟩:=List.getElem_of_mem hx;have:=hyes j (by omega);rw[List.getD_eq_getElem?_getD,List.getElem?_eq_getElem hj] at this;exact this
  subst he;have HC:=Lib.hid hc;clear hc hyes hp hmem;go_wp2_with fail
  go_ret
  exact⟨by rw[hn];rfl,(Kept.refl _ w).drewN q,by rw[hn];exact HC.out⟩
 ·have hne1:((k:Int) == -1)=false:=beq_eq_false_iff_ne.2 (by omega)
  have hpre:∀ j,j≤k→(l.take j).filter p=l.take j:=fun j hj=>by
   rw[List.filter_eq_self];intro x hx;obtain⟨i,hi,rfl⟩:=List.getElem_of_mem hx;rw[List.length_take] at hi;rw[List.getElem_take];have:=hyes i (by omega);rw[List.getD_eq_getElem?_getD,List.getElem?_eq_getElem (by omega)] at this;exact this
  have hst:(l.take (k+1)).filter p=l.take k:=by
   rw[HSN.out k hk,hno,hpre k (Nat.le_refl _)];simp
  have hc0:Nums (w.drewN q) blk n (fun j=>l.getD j 0):=hc;have hk0:Kept (fun y=>y=blk) w (w.drewN q):=(Kept.refl _ w).drewN q;have HP:=Lib.hid hp;have HS:=Lib.hid hst;clear hc hyes hp hpre hst hno;go_wp2_with fail
  go_loopw [5,6] (fun x y wr=>∃ (i j:Nat) (f:Nat→Int),x=.int .i64 i∧y=.int .i64 j∧j≤n∧i < j∧((l.take j).filter p).length=i∧Nums wr blk n f∧(∀ t,t < i→f t=((l.take j).filter p).getD t 0)∧(∀ t,j≤t→t < n→f t=l.getD t 0)∧Kept (fun y=>y=blk) w wr) (fun _ y _=>n - (intOf y).toNat)
  case atStart=>
   refine⟨k,k+1,fun j=>l.getD j 0,rfl,by go_num,by omega,by omega,?_,hc0,fun t ht=>?_,fun t _ _=>rfl,hk0⟩
   ·rw[HS.out,List.length_take];omega
   ·rw[HS.out];simp[List.getD_eq_getElem?_getD,ht]
  case round=>
   clear hc0 hk0;obtain⟨i,j,f,rfl,rfl,hj,hij,hlen,hN,hf1,hf2,hK⟩:=hrel;by_cases hjn:j < n
   ·have hcell:=(hN j hjn).1
    rw[hf2 j (Nat.le_refl _) hjn] at hcell;obtain⟨hci,hfi⟩:=hN i (by omega);have hcall:=HP.out wr hK _ (hmem j hjn);have hs:=HSN.out j hjn;obtain⟨x,hx⟩:∃ x,l.getD j 0=x:=⟨_,rfl⟩;rw[hx] at hcell hcall hs;have j1:(j:Int) < (n:Int):=by omega
    have j2:(i:Int) < (n:Int):=by omega
    have HH:=Lib.hid (And.intro hN (And.intro hf1 (And.intro hf2 hs)));have HK:=Lib.hid hK;have HL:=Lib.hid hlen;clear hN hf1 hf2 hs hK hx hlen;generalize f i=old at hci;cases hpx:p x
    ·rw[hpx] at hcall
     go_wp2_with (go_at_call 134;refine hcall.mono ?_;rintro e w' ⟨rfl,qq,rfl⟩)
     go_roundw
     case rel=>
      obtain⟨hN,hf1,hf2,hs⟩:=HH.out;rw[hpx] at hs;simp at hs;exact⟨i,j+1,f,rfl,by go_num,by omega,by omega,by rw[hs];exact HL.out,hN,by rw[hs];exact hf1,fun t h1 h2=>hf2 t (by omega) h2,HK.out.drewN qq⟩
     case measure=>simp[intOf];omega
    ·rw[hpx] at hcall
     go_wp2_with (go_at_call 134;refine hcall.mono ?_;rintro e w' ⟨rfl,qq,rfl⟩)
     go_roundw
     case rel=>
      obtain⟨hN,hf1,hf2,hs⟩:=HH.out;rw[hpx] at hs;simp at hs;have hli:=HL.out;refine⟨i+1,j+1,fun t=>if t=i then x else f t,by go_num,by go_num,by omega,by omega,by rw[hs];simp[hli],Nums.put hN i (by omega) x,fun t ht=>?_,fun t h1 h2=>?_,(HK.out.drewN qq).setCell (p:=⟨blk,i,none⟩) (fun _=>rfl) _⟩
      ·by_cases e:t=i
       ·subst e
        simp only[if_pos];rw[hs,List.getD_eq_getElem?_getD,List.getElem?_append_right (by omega)];simp[hli]
       ·simp only[if_neg e]
        rw[hf1 t (by omega),hs,List.getD_eq_getElem?_getD,List.getD_eq_getElem?_getD,List.getElem?_append_left (by omega)]
      ·show (if t=i then x else f t)=_
       rw[if_neg (by omega)];exact hf2 t (by omega) h2
     case measure=>simp[intOf];omega
   ·obtain rfl:j=n:=by omega
    rw[hall,HFL.out] at hlen;have hcl:∀ (ty c:Nat),(Builtin.clear_ #[22] ty #[.slice (some ⟨blk,i,none⟩) (j - i) c]).run Tryz.prog wr=.ok (.tuple #[]) (wr.setCells blk i (List.replicate (j - i) (.int .i64 0))):=fun ty c=>
     Go.Lib.run_clear_slice (P:=Tryz.prog) wr 22 3 ty (.int .i64 0) rfl (fun w=>rfl) rfl rfl blk i (j - i) c (by omega) (fun t ht=>by rw[(hN (i+t) (by omega)).1];rfl) (fun t ht=>(hN (i+t) (by omega)).2)
    have HN:=Lib.hid hN;have HF:=Lib.hid hf1;have HK:=Lib.hid hK;clear hN hf1 hf2 hK hj;have j2:(i:Int) < (j:Int):=by omega
    have j3:(i:Int)≤(j:Int):=by omega
    go_wp2_with fail
    go_ret
    have hf:=HF.out;rw[hall,HFL.out] at hf;refine⟨by rw[hlen];rfl,kept_setCells blk _ i wr HK.out,fun t ht=>⟨?_,?_⟩⟩
    ·rw[World.cell?_setCells_out blk _ i wr _ (fun _ _=>Or.inl (show t < i by omega)),(HN.out t (by omega)).1,hf t (by omega)]
    ·rw[World.frozen?_setCells]
     exact(HN.out t (by omega)).2
def ReadI(w:World)(base:Nat)(v:Value)(l:List Int):Prop:=
 (v=.slice none 0 0∧l=[])∨∃ g cap,v=.slice (some ⟨g,0,none⟩) l.length cap∧l.length≤cap∧base≤g∧g < w.heap.size∧Nums w g l.length (fun j=>l.getD j 0)
theorem ReadI.kept{F:Nat→Prop}{w w':World}{base:Nat}{v:Value}{l:List Int}(h:ReadI w base v l)(k:Kept F w w')(hF:∀ x,base≤x→x < w.heap.size→¬ F x):ReadI w' base v l:=by
 rcases h with h|⟨g,cap,h1,h2,h3,h4,h5⟩
 ·exact .inl h
 ·have hb:=k.block g h4 (hF g h3 h4)
  exact .inr ⟨g,cap,h1,h2,h3,Nat.lt_of_lt_of_le h4 k.size,fun j hj=>⟨by rw[World.cell?_of_block (show w'.heap[g]?=w.heap[g]? from hb)];exact(h5 j hj).1,by rw[World.frozen?_of_block (show w'.heap[g]?=w.heap[g]? from hb)];exact(h5 j hj).2⟩⟩
theorem OwnI.read{w:World}{base:Nat}{v:Value}{l:List Int}(h:OwnI w base 3 .i64 v l):ReadI w base v l:=by
 rcases h.shape with ⟨rfl,rfl⟩|⟨g,cap,rfl,hb,hg,hl,hm,hc⟩
 ·exact .inl ⟨rfl,rfl⟩
 ·refine .inr ⟨g,cap,rfl,hl,hb,hg,fun j hj=>⟨hc j hj,?_⟩⟩
  rcases h.2 with ⟨h1,h2⟩|⟨g',cap',cur,h0,hb',hg',hr⟩
  ·cases h1
  ·injection h0 with h0
   injection h0 with h0
   injection h0 with h0
   subst h0;exact(frozen_of hg').trans rfl
theorem idx_nil(b3 b2:Nat)(w:World):Calls Tryz.prog 164 #[.slice none 0 0,.func (.func 134) #[] #[.pointer (some ⟨b3,0,none⟩),.pointer (some ⟨b2,0,none⟩)]] w fun e w'=>e=.returned (.int .i64 (-1))∧∃ q,w'=w.drewN q:=by
 go_enter Tryz.func164,Tryz.ntmps164
 go_wp2_with fail
 go_loopw [8] (fun x wr=>∃ q,x=.int .i64 0∧wr=w.drewN q) (fun x _=>0)
 case atStart=>exact⟨0,rfl,rfl⟩
 case round=>
  obtain⟨q,rfl,rfl⟩:=hrel;go_wp2_with fail
  go_ret
  exact⟨rfl,q,rfl⟩
theorem del_nil(b3 b2:Nat)(w:World):Calls Tryz.prog 133 #[.slice none 0 0,.func (.func 134) #[] #[.pointer (some ⟨b3,0,none⟩),.pointer (some ⟨b2,0,none⟩)]] w fun e w'=>e=.returned (.slice none 0 0)∧∃ q,w'=w.drewN q:=by
 go_enter Tryz.func133,Tryz.ntmps133
 go_wp2_with (go_at_call 164;refine(idx_nil b3 b2 w).mono ?_;rintro e w' ⟨rfl,q,rfl⟩)
 go_ret
 exact⟨rfl,q,rfl⟩
def Asks(s:St)(A:Adr)(g:Nat)(lb:Array Value)(pr:Int→Bool)(W:World):Prop:=
 ∀ i,i < s.boxes.length→s.live ((i:Int)+1)=true→Calls Tryz.prog g (#[ptr (A.box i)]++lb) W fun e w''=>e=.returned (.bool (pr ((i:Int)+1)))∧∃ m,w''=W.drewN m
theorem ids_is{s:St}{x:Int}(hx:x ∈ ids s):∃ i:Nat,i < s.boxes.length∧x=(i:Int)+1∧s.live ((i:Int)+1)=true:=by
 unfold ids at hx;rw[List.mem_filter,List.mem_map] at hx;obtain⟨⟨i,hi,rfl⟩,hl⟩:=hx;rw[List.mem_range] at hi;exact⟨i,hi,rfl,hl⟩
theorem below_of_kept{F:Nat→Prop}{B:Nat}{w w':World}(k:Kept F w w')(hB:B≤w.heap.size)(hF:∀ x,x < B→¬ F x):Below B w w':=⟨k.os,k.tape,k.output,k.size,fun x hx=>k.block x (by omega) (hF x hx)⟩
theorem where_any(s:St)(A:Adr)(F:Nat→Prop)(hN:s.boxes.length≤1000000000)(g:Nat)(lb:Array Value)(pr:Int→Bool)(eg:∀ args w,(callFunc g args).run Tryz.prog w=.ok (.enter g args) w)(w:World)(h:Sys w s A F)
  (hg:∀ W,Below w.heap.size w W→Asks s A g lb pr W):
  Calls Tryz.prog 81 #[ptr A.core,.func (.func g) #[] lb] w fun e w'=>∃ v,e=.returned v∧ReadI w' w.heap.size v ((ids s).filter pr)∧Below w.heap.size w w':=by
 obtain⟨wa,hwa⟩:∃ wa,(w.alloc (.cells #[ptr A.core] 50)).alloc (.cells #[.func (.func g) #[] lb] 178)=wa:=⟨_,rfl⟩;have hsz:wa.heap.size=w.heap.size+2:=by subst hwa;simp
 have hba:Below w.heap.size w wa:=by subst hwa;exact((Below.refl _ w).alloc (Nat.le_refl _) _).alloc (by simp) _
 have hca:wa.heap[w.heap.size]?=some (.cells #[ptr A.core] 50 (0,0)):=by
  subst hwa;exact(Below.heap_alloc _ _ _ (by simp)).trans (heap_alloc_new _ _)
 have hcb:wa.heap[w.heap.size+1]?=some (.cells #[.func (.func g) #[] lb] 178 (0,0)):=by
  subst hwa;have:=heap_alloc_new (w.alloc (.cells #[ptr A.core] 50)) (.cells #[.func (.func g) #[] lb] 178);rw[World.size_alloc] at this;exact this
 have hids:=ids_any s A F hN wa (h.below hba);have hlen:=ids_len s;have hdel:∀ W v,Below wa.heap.size wa W→OwnI W wa.heap.size 3 .i64 v (ids s)→Calls Tryz.prog 133 #[v,.func (.func 134) #[] #[.pointer (some ⟨w.heap.size+1,0,none⟩),.pointer (some ⟨w.heap.size,0,none⟩)]] W fun e w'=>∃ v',e=.returned v'∧ReadI w' w.heap.size v' ((ids s).filter pr)∧Below w.heap.size W w':=by
  intro W v hW hv;have hsW:=hW.size;rcases OwnI.read hv with ⟨rfl,hnil⟩|⟨b,cap,rfl,h2,h3,h4,h5⟩
  ·refine(del_nil _ _ W).mono ?_
   rintro e w' ⟨rfl,q,rfl⟩;exact⟨_,rfl,.inl ⟨rfl,by rw[hnil];rfl⟩,⟨rfl,rfl,rfl,Nat.le_refl _,fun _ _=>rfl⟩⟩
  ·refine(del_any (ids s) pr (w.heap.size+1) w.heap.size b cap (by omega) h2 W h5 h4 ?_).mono ?_
   ·intro W2 hk x hx
    obtain⟨i,hi,rfl,hlv⟩:=ids_is hx;have hb2:Below wa.heap.size wa W2:=hW.trans (below_of_kept hk hsW (fun x hx e=>by omega));have hS:Sys W2 s A F:=(h.below hba).below hb2;refine wh1_any s A F ((i:Int)+1) (WalkArith.wf_i64 (by omega)) (A.box i) ?_ _ g lb eg _ _ W2 hS ?_ ?_ ?_
    ·unfold mBox
     rw[if_pos ⟨by omega,by omega,hlv⟩];congr 3
    ·exact(cell_of ((hb2.block _ (by omega)).trans hcb)).trans rfl
    ·exact(cell_of ((hb2.block _ (by omega)).trans hca)).trans rfl
    ·intro n
     refine(hg (W2.drewN n) (hba.trans ((hb2.mono (by omega)).trans ⟨rfl,rfl,rfl,Nat.le_refl _,fun _ _=>rfl⟩)) i hi hlv).mono ?_;rintro e w'' ⟨h1,m,rfl⟩;exact⟨h1,n+m,drewN_add _ _ _⟩
   ·rintro e w' ⟨rfl,hk,hn⟩
    refine⟨_,rfl,.inr ⟨b,cap,rfl,?_,by omega,Nat.lt_of_lt_of_le h4 hk.size,hn⟩,below_of_kept hk (by omega) (fun x hx e=>by omega)⟩;have:=List.length_filter_le pr (ids s);omega
 have ca:wa.cell? ⟨w.heap.size,0,none⟩=some (ptr A.core):=(cell_of hca).trans rfl;clear h hg hlen hca hcb;simp only[ptr] at hwa hids ca ⊢;go_enter Tryz.func81,Tryz.ntmps81
 go_wp2_with (first
  | (go_at_call 32;refine hids.mono ?_;rintro e w' ⟨v,rfl,hv,hb⟩)
  | (go_at_call 133;refine(hdel _ _ hb hv).mono ?_;rintro e w2 ⟨v',rfl,hr,hb2⟩))
 go_ret
 exact⟨_,rfl,hr,hba.trans ((hb.mono (by omega)).trans hb2)⟩
theorem Sys.look_fn{w:World}{s:St}{A:Adr}{F:Nat→Prop}(h:Sys w s A F)(k:Int)(hk:(Lit.int .i64 k).wf=true)(v:Option Nat)(hv:(mFn s A k).getD none=v):
  (Instr.lookup 81 (.map (some A.fnM)) (.int .i64 k) false).run Tryz.prog w=.ok (pv v) w:=by
 obtain⟨own,h,-⟩:=h;obtain⟨-,c,hm⟩:=h.at_ .fnM;have:=hm.look (t:=81) (et:=99) Tryz.underlying81 none (by kernel_rfl) k hk;rw[hv] at this;exact this
theorem Sys.fn{w:World}{s:St}{A:Adr}{F:Nat→Prop}(h:Sys w s A F){f:Nat}{x:Fnc}(hx:s.fns f=some x):
  w.heap[A.fn f]?=some (.cells (fcells x (A.his f) (A.rng f)) 133 (0,0))∧Hh w (A.his f) x.his∧P05.Rg w (A.rng f) x.ring∧F (A.fn f)∧F (A.his f)∧F (A.rng f):=by
 obtain⟨own,h,hF⟩:=h;obtain⟨h1,h2⟩:=h.at_ (.fn f) x hx;obtain⟨h3,h4⟩:=h.at_ (.his f) x hx;obtain⟨h5,h6⟩:=h.at_ (.rng f) x hx;exact⟨h2,h4,h6,hF _ _ h1,hF _ _ h3,hF _ _ h5⟩
theorem Sys.drew{w:World}{s:St}{A:Adr}{F:Nat→Prop}(h:Sys w s A F):Sys w.drew s A F:=h.kept (G:=fun _=>False) ((Kept.refl _ w).drew) (fun _ _ h=>h)
theorem window_any(s:St)(A:Adr)(F:Nat→Prop)(k:Nat)(hk:k < 64)(x:Fnc)(hx:s.fns k=some x)(n:Nat)(g:HGood x.his n)(hn:n≤4096)(w:World)(h:Sys w s A F):
  Calls Tryz.prog 30 #[ptr A.core,.int .i64 k] w fun e w'=>e=.returned (win x.his x.ring).val∧Below w.heap.size w w':=by
 obtain⟨wa,hwa⟩:∃ wa,w.alloc (.cells #[.int .i64 0,.int .i64 0,.int .i64 0] 59)=wa:=⟨_,rfl⟩;have hsz:wa.heap.size=w.heap.size+1:=by subst hwa;simp
 have hba:Below w.heap.size w wa:=by subst hwa;exact(Below.refl _ w).alloc (Nat.le_refl _) _
 have hca:wa.heap[w.heap.size]?=some (.cells #[.int .i64 0,.int .i64 0,.int .i64 0] 59 (0,0)):=by subst hwa;exact heap_alloc_new _ _
 have hS:=h.below hba;obtain⟨ov,hc,-⟩:=hS.core;have c4:wa.cell? ⟨A.core,4,none⟩=some (.map (some A.fnM)):=(cell_of hc).trans rfl;have hlk:=(hS.drew).look_fn (k:Int) (WalkArith.wf_i64 (by omega)) (some (A.fn k)) (by unfold mFn;rw[if_pos (by omega),show (k:Int).toNat=k by omega,hx];rfl);obtain⟨hf,hh,hr,-,-,-⟩:=hS.fn hx;have d7:wa.cell? ⟨A.fn k,7,none⟩=some (ptr (A.his k)):=(cell_of hf).trans rfl;have d8:wa.cell? ⟨A.fn k,8,none⟩=some (ptr (A.rng k)):=(cell_of hf).trans rfl;have hof:=of_any (A.his k) (A.rng k) x.his n g hn x.ring wa.drew (show Hh wa.drew _ _ from hh) (show P05.Rg wa.drew _ _ from hr);have hcd:wa.drew.heap[w.heap.size]?=some (.cells #[.int .i64 0,.int .i64 0,.int .i64 0] 59 (0,0)):=hca;have hszd:wa.drew.heap.size=w.heap.size+1:=hsz;obtain⟨y,hy⟩:∃ y,win x.his x.ring=y:=⟨_,rfl⟩;rw[hy] at hof ⊢;obtain⟨ki,pr,fi⟩:=y;simp only[Win.val] at hof ⊢;clear h hS hc hf hh hr hy hx g;simp only[ptr,pv] at hlk d7 d8 ⊢;go_enter Tryz.func30,Tryz.ntmps30
 go_wp2_with fail
 have HC:=Lib.hid hcd;clear hcd hca;go_region_with (go_at_call 59;refine hof.mono ?_;rintro e w' ⟨rfl,hB⟩;have hb2:=(hB.block w.heap.size (by omega)).trans HC.out;have y0:=cell_of (j:=0) hb2;have y1:=cell_of (j:=1) hb2;have y2:=cell_of (j:=2) hb2;have f0:=fun j=>frozen_of (j:=j) hb2)
 all_goals
  have hb3:=set3_block (a0:=.int .i64 ki) (a1:=.int .i64 pr) (a2:=.int .i64 fi) hb2;have hB3:=(hB.mono (show w.heap.size≤_ by omega)).trans ((set3_kept w' w.heap.size (.int .i64 ki) (.int .i64 pr) (.int .i64 fi)).below (B:=w.heap.size) (by have:=lt_of hb2;omega) (fun x hx hh=>by omega));generalize (((w'.setCell ⟨w.heap.size,0,none⟩ _).setCell ⟨w.heap.size,1,none⟩ _).setCell ⟨w.heap.size,2,none⟩ _)=W3 at *;have z0:=cell_of (j:=0) hb3;have z1:=cell_of (j:=1) hb3;have z2:=cell_of (j:=2) hb3;clear y0 y1 y2 hb2 f0 hlk hB;go_wp2_with fail
  refine bodyPost_ret (by simp[results,Tryz.results30,go_sem,z0,z1,z2];try rfl) rfl ?_;exact⟨rfl,hba.trans ((Below.refl _ _).drew.trans hB3)⟩
end Go.Proofs.YtigeldkbfbcpmaaGreat
