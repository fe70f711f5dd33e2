/- A part of the proof: what the functions of the program come to, and what holds at all times. -/
import Derived.Maps.OwnSet
import Derived.Maps.OwnOps
import Derived.WideKeyEntry
import Derived.Laws.OwnMore
import Derived.Test.YtigeldkbfbcpmaaGreatM03
set_option linter.unusedVariables false
set_option linter.unusedSectionVars false
set_option linter.unusedSimpArgs false
set_option maxRecDepth 100000
set_option maxHeartbeats 8000000
namespace Go.Kpt
open Go.RowKit Go.Maps
def Mp(P:Program)(kt et:TypeId)(w:World)(mb c:Nat)(m:Int→Option Int):Prop:=
 ∃ D:DataW Unit,w.ownsMap P kt (plainElem P et) mb c D∧Maps.size D=c ∧
  ∀ k,Maps.has D (.int .i64 k)=(m k).isSome∧∀ i,m k=some i→D.atKey (.int .i64 k) (.lit (.int .i64 0))=.lit (.int .i64 i)
def mput(m:Int→Option Int)(k v:Int):Int→Option Int:=fun x=>if x=k then some v else m x
def mdel(m:Int→Option Int)(k:Int):Int→Option Int:=fun x=>if x=k then none else m x
section
variable {P:Program} {kt et t:TypeId} {w:World} {mb c:Nat} {m:Int→Option Int}
theorem Mp.lt(h:Mp P kt et w mb c m):mb < w.heap.size:=by obtain⟨D,h,-⟩:=h;exact h.lt
theorem Mp.kept{F:Nat→Prop}{w':World}(h:Mp P kt et w mb c m)(k:Kept F w w')(hF:¬ F mb):Mp P kt et w' mb c m:=by
 obtain⟨D,⟨es,clock,hb,h1⟩,h2⟩:=h;exact⟨D,⟨es,clock,(k.block mb (lt_of hb) hF).trans hb,h1⟩,h2⟩
theorem Mp.below{w':World}(h:Mp P kt et w mb c m)(k:Below w.heap.size w w'):Mp P kt et w' mb c m:=h.kept (Kept.of_below (F:=fun _=>False) k) (fun h=>h)
theorem Mp.made(w:World):Mp P kt et (w.alloc (.map #[] 0)) w.heap.size 0 (fun _=>none):=
 ⟨.map [],World.ownsMap_made _ _ _ _,rfl,fun k=>⟨rfl,fun i h=>by cases h⟩⟩
theorem isKey(k:Int):WideAt.IsKeyLit (.int .i64 k):=by simp[WideAt.IsKeyLit]
theorem key_ne{k k':Int}(h:k≠k'):(Lit.int .i64 k)≠.int .i64 k':=fun e=>h (by cases e;rfl)
variable {ops:Array Oper} {rest:List Oper} {o:Oper} {a:Act} {Q:Exit→Act→World→Prop}
theorem Mp.value(h:Mp P kt et w mb c m):∃ D:DataW Unit,w.ownsMap P kt (plainElem P et) mb c D∧∀ k v,D.atKey (.int .i64 k) (.lit (.int .i64 0))=.lit (.int .i64 v)→v=(m k).getD 0∧Maps.has D (.int .i64 k)=(m k).isSome:=by
 obtain⟨D,h1,h2,h3⟩:=h;refine⟨D,h1,fun k v hv=>⟨?_,(h3 k).1⟩⟩;cases hm:m k with
 | none=>
  have h4:=(h3 k).1;rw[hm] at h4;rw[Maps.atKey_of_not_has h4] at hv;cases hv;rfl
 | some i=>
  rw[(h3 k).2 i hm] at hv;cases hv;rfl
theorem wpList_mp_look(w:World)(hg:o.guard=none)(x y:Operand)(hop:o.op=Op.lookup t x y true)(hk:P.underlying kt=some (.int .i64))(ht:P.underlying t=some (.map kt et))(he:P.underlying et=some (.int .i64))
  (hz:(zeroValue et).run P w=.ok (.int .i64 0) w) (mb c:Nat) (m:Int→Option Int) (hm:a.eval x=.map (some mb)) (h:Mp P kt et w mb c m) (k:Int) (hx:a.eval y=.int .i64 k) (hw:(Lit.int .i64 k).wf=true)
  (hK:wpList P ops Q rest (a.put o.dst (.tuple #[.int .i64 ((m k).getD 0),.bool (m k).isSome])) w):wpList P ops Q (o :: rest) a w:=by
 obtain⟨D,h1,h2⟩:=h.value;refine wpList_lookup_own_ok_int w hg x y t hop kt et .i64 (int_keyed hk) ht he hz mb c D hm h1 (.int .i64 k) (.int .i64 k) hx (keyOf_int_mk hk hw) fun v hat hwc=>?_;obtain⟨e1,e2⟩:=h2 k v hat;rw[e2,e1];exact hK
theorem mp_put{w':World}{n:Nat}{D:DataW Unit}(hk:P.underlying kt=some (.int .i64))(h1:w.ownsMap P kt (plainElem P et) mb c D)(h2:Maps.size D=c)
  (h3:∀ k,Maps.has D (.int .i64 k)=(m k).isSome∧∀ i,m k=some i→D.atKey (.int .i64 k) (.lit (.int .i64 0))=.lit (.int .i64 i)) (k v:Int)
  (hn:w'.ownsMap P kt (plainElem P et) mb n (D.put (.int .i64 k) (.lit (.int .i64 v)))):Mp P kt et w' mb (if (m k).isSome then c else c+1) (mput m k v):=by
 have htidy:=h1.tidy (int_keyed hk);have hsz:=Maps.size_put (k:=.int .i64 k) htidy (.lit (.int .i64 v));rw[(h3 k).1,h2] at hsz;refine⟨_,?_,hsz,fun x=>?_⟩
 ·obtain⟨es,clock,hb,hf,hle,hD⟩:=hn
  refine⟨es,clock,hb,hf,?_,hD⟩;rw[← hsz,hD,Maps.size_eq,length_read];exact Nat.le_refl _
 ·unfold mput
  by_cases e:x=k
  ·subst e
   rw[if_pos rfl,Maps.has_put_same htidy.isMap (isKey x),Maps.atKey_put_same htidy.isMap (isKey x)];exact⟨rfl,fun i h=>by cases h;rfl⟩
  ·rw[if_neg e,Maps.has_put_other (key_ne e),Maps.atKey_put_other (key_ne e)]
   exact h3 x
theorem wpList_mp_put(w:World)(hg:o.guard=none)(x y z:Operand)(hop:o.op=Op.mapUpdate t x y z)(hk:P.underlying kt=some (.int .i64))(ht:P.underlying t=some (.map kt et))(he:P.underlying et=some (.int .i64))
  (mb c:Nat) (m:Int→Option Int) (hm:a.eval x=.map (some mb)) (h:Mp P kt et w mb c m) (hc:c < maxLen) (k v:Int) (hx:a.eval y=.int .i64 k) (hz:a.eval z=.int .i64 v) (hw:(Lit.int .i64 k).wf=true) (hv:(Lit.int .i64 v).wf=true)
  (hK:∀ w',Mp P kt et w' mb (if (m k).isSome then c else c+1) (mput m k v)→Kept (fun x=>x=mb) w w'→wpList P ops Q rest (a.put o.dst undef) w'):wpList P ops Q (o :: rest) a w:=by
 obtain⟨D,h1,h2,h3⟩:=h;refine wpList_mapUpdate_own w hg x y z t hop kt et (int_keyed hk) ht (plainElem P et) mb c D hm h1 hc (.int .i64 k) (.int .i64 v) (.int .i64 k) hx hz (keyOf_int_mk hk hw) (.lit (.int .i64 v)) [] (plainElem_int he hv) fun w' hn hg'=>?_;exact hK w' (mp_put hk h1 h2 h3 k v hn) ((Kept.of_grown hg').mono fun x _ h=>by cases h;rfl)
theorem wpList_mp_del(w:World)(hg:o.guard=none)(x y:Operand)(hop:o.op=Op.call { callee:=Callee.builtin Builtin.delete,args:=#[x,y],argTypes:=#[t,kt] })(hk:P.underlying kt=some (.int .i64))(ht:P.underlying t=some (.map kt et))
  (mb c:Nat) (m:Int→Option Int) (hm:a.eval x=.map (some mb)) (h:Mp P kt et w mb c m) (k:Int) (hx:a.eval y=.int .i64 k) (hw:(Lit.int .i64 k).wf=true)
  (hK:∀ w',Mp P kt et w' mb (if (m k).isSome then c - 1 else c) (mdel m k)→Kept (fun x=>x=mb) w w'→wpList P ops Q rest (a.put o.dst (.tuple #[])) w'):wpList P ops Q (o :: rest) a w:=by
 obtain⟨D,h1,h2,h3⟩:=h;refine wpList_delete_own w hg x y t kt hop et (int_keyed hk) ht (plainElem P et) mb c D hm h1 (.int .i64 k) (.int .i64 k) hx (keyOf_int_mk hk hw) fun w' hn hg'=>?_;have hg':=hg'.grown;have htidy:=h1.tidy (int_keyed hk);have hsz:=Maps.size_del (k:=.int .i64 k) htidy;rw[(h3 k).1,h2] at hsz;have hsz':Maps.size (D.del (.int .i64 k))=if (m k).isSome then c - 1 else c:=by
  cases hh:(m k).isSome <;> rw[hh] at hsz <;> simp at hsz ⊢ <;> omega
 refine hK w' ⟨_,?_,hsz',fun x=>?_⟩ ((Kept.of_grown hg').mono fun x _ h=>by cases h;rfl)
 ·obtain⟨es,clock,hb,hf,hle,hD⟩:=hn
  refine⟨es,clock,hb,hf,?_,hD⟩;rw[← hsz',hD,Maps.size_eq,length_read];exact Nat.le_refl _
 ·unfold mdel
  by_cases e:x=k
  ·subst e
   rw[if_pos rfl,Maps.has_del_same];exact⟨rfl,fun i h=>by cases h⟩
  ·rw[if_neg e,Maps.has_del_other (key_ne e),Maps.atKey_del_other (key_ne e)]
   exact h3 x
end
end Go.Kpt
namespace Go.Kpt
open Go.RowKit Go.Maps Go.WideElems Go.ChangeMaps Go.MapKept Go.WideShapes
section
variable {P:Program} {kt et t:TypeId} {w:World} {mb c:Nat} {m:Int→Option Int}
theorem im_setBlock_same{w:World}{b:Nat}{o:Obj}(h:w.heap[b]?=some o):setBlock w b o=w:=by
 unfold setBlock;have:w.heap.setIfInBounds b o=w.heap:=by
  apply Array.ext_getElem?
  intro i;rw[Array.getElem?_setIfInBounds];by_cases e:b=i
  ·subst e
   rw[if_pos rfl,h,if_pos (Array.getElem?_eq_some_iff.1 h).1]
  ·rw[if_neg e]
 rw[this]
theorem im_entry_at{es:Array MapEntry}{clock:Nat}{D:DataW Unit}(hk:P.underlying kt=some (.int .i64))(ht:P.underlying t=some (.map kt et))(hz:∀ w,(zeroValue et).run P w=.ok (.int .i64 0) w)(he:P.underlying et=some (.int .i64))
  (hb:w.heap[mb]?=some (.map es clock)) (F:Fit P kt (plainElem (H:=Unit) P et) es clock) (hown:w.ownsMap P kt (plainElem P et) mb c D) (k:Int) (hw:(Lit.int .i64 k).wf=true) (hh:Maps.has D (.int .i64 k)=true):
  ∃ (j:Nat) (e0:MapEntry),es[j]?=some e0∧e0.key=.int .i64 k∧(Instr.mapEntry t (.map (some mb)) (.int .i64 k)).run P w=.ok (.tuple #[e0.val,goInt e0.born]) w:=by
 have K:=int_keyed (P:=P) hk;have hkey:=keyOf_int_mk (P:=P) hk hw;rcases K.find w hkey es.toList F.keys with ⟨h1,h2⟩|⟨j,e0,h1,h2,h3⟩
 ·exfalso
  obtain⟨v,ps,hrun,-⟩:=hown.look_ok K ht (hz w) (plainElem_int (H:=Unit) he (by decide:(Lit.int .i64 0).wf=true)) hkey;rw[hh] at hrun;simp[Instr.lookup,run_underlying ht,Go.MapKept.run_getObj_map hb,K.check w es.isEmpty hkey,h1,hz,Result.andThen] at hrun
 ·have hj:es[j]?=some e0:=by simpa using h2
  have hsame:es.modify j (fun e=>{ e with key:=.int .i64 k })=es:=by
   apply Array.ext'
   rw[Array.toList_modify,modify_eq_set _ _ _ _ h2];have:({ e0 with key:=.int .i64 k }:MapEntry)=e0:=by rw[← h3]
   rw[this];exact set_self _ _ _ h2
  refine⟨j,e0,hj,h3,?_⟩;have:(Instr.mapEntry t (.map (some mb)) (.int .i64 k)).run P w=.ok (.tuple #[e0.val,goInt e0.born]) (setBlock w mb (.map es clock)):=by
   simp[Instr.mapEntry,run_underlying ht,Go.MapKept.run_getObj_map hb,K.check w false hkey,h1,hj,h3,K.stays w hkey,hsame,Go.MapKept.run_setObj_map _ hb,Result.andThen,setBlock]
  rw[this,im_setBlock_same hb]
theorem im_apart{es:Array MapEntry}{clock:Nat}{R:Value→Option (DataW Unit×List MemPlace)}(K:Keyed P kt)(F:Fit P kt R es clock){i j:Nat}{x y:MapEntry}(hi:es[i]?=some x)(hj:es[j]?=some y)(h:x.key=y.key):i=j:=by
 have hp:=Maps.fit_apart K F;rw[List.pairwise_map] at hp;have hkx:∀ z ∈ es.toList,keyOf P kt z.key=some (Go.WideElems.rg P kt R z).1:=fun z hz=>by
  obtain⟨y,hy⟩:=F.reads z hz;have h1:=Go.WideElems.rd_key hy;unfold Go.WideElems.rg;rw[hy];exact h1
 have hi':es.toList[i]?=some x:=by simpa using hi
 have hj':es.toList[j]?=some y:=by simpa using hj
 have hx:=hkx x (List.mem_of_getElem? hi');have hy:=hkx y (List.mem_of_getElem? hj');rw[h,hy] at hx;have he:(Go.WideElems.rg P kt R y).1=(Go.WideElems.rg P kt R x).1:=Option.some.inj hx;obtain⟨li,ei⟩:=List.getElem?_eq_some_iff.1 hi';obtain⟨lj,ej⟩:=List.getElem?_eq_some_iff.1 hj';rw[List.pairwise_iff_getElem] at hp;rcases Nat.lt_trichotomy i j with hlt|rfl|hlt
 ·exact absurd (by rw[ei,ej];exact he.symm) (hp i j li lj hlt)
 ·rfl
 ·exact absurd (by rw[ei,ej];exact he) (hp j i lj li hlt)
theorem mp_two(h:Mp P kt et w mb c m)(hk:P.underlying kt=some (.int .i64))(ht:P.underlying t=some (.map kt et))(he:P.underlying et=some (.int .i64))(hz:∀ w,(zeroValue et).run P w=.ok (.int .i64 0) w)(hc:c < maxLen)
  (k1 k2 v1 v2:Int) (hw1:(Lit.int .i64 k1).wf=true) (hw2:(Lit.int .i64 k2).wf=true) (hv1:(Lit.int .i64 v1).wf=true) (hv2:(Lit.int .i64 v2).wf=true) (h1:(m k1).isSome=true) (h2:(m k2).isSome=true):
  ∃ (x1 x2 x3:Value) (s1 s2:Nat) (w1 w2:World),
   (Instr.mapEntry t (.map (some mb)) (.int .i64 k1)).run P w=.ok (.tuple #[x1,.int .i64 s1]) w ∧
   (Instr.mapEntry t (.map (some mb)) (.int .i64 k2)).run P w=.ok (.tuple #[x2,.int .i64 s2]) w ∧
   (Instr.entryStore t (.map (some mb)) (.int .i64 s1) (.int .i64 v1)).run P w=.ok () w1 ∧
   (Instr.mapEntry t (.map (some mb)) (.int .i64 k2)).run P w1=.ok (.tuple #[x3,.int .i64 s2]) w1 ∧
   (Instr.entryStore t (.map (some mb)) (.int .i64 s2) (.int .i64 v2)).run P w1=.ok () w2 ∧
   Mp P kt et w2 mb c (mput (mput m k1 v1) k2 v2)∧Kept (fun x=>x=mb) w w1∧Kept (fun x=>x=mb) w w2:=by
 have K:=int_keyed (P:=P) hk;have one:∀ {W:World} {es:Array MapEntry} {clock:Nat} {M:Int→Option Int} {D:DataW Unit},W.heap[mb]?=some (.map es clock)→Fit P kt (plainElem (H:=Unit) P et) es clock→W.ownsMap P kt (plainElem P et) mb c D→Maps.size D=c →
   (∀ k,Maps.has D (.int .i64 k)=(M k).isSome∧∀ i,M k=some i→D.atKey (.int .i64 k) (.lit (.int .i64 0))=.lit (.int .i64 i)) →
   ∀ (k v:Int),(Lit.int .i64 k).wf=true→(Lit.int .i64 v).wf=true→(M k).isSome=true →
   ∃ (j:Nat) (e0:MapEntry) (es':Array MapEntry) (W':World),es[j]?=some e0∧e0.key=.int .i64 k∧(Instr.mapEntry t (.map (some mb)) (.int .i64 k)).run P W=.ok (.tuple #[e0.val,.int .i64 e0.born]) W ∧
    (Instr.entryStore t (.map (some mb)) (.int .i64 e0.born) (.int .i64 v)).run P W=.ok () W'∧W'.heap[mb]?=some (.map es' clock)∧es'=es.modify j (fun e=>{ e with val:=.int .i64 v })∧Kept (fun x=>x=mb) W W'∧Mp P kt et W' mb c (mput M k v):=by
  intro W es clock M D hb F hown hsz hM k v hwk hwv hh;have hh':Maps.has D (.int .i64 k)=true:=by rw[(hM k).1];exact hh
  have hkey:=keyOf_int_mk (P:=P) hk hwk;obtain⟨j,e0,hj,hkk,hent⟩:=im_entry_at hk ht hz he hb F hown k hwk hh';have h2:es.toList[j]?=some e0:=by simpa using hj
  have hidx:es.findIdx? (fun e=>((e.born:Nat):Int) == ((e0.born:Nat):Int))=some j:=by
   rw[findIdx_arr];exact findIdx_born F.stamped.2.1 h2
  have hmod:es.modify j (fun e'=>{ e' with key:=.int .i64 k,val:=.int .i64 v })=es.modify j (fun e=>{ e with val:=.int .i64 v }):=by
   apply Array.ext'
   rw[Array.toList_modify,Array.toList_modify,modify_eq_set _ _ _ _ h2,modify_eq_set _ _ _ _ h2,← hkk]
  have hst:(Instr.entryStore t (.map (some mb)) (.int .i64 e0.born) (.int .i64 v)).run P W=.ok () (setBlock W mb (.map (es.modify j (fun e=>{ e with val:=.int .i64 v })) clock)):=by
   simp[Instr.entryStore,Go.MapKept.run_getObj_map hb,asInt,asIntOf,hidx,Go.MapKept.run_setObj_map _ hb,Result.andThen,setBlock]
  have hup:(Instr.mapUpdate t (.map (some mb)) (.int .i64 k) (.int .i64 v)).run P W=.ok () (setBlock W mb (.map (es.modify j (fun e=>{ e with val:=.int .i64 v })) clock)):=by
   rcases K.find W hkey es.toList F.keys with ⟨_,h4⟩|⟨j',e',h3,h4,h5⟩
   ·exact absurd hkk (h4 e0 (List.mem_of_getElem? h2))
   ·have hj':es[j']?=some e':=by simpa using h4
    obtain rfl:j'=j:=im_apart K F hj' hj (by rw[h5,hkk]);obtain rfl:e'=e0:=by rw[hj] at hj';exact(Option.some.inj hj').symm
    have:=hmod;simp[Instr.mapUpdate,run_underlying ht,Go.MapKept.run_getObj_map hb,K.check W false hkey,h3,hj,h5,K.stays W hkey,Go.MapKept.run_setObj_map _ hb,Result.andThen,setBlock,hmod]
  obtain⟨w',hrun,r1,r2⟩:=hown.update K ht hc hkey (plainElem_int he hwv);rw[hup] at hrun;have hw':setBlock W mb (.map (es.modify j (fun e=>{ e with val:=.int .i64 v })) clock)=w':=by injection hrun
  have hmp:=mp_put hk hown hsz hM k v r1;rw[if_pos hh] at hmp;refine⟨j,e0,_,w',hj,hkk,hent,by rw[← hw'];exact hst,?_,rfl,(Kept.of_grown r2).mono (fun x _ h=>by cases h;rfl),hmp⟩;rw[← hw'];exact heap_setBlock_same hb _
 obtain⟨D,hown,hsz,hM⟩:=h;obtain⟨es,clock,hb,F,hle,hD⟩:=hown;have hown:w.ownsMap P kt (plainElem P et) mb c D:=⟨es,clock,hb,F,hle,hD⟩;obtain⟨j1,e1,es1,w1,hj1,hk1,ent1,st1,hb1,hes1,kp1,mp1⟩:=one hb F hown hsz hM k1 v1 hw1 hv1 h1;obtain⟨j2,e2,_,_,hj2,hk2,ent2,_⟩:=one hb F hown hsz hM k2 v2 hw2 hv2 h2;obtain⟨D1,hown1,hsz1,hM1⟩:=mp1;have h2':(mput m k1 v1 k2).isSome=true:=by unfold mput;split <;> simp_all
 have hF1:Fit P kt (plainElem (H:=Unit) P et) es1 clock:=by
  obtain⟨es',clock',hb',F',-⟩:=hown1;rw[hb1] at hb';cases hb'
  exact F'
 obtain⟨j3,e3,es3,w2,hj3,hk3,ent3,st3,hb3,hes3,kp3,mp3⟩:=one hb1 hF1 hown1 hsz1 hM1 k2 v2 hw2 hv2 h2';have hborn:e3.born=e2.born:=by
  rw[hes1,Array.getElem?_modify] at hj3;by_cases e:j1=j3
  ·rw[if_pos e] at hj3
   subst e;rw[hj1] at hj3;simp only[Option.map_some,Option.some.injEq] at hj3;subst hj3;have:j1=j2:=im_apart K F hj1 hj2 (by rw[hk2];exact hk3);subst this;rw[hj1] at hj2;cases hj2
   rfl
  ·rw[if_neg e] at hj3
   have:j3=j2:=im_apart K F hj3 hj2 (by rw[hk2];exact hk3);subst this;rw[hj3] at hj2;cases hj2
   rfl
 rw[hborn] at ent3 st3;exact⟨_,_,_,_,_,w1,w2,ent1,ent2,st1,ent3,st3,mp3,kp1,kp1.trans kp3 (fun _ _ h=>h)⟩
end
end Go.Kpt
namespace Go.Kpt
open Go.RowKit
def pcells(l:List (Int×Int)):List Value:=l.flatMap fun x=>[.int .i64 x.1,.int .i64 x.2]
def OwnP(w:World)(base:Nat)(e:TypeId)(v:Value)(l:List (Int×Int)):Prop:=w.ownsRow base e 2 v l.length (pcells l)
section
variable {w w':World} {base:Nat} {e:TypeId} {v:Value} {l:List (Int×Int)}
end
section
variable {P:Program}
theorem run_append_none(w:World)(base:Nat)(t ty e:TypeId)(i:TypeInfo)(size:Nat)(ht:P.underlying t=some (.slice e))(hi:P.info? e=some i)(hsize:i.size=size)
  (v:Value) (n:Nat) (xs:List Value) (hown:w.ownsRow base e size v n xs) (c:Nat):
  (Builtin.append_ #[t,t] ty #[v,.slice none 0 c]).run P w=.ok v w:=by
 rcases hown.2 with ⟨rfl,rfl⟩|⟨g,cap,cur,rfl,_,_,hnc,_⟩
 ·simp[Builtin.append_,run_underlying ht,sizeOf,typeInfo,hi,Builtin.lenOf,Builtin.firstCells]
 ·simp[Builtin.append_,run_underlying ht,sizeOf,typeInfo,hi,Builtin.lenOf,Builtin.firstCells,hnc,storeCells]
theorem wpList_append_ints{ops:Array Oper}{rest:List Oper}{o:Oper}{a:Act}{w:World}{Q:Exit→Act→World→Prop}(hgd:o.guard=none)(s x:Operand)(t:TypeId)
  (ho:o.op=.call { callee:=.builtin .append,args:=#[s,x],argTypes:=#[t,t] })
  (base:Nat) (e:TypeId) (k:IntKind) (i:TypeInfo) (z:Value) (bytes:Nat) (ht:P.underlying t=some (.slice e)) (hi:P.info? e=some i) (hz:i.zero=some z)
  (hsize:i.size=1) (hby:i.bytes=bytes) (hzs:z.cells.size=1)
  (v:Value) (xs:List Int) (hs:a.eval s=v) (hown:OwnI w base e k v xs)
  (ad:Option Addr) (c:Nat) (zs:List Int) (p:Nat→Prop) (hx:a.eval x=.slice ad zs.length c) (hsl:Sl k w p ad zs)
  (h63:xs.length+zs.length≤maxLen) (hbytes:(xs.length+zs.length)*bytes≤140737488355328) (hbase:base≤w.heap.size)
  (h:∀ v' w',OwnI w' base e k v' (xs++zs)→w.grownBy w' v.ownBlock→(v'.ownBlock=v.ownBlock∨v'.ownBlock=some w.heap.size)→wpList P ops Q rest (a.put o.dst v') w'):
  wpList P ops Q (o :: rest) a w:=by
 have hone:∀ u ∈ zs.map (Value.int k),u.oneCell'=true:=by intro u hu;obtain⟨n,_,rfl⟩:=List.mem_map.1 hu;rfl
 rcases Nat.eq_zero_or_pos zs.length with h0|h0
 ·obtain rfl:=List.eq_nil_of_length_eq_zero h0
  cases ad with
  | none=>
   refine wpList_plain hgd fun K hK=>?_;have hr:=run_append_none (P:=P) w base t o.type e i 1 ht hi hsize v xs.length (xs.map (Value.int k)) hown c;unfold Oper.wp execOp;simp only[ho,resolve,invoke,builtin,Sem.run_bind,Sem.run_pure,Result.andThen_ok,List.map_toArray,List.map_cons,List.map_nil,hs,hx,List.length_nil,hr];exact hK _ _ (h v w (by simpa using hown) ⟨rfl,rfl,rfl,Nat.le_refl _,fun _ _ _=>rfl⟩ (.inl rfl))
  | some ad=>
   refine wpList_append_own_at w hgd s x t ho base e i z 1 bytes ht hi hz hsize hby hzs (by omega) v xs.length (xs.map (Value.int k)) hs hown ad 0 c [] hx rfl (fun j u hj=>by simp at hj) (by simp) (by simpa using h63) (by simpa using hbytes) hbase ?_;intro v' w' h1 h2 _ h4;exact h v' w' (by unfold OwnI;simpa using h1) h2 h4
 ·obtain⟨b,off,rfl,_,_⟩:=hsl 0 h0
  refine wpList_append_own_at w hgd s x t ho base e i z 1 bytes ht hi hz hsize hby hzs (by omega) v xs.length (xs.map (Value.int k)) hs hown ⟨b,off,none⟩ zs.length c (zs.map (Value.int k)) hx (by simp) (fun j u hj=>?_) hone h63 hbytes hbase ?_
  ·have hjl:j < zs.length:=by have:=(List.getElem?_eq_some_iff.1 hj).1;simpa using this
   obtain⟨b',off',e',_,hc⟩:=hsl j hjl;cases e'
   have hplain:(⟨b,off,none⟩:Addr).add j=⟨b,off+j,none⟩:=by unfold Addr.add;split <;> simp_all
   rw[hplain,hc];simp[hjl] at hj;rw[← hj];simp[List.getD_eq_getElem?_getD,hjl]
  ·intro v' w' h1 h2 _ h4
   exact h v' w' (by unfold OwnI;simpa using h1) h2 h4
end
theorem OwnI.stored{w:World}{base:Nat}{e:TypeId}{k:IntKind}{g n cap:Nat}{xs:List Int}(h:OwnI w base e k (.slice (some ⟨g,0,none⟩) n cap) xs)(j:Nat)(x:Int):
  OwnI (w.setCell ⟨g,j,none⟩ (.int k x)) base e k (.slice (some ⟨g,0,none⟩) n cap) (xs.set j x):=by
 have hn:n=xs.length:=by rcases h.2 with ⟨h1,_⟩ | ⟨g',c',cur,h1,_⟩ <;> cases h1 <;> rfl
 subst hn;have:=World.ownsRow.stored h j (.int k x);unfold OwnI;simpa[List.map_set] using this.1
theorem Sl.one(w:World)(k:IntKind)(x:Int)(t:TypeId):Sl k (w.alloc (.cells #[.int k x] t)) (fun _=>True) (some ⟨w.heap.size,0,none⟩) [x]:=by
 intro i hi;obtain rfl:i=0:=by simpa using hi
 exact⟨_,_,rfl,trivial,by rw[cell_of (heap_alloc_new _ _)];rfl⟩
end Go.Kpt
namespace WirePure
def enc(n:Nat):List Nat:=if n < 128 then [n] else (n % 128+128) :: enc (n / 128)
termination_by n
def dec:Nat→List Nat→Option (Nat×Nat)
 | _,[]=>none
 | i,c :: l=>
  if (i=9∧1 < c)∨(0 < i∧c=0) then none
  else if 128≤c then (dec (i+1) l).map fun x=>(c - 128+128*x.1,x.2+1)
  else some (c,1)
theorem enc_small{n:Nat}(h:n < 128):enc n=[n]:=by unfold enc;rw[if_pos h]
theorem enc_big{n:Nat}(h:¬ n < 128):enc n=(n % 128+128) :: enc (n / 128):=by rw[enc,if_neg h]
theorem enc_len_pos(n:Nat):1≤(enc n).length:=by
 by_cases h:n < 128
 ·rw[enc_small h];simp
 ·rw[enc_big h];simp
theorem enc_len_le(k:Nat):∀ n,n < 128 ^ k→1≤k→(enc n).length≤k:=by
 induction k with
 | zero=>intro n _ h;omega
 | succ k ih=>
  intro n hn _;by_cases h:n < 128
  ·rw[enc_small h];simp
  ·rw[enc_big h]
   have hk:1≤k:=by
    rcases Nat.eq_zero_or_pos k with rfl|hk
    ·simp at hn;omega
    ·exact hk
   have:=ih (n / 128) (by rw[Nat.pow_succ] at hn;omega) hk;simp;omega
theorem enc_len_ten{n:Nat}(h:n < 2 ^ 64):(enc n).length≤10:=enc_len_le 10 n (by omega) (by omega)
theorem enc_bytes(k:Nat):∀ n,n < 128 ^ k→∀ c ∈ enc n,c < 256:=by
 induction k with
 | zero=>
      intro n hn c hc;have:n=0:=by simpa using hn
      subst this;rw[enc_small (by omega)] at hc;simp at hc;omega
 | succ k ih=>
  intro n hn c hc;by_cases h:n < 128
  ·rw[enc_small h] at hc;simp at hc;omega
  ·rw[enc_big h] at hc
   rcases List.mem_cons.1 hc with rfl|hc
   ·omega
   ·exact ih (n / 128) (by rw[Nat.pow_succ] at hn;omega) c hc
theorem dec_enc(k:Nat):∀ i n rest,n < 128 ^ k→n < 2 ^ (64 - 7*i)→i≤9→(0 < i→0 < n)→dec i (enc n++rest)=some (n,(enc n).length):=by
 induction k with
 | zero=>
  intro i n rest hk h hi hp;have:n=0:=by simpa using hk
  subst this;have:i=0:=by omega
  subst this;rw[enc_small (by omega)];simp[dec]
 | succ k ih=>
  intro i n rest hk h hi hp;by_cases hn:n < 128
  ·rw[enc_small hn]
   have h9:¬ (i=9∧1 < n∨0 < i∧n=0):=by
    rintro(⟨rfl,h1⟩|⟨h1,h2⟩)
    ·simp at h;omega
    ·have:=hp h1;omega
   simp only[List.singleton_append,dec];rw[if_neg h9,if_neg (by omega)];simp
  ·rw[enc_big hn]
   have hi9:i≠9:=by rintro rfl;simp at h;omega
   have h9:¬ (i=9∧1 < n % 128+128∨0 < i∧n % 128+128=0):=by omega
   have e:64 - 7*i=64 - 7*(i+1)+7:=by omega
   rw[e,Nat.pow_add] at h;have:=ih (i+1) (n / 128) rest (by rw[Nat.pow_succ] at hk;omega) (by omega) (by omega) (fun _=>by omega);simp only[List.cons_append,dec];rw[if_neg h9,if_pos (by omega),this];simp;omega
theorem dec_enc0{n:Nat}(h:n < 2 ^ 64)(rest:List Nat):dec 0 (enc n++rest)=some (n,(enc n).length):=
 dec_enc 10 0 n rest (by omega) (by simpa using h) (by omega) (fun h=>by omega)
theorem enc_dec(l:List Nat):∀ i n k,(∀ c ∈ l,c < 256)→i≤9→dec i l=some (n,k)→k≤l.length∧l.take k=enc n∧n < 2 ^ (64 - 7*i)∧(0 < i→0 < n):=by
 induction l with
 | nil=>intro i n k _ _ h;simp[dec] at h
 | cons c l ih=>
  intro i n k hb hi h;simp only[dec] at h;by_cases h1:i=9∧1 < c∨0 < i∧c=0
  ·rw[if_pos h1] at h;cases h
  rw[if_neg h1] at h;have hc:=hb c (List.mem_cons_self ..);by_cases h2:128≤c
  ·rw[if_pos h2] at h
   cases e:dec (i+1) l with
   | none=>rw[e] at h;cases h
   | some x=>
    rw[e] at h;simp at h;obtain⟨rfl,rfl⟩:=h;have hi9:i≠9:=by omega
    obtain⟨a1,a2,a3,a4⟩:=ih (i+1) x.1 x.2 (fun c hc=>hb c (List.mem_cons_of_mem _ hc)) (by omega) e;have hx:=a4 (by omega);refine⟨by simp;omega,?_,?_,fun _=>by omega⟩
    ·rw[List.take_succ_cons,a2]
     rw[enc_big (n:=c - 128+128*x.1) (by omega)];congr 1
     ·omega
     ·congr 1;omega
    ·have e:64 - 7*i=64 - 7*(i+1)+7:=by omega
     rw[e,Nat.pow_add];omega
  ·rw[if_neg h2] at h
   simp at h;obtain⟨rfl,rfl⟩:=h;refine⟨by simp,by simp[enc_small (show c < 128 by omega)],?_,fun hh=>by omega⟩;by_cases h9:i=9
   ·subst h9;simp;omega
   ·have:2 ^ 7≤2 ^ (64 - 7*i):=Nat.pow_le_pow_right (by omega) (by omega)
    omega
theorem enc_dec0{l:List Nat}{n k:Nat}(hb:∀ c ∈ l,c < 256)(h:dec 0 l=some (n,k)):k≤l.length∧l.take k=enc n∧n < 2 ^ 64:=by
 obtain⟨a,b,c,_⟩:=enc_dec l 0 n k hb (by omega) h;exact⟨a,b,c⟩
theorem dec_pos(l:List Nat):∀ i n k,dec i l=some (n,k)→1≤k∧k≤l.length:=by
 induction l with
 | nil=>intro i n k h;simp[dec] at h
 | cons c l ih=>
  intro i n k h;simp only[dec] at h;split at h
  ·cases h
  ·split at h
   ·cases e:dec (i+1) l with
    | none=>rw[e] at h;cases h
    | some x=>
     rw[e] at h;simp at h;have:=ih _ x.1 x.2 e;simp;omega
   ·simp at h;simp;omega
end WirePure
