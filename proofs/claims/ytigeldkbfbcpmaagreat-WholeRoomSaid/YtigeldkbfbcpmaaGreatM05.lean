/- A part of the proof: what the functions of the program come to, and what holds at all times. -/
import Derived.Maps.OwnSet
import Derived.Maps.OwnOps
import Derived.Maps.RangeWalk
import Derived.Test.YtigeldkbfbcpmaaGreatRows
import Derived.Shelf.SlIterI.Nil
import Derived.Shelf.SortM.Plain
import Derived.Shelf.SortM.SortNone
import Derived.Shelf.SlicesE.DeleteFunc
import Derived.WideKeyEntry
import Derived.DeepKeys4
import Derived.Test.YtigeldkbfbcpmaaGreatM01
set_option linter.unusedVariables false
set_option linter.unusedSectionVars false
set_option linter.unusedSimpArgs false
set_option maxRecDepth 100000
set_option maxHeartbeats 8000000
namespace Go.Kpt
open Go.RowKit Go.Maps
theorem Kept.of_grown1{b:Nat}{w w':World}(h:w.grownBy w' (some b)):Kept (fun x=>x=b) w w':=
 ⟨h.os,h.tape,h.output,h.size,fun x hx hF=>h.block x hx (fun e=>hF (by cases e;rfl))⟩
theorem Below.of_grown0{w w':World}(h:w.grownBy w' none):Below w.heap.size w w':=
 ⟨h.os,h.tape,h.output,h.size,fun x hx=>h.block x hx (fun e=>by cases e)⟩
structure El (α:Type) where
 val:α→Value
 rd:Value→Option α
 rd_val:∀ x,rd (val x)=some x
 val_rd:∀ v x,rd v=some x→v=val x
 dat:α→DataW Unit
 inj:∀ x y,dat x=dat y→x=y
structure Ky (P:Program) (kt:TypeId) (κ:Type) where
 keyed:Maps.Keyed P kt
 val:κ→Value
 lit:κ→Lit
 ok:κ→Prop
 of:∀ k,ok k→keyOf P kt (val k)=some (lit k)
 inv:∀ v l,keyOf P kt v=some l→∃ k,ok k∧v=val k∧l=lit k
 inj:∀ a b,val a=val b→a=b
variable {α:Type}
def El.R(E:El α)(v:Value):Option (DataW Unit×List MemPlace):=(E.rd v).map fun x=>(E.dat x,[])
theorem El.R_val(E:El α)(x:α):E.R (E.val x)=some (E.dat x,[]):=by unfold El.R;rw[E.rd_val];rfl
theorem El.R_inv(E:El α){v:Value}{y:DataW Unit×List MemPlace}(h:E.R v=some y):∃ x,v=E.val x∧y=(E.dat x,[]):=by
 unfold El.R at h;cases e:E.rd v with
 | none=>rw[e] at h;cases h
 | some x=>rw[e] at h;exact⟨x,E.val_rd v x e,by cases h;rfl⟩
section
variable {P:Program} {kt:TypeId} {κ:Type} (Y:Ky P kt κ)
theorem Ky.isKey{k:κ}(h:Y.ok k):WideAt.IsKeyLit (Y.lit k):=Y.keyed.key (Y.of k h)
theorem Ky.lit_inj{a b:κ}(ha:Y.ok a)(hb:Y.ok b)(h:Y.lit a=Y.lit b):a=b:=Y.inj _ _ (Y.keyed.inj (Y.of a ha) (by rw[h];exact Y.of b hb))
theorem Ky.ne{a b:κ}(ha:Y.ok a)(hb:Y.ok b)(h:a≠b):Y.lit a≠Y.lit b:=fun e=>h (Y.lit_inj ha hb e)
theorem Ky.same[DecidableEq κ]{a b:κ}(ha:Y.ok a)(hb:Y.ok b):(Y.lit a).sameKey (Y.lit b)=decide (a=b):=by
 by_cases h:a=b
 ·subst h;rw[WideAt.sameKey_self (Y.isKey ha)];simp
 ·rw[Maps.sameKey_ne (Y.ne ha hb h)];simp[h]
end
structure Tells {P:Program} {kt:TypeId} {κ:Type} (Y:Ky P kt κ) (E:El α) (D:DataW Unit) (c:Nat) (m:κ→Option α):Prop where
 size:Maps.size D=c
 has:∀ k,Y.ok k→Maps.has D (Y.lit k)=(m k).isSome
 at_:∀ k x,Y.ok k→m k=some x→∀ zd,D.atKey (Y.lit k) zd=E.dat x
def Gm{P:Program}{kt:TypeId}{κ:Type}(Y:Ky P kt κ)(E:El α)(w:World)(mb c:Nat)(m:κ→Option α):Prop:=∃ D,w.ownsMap P kt E.R mb c D∧Tells Y E D c m
def gput{κ:Type}[DecidableEq κ](m:κ→Option α)(k:κ)(v:α):κ→Option α:=fun x=>if x=k then some v else m x
def gdel{κ:Type}[DecidableEq κ](m:κ→Option α)(k:κ):κ→Option α:=fun x=>if x=k then none else m x
theorem own_size{P:Program}{kt:TypeId}{R:Value→Option (DataW Unit×List MemPlace)}{w':World}{mb n:Nat}{D':DataW Unit}(h':w'.ownsMap P kt R mb n D'):w'.ownsMap P kt R mb (Maps.size D') D':=by
 obtain⟨es,clock,hb,F,hle,hD⟩:=h';exact⟨es,clock,hb,F,by rw[hD,Maps.size_eq,length_read];exact Nat.le_refl _,hD⟩
section
variable {P:Program} {kt:TypeId} {κ:Type} {Y:Ky P kt κ} {E:El α} {et t:TypeId} {w:World} {mb c:Nat} {m:κ→Option α}
theorem Gm.lt(h:Gm Y E w mb c m):mb < w.heap.size:=by obtain⟨D,h,-⟩:=h;exact h.lt
theorem Gm.kept{F:Nat→Prop}{w':World}(h:Gm Y E w mb c m)(k:Kept F w w')(hF:¬ F mb):Gm Y E w' mb c m:=by
 obtain⟨D,⟨es,clock,hb,h1⟩,h2⟩:=h;exact⟨D,⟨es,clock,(k.block mb (lt_of hb) hF).trans hb,h1⟩,h2⟩
theorem Gm.below{w':World}(h:Gm Y E w mb c m)(k:Below w.heap.size w w'):Gm Y E w' mb c m:=h.kept (Kept.of_below (F:=fun _=>False) k) (fun h=>h)
theorem Gm.made(Y:Ky P kt κ)(E:El α)(w:World):Gm Y E (w.alloc (.map #[] 0)) w.heap.size 0 (fun _=>none):=
 ⟨.map [],World.ownsMap_made _ _ _ _,⟨rfl,fun k _=>rfl,fun k i _ h=>by cases h⟩⟩
theorem Tells.value{D:DataW Unit}(h:Tells Y E D c m)(k:κ)(hw:Y.ok k)(z:α):D.atKey (Y.lit k) (E.dat z)=E.dat ((m k).getD z):=by
 cases e:m k with
 | none=>
  have h4:=h.has k hw;rw[e] at h4;rw[Maps.atKey_of_not_has h4];rfl
 | some x=>rw[h.at_ k x hw e];rfl
theorem Gm.look(h:Gm Y E w mb c m)(ht:P.underlying t=some (.map kt et))(z:α)(hz:(zeroValue et).run P w=.ok (E.val z) w)(k:κ)(hw:Y.ok k):
  (Instr.lookup t (.map (some mb)) (Y.val k) false).run P w=.ok (E.val ((m k).getD z)) w:=by
 obtain⟨D,h1,h2⟩:=h;obtain⟨v,ps,hrun,hv⟩:=h1.lookup Y.keyed ht hz (E.R_val z) (Y.of k hw);obtain⟨x,rfl,e⟩:=E.R_inv hv;have e1:=congrArg Prod.fst e;simp only at e1;rw[h2.value k hw z] at e1;rw[hrun,E.inj _ _ e1]
theorem Gm.look_ok(h:Gm Y E w mb c m)(ht:P.underlying t=some (.map kt et))(z:α)(hz:(zeroValue et).run P w=.ok (E.val z) w)(k:κ)(hw:Y.ok k):
  (Instr.lookup t (.map (some mb)) (Y.val k) true).run P w=.ok (.tuple #[E.val ((m k).getD z),.bool (m k).isSome]) w:=by
 obtain⟨D,h1,h2⟩:=h;obtain⟨v,ps,hrun,hv⟩:=h1.look_ok Y.keyed ht hz (E.R_val z) (Y.of k hw);obtain⟨x,rfl,e⟩:=E.R_inv hv;have e1:=congrArg Prod.fst e;simp only at e1;rw[h2.value k hw z] at e1;rw[hrun,E.inj _ _ e1,h2.has k hw]
theorem Tells.put[DecidableEq κ]{D:DataW Unit}(h:Tells Y E D c m)(ht:Tidy D)(k:κ)(hw:Y.ok k)(v:α):Tells Y E (D.put (Y.lit k) (E.dat v)) (if (m k).isSome then c else c+1) (gput m k v):=by
 have hsz:=Maps.size_put (k:=Y.lit k) ht (E.dat v);rw[h.has k hw,h.size] at hsz;refine⟨hsz,fun x hx=>?_,fun x y hx hy zd=>?_⟩ <;> unfold gput at *
 ·by_cases e:x=k
  ·subst e;rw[if_pos rfl,Maps.has_put_same ht.isMap (Y.isKey hw)];rfl
  ·rw[if_neg e,Maps.has_put_other (Y.ne hx hw e)];exact h.has x hx
 ·by_cases e:x=k
  ·subst e;rw[if_pos rfl] at hy;cases hy;exact Maps.atKey_put_same ht.isMap (Y.isKey hw) _ _
  ·rw[if_neg e] at hy;rw[Maps.atKey_put_other (Y.ne hx hw e)];exact h.at_ x y hx hy zd
theorem Tells.del[DecidableEq κ]{D:DataW Unit}(h:Tells Y E D c m)(ht:Tidy D)(k:κ)(hw:Y.ok k):Tells Y E (D.del (Y.lit k)) (if (m k).isSome then c - 1 else c) (gdel m k):=by
 have hsz:=Maps.size_del (k:=Y.lit k) ht;rw[h.has k hw,h.size] at hsz;refine⟨?_,fun x hx=>?_,fun x y hx hy zd=>?_⟩
 ·cases hh:(m k).isSome <;> rw[hh] at hsz <;> simp at hsz ⊢ <;> omega
 ·unfold gdel
  by_cases e:x=k
  ·subst e;rw[if_pos rfl,Maps.has_del_same];rfl
  ·rw[if_neg e,Maps.has_del_other (Y.ne hx hw e)];exact h.has x hx
 ·unfold gdel at hy
  by_cases e:x=k
  ·rw[if_pos e] at hy;cases hy
  ·rw[if_neg e] at hy;rw[Maps.atKey_del_other (Y.ne hx hw e)];exact h.at_ x y hx hy zd
variable {ops:Array Oper} {rest:List Oper} {o:Oper} {a:Act} {Q:Exit→Act→World→Prop}
theorem gm_put[DecidableEq κ]{w':World}{n:Nat}{D:DataW Unit}(h1:w.ownsMap P kt E.R mb c D)(h2:Tells Y E D c m)(k:κ)(hw:Y.ok k)(v:α)(hn:w'.ownsMap P kt E.R mb n (D.put (Y.lit k) (E.dat v))):Gm Y E w' mb (if (m k).isSome then c else c+1) (gput m k v):=by
 have h3:=h2.put (h1.tidy Y.keyed) k hw v;refine⟨_,?_,h3⟩;have h4:=own_size hn;rw[h3.size] at h4;exact h4
theorem wpList_gm_del[DecidableEq κ](w:World)(hg:o.guard=none)(x y:Operand)(hop:o.op=Op.call { callee:=Callee.builtin Builtin.delete,args:=#[x,y],argTypes:=#[t,kt] })(ht:P.underlying t=some (.map kt et))
  (mb c:Nat) (m:κ→Option α) (hm:a.eval x=.map (some mb)) (h:Gm Y E w mb c m) (k:κ) (hx:a.eval y=Y.val k) (hw:Y.ok k)
  (hK:∀ w',Gm Y E w' mb (if (m k).isSome then c - 1 else c) (gdel m k)→Kept (fun x=>x=mb) w w'→wpList P ops Q rest (a.put o.dst (.tuple #[])) w'):wpList P ops Q (o :: rest) a w:=by
 obtain⟨D,h1,h2⟩:=h;refine wpList_delete_own w hg x y t kt hop et Y.keyed ht E.R mb c D hm h1 (Y.val k) (Y.lit k) hx (Y.of k hw) fun w' hn hg'=>?_;have h3:=h2.del (h1.tidy Y.keyed) k hw;refine hK w' ⟨_,?_,h3⟩ (Kept.of_grown1 hg'.grown);have h4:=own_size hn;rw[h3.size] at h4;exact h4
def Gr{P:Program}{kt:TypeId}{κ:Type}(Y:Ky P kt κ)(E:El α)(w:World)(mb r c:Nat)(m:κ→Option α)(left:κ→Bool)(cnt:Nat):Prop:=
 ∃ D leftL,w.ranges P kt E.R mb r c D leftL cnt∧Tells Y E D c m∧∀ k,Y.ok k→left k=leftL (Y.lit k)
theorem Gr.left_eq{r cnt:Nat}{left:κ→Bool}(h:Gr Y E w mb r c m left cnt):w.rangeLeft mb r=cnt:=by
 obtain⟨D,leftL,h1,-⟩:=h;exact h1.left_eq
theorem Gr.kept{F:Nat→Prop}{w':World}{r cnt:Nat}{left:κ→Bool}(h:Gr Y E w mb r c m left cnt)(k:Kept F w w')(hF:¬ F mb)(hr:¬ F r):Gr Y E w' mb r c m left cnt:=by
 obtain⟨D,leftL,⟨es,clock,since,seen,c0,hb,F1,hs,hD,hi,rest⟩,h2,h3⟩:=h;exact⟨D,leftL,⟨es,clock,since,seen,c0,(k.block mb (lt_of hb) hF).trans hb,F1,hs,hD,(k.block r (lt_of hi) hr).trans hi,rest⟩,h2,h3⟩
theorem wpList_gm_range(w:World)(hg:o.guard=none)(x:Operand)(hop:o.op=Op.range t x)(ht:P.underlying t=some (.map kt et))
  (mb c:Nat) (m:κ→Option α) (hm:a.eval x=.map (some mb)) (h:Gm Y E w mb c m)
  (hK:∀ w',Gr Y E w' mb w.heap.size c m (fun k=>(m k).isSome) c→Below w.heap.size w w'→w'.heap.size=w.heap.size+1→wpList P ops Q rest (a.put o.dst (.pointer (some ⟨w.heap.size,0,none⟩))) w'):wpList P ops Q (o :: rest) a w:=by
 obtain⟨D,h1,h2⟩:=h;refine wpList_range_own w hg x t hop kt et Y.keyed ht E.R mb c D hm h1 fun w' hr hg' hs=>?_;rw[h2.size] at hr;exact hK w' ⟨D,_,hr,h2,fun k hk=>(h2.has k hk).symm⟩ (Below.of_grown0 hg') hs
theorem wpList_gm_next[DecidableEq κ](w:World)(hg:o.guard=none)(it:Operand)(hop:o.op=Op.next it false)
  (mb r c:Nat) (m:κ→Option α) (left:κ→Bool) (cnt:Nat) (hit:a.eval it=.pointer (some ⟨r,0,none⟩)) (h:Gr Y E w mb r c m left cnt)
  (hDone:cnt=0→(∀ k,Y.ok k→left k=false)→wpList P ops Q rest (a.put o.dst (.tuple #[.bool false])) w)
  (hMore:∀ (k:κ) (x:α) (w':World) (cnt':Nat),Y.ok k→left k=true→m k=some x→Gr Y E w' mb r c m (fun z=>left z && !decide (z=k)) cnt'→cnt' < cnt →
   Kept (fun b=>b=r) w w'→w'.heap.size=w.heap.size→(Instr.entry (.pointer (some ⟨r,0,none⟩))).run P w'=.ok (.tuple #[Y.val k,E.val x]) w'→wpList P ops Q rest (a.put o.dst (.tuple #[.bool true,Y.val k,E.val x])) w'):
  wpList P ops Q (o :: rest) a w:=by
 obtain⟨D,leftL,h1,h2,h3⟩:=h;refine wpList_next_ranges w hg it hop kt Y.keyed E.R Y.val E.val (fun key kl hkey=>by obtain⟨x,_,rfl,_⟩:=Y.inv _ _ hkey;exact⟨x,rfl⟩) (fun v y hv=>by obtain⟨c,rfl,_⟩:=E.R_inv hv;exact⟨c,rfl⟩)
  mb r c D leftL cnt hit h1 (fun hc hl=>hDone hc (fun k hk=>by rw[h3 k hk];exact hl _)) (fun k x kl y w' cnt' hkey hlk hv hat hrg hlt hgr hsz hen=>?_)
 obtain⟨k',hok,ek,rfl⟩:=Y.inv _ _ hkey;have ekk:=Y.inj _ _ ek;subst ekk;obtain⟨x',ex,rfl⟩:=E.R_inv hv;have exx:x=x':=by
  have h5:=E.rd_val x;rw[ex,E.rd_val] at h5;exact(Option.some.inj h5).symm
 subst exx;have hh:(m k).isSome=true:=by rw[← h2.has k hok];exact Maps.has_true_of_atKey hat
 obtain⟨u,hu⟩:=Option.isSome_iff_exists.1 hh;have he:u=x:=E.inj _ _ ((h2.at_ k u hok hu (E.dat x)).symm.trans (hat _));refine hMore k x w' cnt' hok (by rw[h3 k hok];exact hlk) (by rw[hu,he]) ⟨D,_,hrg,h2,fun z hz=>?_⟩ hlt (Kept.of_grown1 hgr) hsz hen;show (left z && !decide (z=k))=_;rw[h3 z hz,Y.same hz hok]
end
end Go.Kpt
namespace Go.Proofs
open Go.RowKit Go.Maps Go.Sort Go.Shelf
def Tryz.keysB_ren:Go.Shelf.Ren:=⟨fun | 7=>61 | 10=>116 | n=>n,fun | 23=>84 | 26=>3 | 3=>104 | 28=>136 | 0=>0 | 27=>135 | 33=>142 | 4=>4 | n=>n,fun | n=>n⟩
theorem Tryz.keysB:SlLaysZI.n7 Tryz.prog Tryz.keysB_ren:={
 mixed:=by kernel_rfl
 f7 := ⟨"maps.Keys[map[int]*greenhouse/box.Box,int,*greenhouse/box.Box]", of_decide_eq_true (by kernel_rfl), Tryz.func61.trans (congrArg some (by kernel_rfl))⟩
 f10 := ⟨"maps.Keys[map[int]*greenhouse/box.Box,int,*greenhouse/box.Box]$1", of_decide_eq_true (by kernel_rfl), Tryz.func116.trans (congrArg some (by kernel_rfl))⟩
 t0:=Tryz.underlying0
 a0:=Tryz.isAgg0
 z0:=Tryz.sizeOf0
 v0:=Tryz.zeroValue0
 t4:=Tryz.underlying4
 a4:=Tryz.isAgg4
 z4:=Tryz.sizeOf4
 v4:=Tryz.zeroValue4
 t23:=Tryz.underlying84
 a23:=Tryz.isAgg84
 z23:=Tryz.sizeOf84
 v23:=Tryz.zeroValue84
 t26:=Tryz.underlying3
 a26:=Tryz.isAgg3
 z26:=Tryz.sizeOf3
 v26:=Tryz.zeroValue3
 t27:=Tryz.underlying135
 a27:=Tryz.isAgg135
 z27:=Tryz.sizeOf135
 v27:=Tryz.zeroValue135
 t28:=Tryz.underlying136
 a28:=Tryz.isAgg136
 z28:=Tryz.sizeOf136
 v28:=Tryz.zeroValue136
 t33:=Tryz.underlying142
 a33:=Tryz.isAgg142
 z33:=Tryz.sizeOf142
 v33:=Tryz.zeroValue142 }
def Tryz.keysF_ren:Go.Shelf.Ren:=⟨fun | 7=>79 | 10=>131 | n=>n,fun | 23=>81 | 26=>3 | 3=>99 | 28=>136 | 0=>0 | 27=>135 | 33=>142 | 4=>4 | n=>n,fun | n=>n⟩
def Tryz.sortedI_ren:Go.Shelf.Ren:=⟨fun | 6=>60 | 8=>114 | 9=>115 | 11=>153 | 13=>155 | 12=>154 | 23=>184 | 24=>185 | 14=>175 | 15=>176 | 16=>177 | 17=>178 | 18=>179 | 19=>180 | 20=>181 | 21=>182 | 22=>183 | 25=>194 | 26=>195 | 27=>196 | 28=>197 | 29=>198 | 30=>157 | 31=>202 | n=>n,fun | 26=>3 | 28=>136 | 24=>22 | 0=>0 | 3=>3 | 37=>49 | 48=>270 | 50=>111 | 4=>4 | 40=>264 | 39=>263 | 45=>184 | 5=>5 | 9=>9 | 51=>281 | 55=>114 | 57=>286 | 58=>287 | 33=>142 | n=>n,fun | n=>n⟩
theorem Tryz.sortedI:SlLaysZI.n6 Tryz.prog Tryz.sortedI_ren:={
 mixed:=by kernel_rfl
 i26:=by kernel_rfl
 f6 := ⟨"slices.Sorted[int]", of_decide_eq_true (by kernel_rfl), Tryz.func60.trans (congrArg some (by kernel_rfl))⟩
 f8 := ⟨"slices.Collect[int]", of_decide_eq_true (by kernel_rfl), Tryz.func114.trans (congrArg some (by kernel_rfl))⟩
 f11 := ⟨"slices.AppendSeq[[]int,int]", of_decide_eq_true (by kernel_rfl), Tryz.func153.trans (congrArg some (by kernel_rfl))⟩
 t0:=Tryz.underlying0
 a0:=Tryz.isAgg0
 z0:=Tryz.sizeOf0
 v0:=Tryz.zeroValue0
 t24:=Tryz.underlying22
 a24:=Tryz.isAgg22
 z24:=Tryz.sizeOf22
 v24:=Tryz.zeroValue22
 t26:=Tryz.underlying3
 a26:=Tryz.isAgg3
 z26:=Tryz.sizeOf3
 v26:=Tryz.zeroValue3
 t28:=Tryz.underlying136
 a28:=Tryz.isAgg136
 z28:=Tryz.sizeOf136
 v28:=Tryz.zeroValue136 }
def Tryz.sortI_ren:Go.Shelf.Ren:=⟨fun | 5=>115 | 8=>155 | 7=>154 | 19=>184 | 20=>185 | 10=>175 | 11=>176 | 12=>177 | 13=>178 | 14=>179 | 15=>180 | 16=>181 | 17=>182 | 18=>183 | 30=>194 | 31=>195 | 32=>196 | 33=>197 | 34=>198 | 35=>157 | 40=>202 | n=>n,fun | 23=>22 | 25=>3 | 3=>3 | 32=>49 | 22=>22 | 0=>0 | 44=>270 | 46=>111 | 4=>4 | 36=>264 | 35=>263 | 41=>184 | 5=>5 | 9=>9 | 53=>281 | 57=>114 | 63=>286 | 64=>287 | n=>n,fun | n=>n⟩
theorem Tryz.sortI:SlLaysM.n5 Tryz.prog Tryz.sortI_ren:={
 mixed:=by kernel_rfl
 f5 := ⟨"slices.Sort[[]int,int]", of_decide_eq_true (by kernel_rfl), Tryz.func115.trans (congrArg some (by kernel_rfl))⟩
 f7 := ⟨"slices.pdqsortOrdered[int]", of_decide_eq_true (by kernel_rfl), Tryz.func154.trans (congrArg some (by kernel_rfl))⟩
 f10 := ⟨"slices.insertionSortOrdered[int]", of_decide_eq_true (by kernel_rfl), Tryz.func175.trans (congrArg some (by kernel_rfl))⟩
 f11 := ⟨"slices.heapSortOrdered[int]", of_decide_eq_true (by kernel_rfl), Tryz.func176.trans (congrArg some (by kernel_rfl))⟩
 f12 := ⟨"slices.breakPatternsOrdered[int]", of_decide_eq_true (by kernel_rfl), Tryz.func177.trans (congrArg some (by kernel_rfl))⟩
 f13 := ⟨"slices.choosePivotOrdered[int]", of_decide_eq_true (by kernel_rfl), Tryz.func178.trans (congrArg some (by kernel_rfl))⟩
 f14 := ⟨"slices.reverseRangeOrdered[int]", of_decide_eq_true (by kernel_rfl), Tryz.func179.trans (congrArg some (by kernel_rfl))⟩
 f15 := ⟨"slices.partialInsertionSortOrdered[int]", of_decide_eq_true (by kernel_rfl), Tryz.func180.trans (congrArg some (by kernel_rfl))⟩
 f16 := ⟨"cmp.Less[int]", of_decide_eq_true (by kernel_rfl), Tryz.func181.trans (congrArg some (by kernel_rfl))⟩
 f17 := ⟨"slices.partitionEqualOrdered[int]", of_decide_eq_true (by kernel_rfl), Tryz.func182.trans (congrArg some (by kernel_rfl))⟩
 f18 := ⟨"slices.partitionOrdered[int]", of_decide_eq_true (by kernel_rfl), Tryz.func183.trans (congrArg some (by kernel_rfl))⟩
 f30 := ⟨"slices.siftDownOrdered[int]", of_decide_eq_true (by kernel_rfl), Tryz.func194.trans (congrArg some (by kernel_rfl))⟩
 f33 := ⟨"slices.medianAdjacentOrdered[int]", of_decide_eq_true (by kernel_rfl), Tryz.func197.trans (congrArg some (by kernel_rfl))⟩
 f34 := ⟨"slices.medianOrdered[int]", of_decide_eq_true (by kernel_rfl), Tryz.func198.trans (congrArg some (by kernel_rfl))⟩
 f35 := ⟨"cmp.isNaN[int]", of_decide_eq_true (by kernel_rfl), Tryz.func157.trans (congrArg some (by kernel_rfl))⟩
 f40 := ⟨"slices.order2Ordered[int]", of_decide_eq_true (by kernel_rfl), Tryz.func202.trans (congrArg some (by kernel_rfl))⟩
 f8:=Tryz.func155.trans (congrArg some (by kernel_rfl))
 f19:=Tryz.func184.trans (congrArg some (by kernel_rfl))
 f20:=Tryz.func185.trans (congrArg some (by kernel_rfl))
 f31:=Tryz.func195.trans (congrArg some (by kernel_rfl))
 f32:=Tryz.func196.trans (congrArg some (by kernel_rfl))
 t0:=Tryz.underlying0
 a0:=Tryz.isAgg0
 z0:=Tryz.sizeOf0
 v0:=Tryz.zeroValue0
 t3:=Tryz.underlying3
 a3:=Tryz.isAgg3
 z3:=Tryz.sizeOf3
 v3:=Tryz.zeroValue3
 t4:=Tryz.underlying4
 a4:=Tryz.isAgg4
 z4:=Tryz.sizeOf4
 v4:=Tryz.zeroValue4
 t5:=Tryz.underlying5
 a5:=Tryz.isAgg5
 z5:=Tryz.sizeOf5
 v5:=Tryz.zeroValue5
 t9:=Tryz.underlying9
 a9:=Tryz.isAgg9
 z9:=Tryz.sizeOf9
 v9:=Tryz.zeroValue9
 t22:=Tryz.underlying22
 a22:=Tryz.isAgg22
 z22:=Tryz.sizeOf22
 v22:=Tryz.zeroValue22
 t23:=Tryz.underlying22
 a23:=Tryz.isAgg22
 z23:=Tryz.sizeOf22
 v23:=Tryz.zeroValue22
 t25:=Tryz.underlying3
 a25:=Tryz.isAgg3
 z25:=Tryz.sizeOf3
 v25:=Tryz.zeroValue3
 t32:=Tryz.underlying49
 a32:=Tryz.isAgg49
 z32:=Tryz.sizeOf49
 v32:=Tryz.zeroValue49
 t35:=Tryz.underlying263
 a35:=Tryz.isAgg263
 z35:=Tryz.sizeOf263
 v35:=Tryz.zeroValue263
 t36:=Tryz.underlying264
 a36:=Tryz.isAgg264
 z36:=Tryz.sizeOf264
 v36:=Tryz.zeroValue264
 t41:=Tryz.underlying184
 a41:=Tryz.isAgg184
 z41:=Tryz.sizeOf184
 v41:=Tryz.zeroValue184
 t44:=Tryz.underlying270
 a44:=Tryz.isAgg270
 z44:=Tryz.sizeOf270
 v44:=Tryz.zeroValue270
 t46:=Tryz.underlying111
 a46:=Tryz.isAgg111
 z46:=Tryz.sizeOf111
 v46:=Tryz.zeroValue111
 t53:=Tryz.underlying281
 a53:=Tryz.isAgg281
 z53:=Tryz.sizeOf281
 v53:=Tryz.zeroValue281
 t57:=Tryz.underlying114
 a57:=Tryz.isAgg114
 z57:=Tryz.sizeOf114
 v57:=Tryz.zeroValue114
 t63:=Tryz.underlying286
 a63:=Tryz.isAgg286
 z63:=Tryz.sizeOf286
 v63:=Tryz.zeroValue286
 t64:=Tryz.underlying287
 a64:=Tryz.isAgg287
 z64:=Tryz.sizeOf287
 v64:=Tryz.zeroValue287 }
theorem Tryz.keysF:SlLaysZI.n7 Tryz.prog Tryz.keysF_ren:={
 mixed:=by kernel_rfl
 f7 := ⟨"maps.Keys[map[int]*greenhouse/core.fn,int,*greenhouse/core.fn]", of_decide_eq_true (by kernel_rfl), Tryz.func79.trans (congrArg some (by kernel_rfl))⟩
 f10 := ⟨"maps.Keys[map[int]*greenhouse/core.fn,int,*greenhouse/core.fn]$1", of_decide_eq_true (by kernel_rfl), Tryz.func131.trans (congrArg some (by kernel_rfl))⟩
 t0:=Tryz.underlying0
 a0:=Tryz.isAgg0
 z0:=Tryz.sizeOf0
 v0:=Tryz.zeroValue0
 t4:=Tryz.underlying4
 a4:=Tryz.isAgg4
 z4:=Tryz.sizeOf4
 v4:=Tryz.zeroValue4
 t23:=Tryz.underlying81
 a23:=Tryz.isAgg81
 z23:=Tryz.sizeOf81
 v23:=Tryz.zeroValue81
 t26:=Tryz.underlying3
 a26:=Tryz.isAgg3
 z26:=Tryz.sizeOf3
 v26:=Tryz.zeroValue3
 t27:=Tryz.underlying135
 a27:=Tryz.isAgg135
 z27:=Tryz.sizeOf135
 v27:=Tryz.zeroValue135
 t28:=Tryz.underlying136
 a28:=Tryz.isAgg136
 z28:=Tryz.sizeOf136
 v28:=Tryz.zeroValue136
 t33:=Tryz.underlying142
 a33:=Tryz.isAgg142
 z33:=Tryz.sizeOf142
 v33:=Tryz.zeroValue142 }
def Tryz.delI_ren:Go.Shelf.Ren:=⟨fun | 10=>133 | 6=>164 | n=>n,fun | 22=>22 | 23=>3 | 25=>142 | 3=>3 | 4=>4 | 0=>0 | n=>n,fun | n=>n⟩
theorem Tryz.sorts(m:Nat):AnyZI.SortsIn Tryz.prog Tryz.sortedI_ren Fence.wide m:=
 ⟨fun blk off cap ss W hH hblk hsz=>callsIn_wide.2 (AnyM.slices_Sort_int Tryz.sortI blk off cap ss W hH hblk hsz),
 fun p cap W=>callsIn_wide.2 (AnyM.slices_Sort_int_none Tryz.sortI p cap W)⟩
theorem Tryz.keys61(mb:Option Nat)(W:World):CallsIn Fence.wide 5 Tryz.prog 61 #[.map mb] W fun e w'=>e=.returned (.func (.func 116) #[] #[.pointer (some ⟨W.heap.size,0,none⟩)])∧w'=W.alloc (.cells #[.map mb] 84):=
 AnyZI.keys_in Tryz.keysB Fence.wide 5 trivial rfl mb W
theorem Tryz.keys79(mb:Option Nat)(W:World):CallsIn Fence.wide 5 Tryz.prog 79 #[.map mb] W fun e w'=>e=.returned (.func (.func 131) #[] #[.pointer (some ⟨W.heap.size,0,none⟩)])∧w'=W.alloc (.cells #[.map mb] 81):=
 AnyZI.keys_in Tryz.keysF Fence.wide 5 trivial rfl mb W
theorem Tryz.sorted61{H:Type}(b nn:Nat)(D0:DataW H)(R:Value→Option (DataW H×List MemPlace))(w:World)(hown:w.ownsMap Tryz.prog 3 R b nn D0)(hmax:Maps.size D0≤maxLen)(hbytes:Maps.size D0*8≤140737488355328):
  CallsIn Fence.wide 5 Tryz.prog 60 #[.func (.func 116) #[] #[.pointer (some ⟨w.heap.size,0,none⟩)]] (w.alloc (.cells #[.map (some b)] 84)) fun e w'=>∃ (v:Value) (ss:List Int),e=.returned v∧ss.Perm (intKeys D0) ∧
   w'.ownsRow (w.alloc (.cells #[.map (some b)] 84)).heap.size 3 1 v ss.length ((ss.mergeSort (fun x y=>decide (x≤y))).map encZ)∧(v=.slice none 0 0↔ss=[])∧Below (w.alloc (.cells #[.map (some b)] 84)).heap.size (w.alloc (.cells #[.map (some b)] 84)) w':=by
 have hbl:=hown.lt;have hseq:SeqGives Fence.wide 2 Tryz.prog 116 #[.pointer (some ⟨w.heap.size,0,none⟩)] encZ (fun ss=>ss.Perm (intKeys D0)) (Maps.size D0) (w.alloc (.cells #[.map (some b)] 84)):=
  AnyZI.keys_gives (ρ:=Tryz.keysB_ren) { Tryz.keysB with } Fence.wide _ trivial rfl (by omega) w.heap.size b nn D0 _ (by simp) (by simp) (by
   obtain⟨es,clock,hb,Ft,hs,hD⟩:=hown;exact⟨es,clock,(Below.heap_alloc _ _ b hbl).trans hb,Ft,hs,hD⟩)
 exact AnyZI.sorted_in Tryz.sortedI Fence.wide 5 trivial trivial trivial trivial rfl (by omega) (Tryz.sorts _) (enters_of Tryz.func115 (by kernel_rfl) rfl) 116 #[.pointer (some ⟨w.heap.size,0,none⟩)] trivial (enters_of Tryz.func116 (by kernel_rfl) rfl) _ _ hmax hbytes _ hseq
theorem Tryz.sorted79{H:Type}(b nn:Nat)(D0:DataW H)(R:Value→Option (DataW H×List MemPlace))(w:World)(hown:w.ownsMap Tryz.prog 3 R b nn D0)(hmax:Maps.size D0≤maxLen)(hbytes:Maps.size D0*8≤140737488355328):
  CallsIn Fence.wide 5 Tryz.prog 60 #[.func (.func 131) #[] #[.pointer (some ⟨w.heap.size,0,none⟩)]] (w.alloc (.cells #[.map (some b)] 81)) fun e w'=>∃ (v:Value) (ss:List Int),e=.returned v∧ss.Perm (intKeys D0) ∧
   w'.ownsRow (w.alloc (.cells #[.map (some b)] 81)).heap.size 3 1 v ss.length ((ss.mergeSort (fun x y=>decide (x≤y))).map encZ)∧(v=.slice none 0 0↔ss=[])∧Below (w.alloc (.cells #[.map (some b)] 81)).heap.size (w.alloc (.cells #[.map (some b)] 81)) w':=by
 have hbl:=hown.lt;have hseq:SeqGives Fence.wide 2 Tryz.prog 131 #[.pointer (some ⟨w.heap.size,0,none⟩)] encZ (fun ss=>ss.Perm (intKeys D0)) (Maps.size D0) (w.alloc (.cells #[.map (some b)] 81)):=
  AnyZI.keys_gives (ρ:=Tryz.keysF_ren) { Tryz.keysF with } Fence.wide _ trivial rfl (by omega) w.heap.size b nn D0 _ (by simp) (by simp) (by
   obtain⟨es,clock,hb,Ft,hs,hD⟩:=hown;exact⟨es,clock,(Below.heap_alloc _ _ b hbl).trans hb,Ft,hs,hD⟩)
 exact AnyZI.sorted_in Tryz.sortedI Fence.wide 5 trivial trivial trivial trivial rfl (by omega) (Tryz.sorts _) (enters_of Tryz.func115 (by kernel_rfl) rfl) 131 #[.pointer (some ⟨w.heap.size,0,none⟩)] trivial (enters_of Tryz.func131 (by kernel_rfl) rfl) _ _ hmax hbytes _ hseq
end Go.Proofs
namespace Go.Kpt
open Go.RowKit Go.Maps Go.WideElems Go.ChangeMaps Go.MapKept Go.WideShapes
section
variable {α:Type} {P:Program} {kt:TypeId} {κ:Type} {Y:Ky P kt κ} {E:El α} {et t:TypeId} {w:World} {mb c:Nat} {m:κ→Option α}
theorem setBlock_same{w:World}{b:Nat}{o:Obj}(h:w.heap[b]?=some o):setBlock w b o=w:=by
 unfold setBlock;have:w.heap.setIfInBounds b o=w.heap:=by
  apply Array.ext_getElem?
  intro i;rw[Array.getElem?_setIfInBounds];by_cases e:b=i
  ·subst e
   rw[if_pos rfl,h,if_pos (Array.getElem?_eq_some_iff.1 h).1]
  ·rw[if_neg e]
 rw[this]
theorem entry_at{es:Array MapEntry}{clock:Nat}{D:DataW Unit}(ht:P.underlying t=some (.map kt et))(z:α)(hz:∀ w,(zeroValue et).run P w=.ok (E.val z) w)
  (hb:w.heap[mb]?=some (.map es clock)) (F:Fit P kt E.R es clock) (hown:w.ownsMap P kt E.R mb c D) (k:κ) (hw:Y.ok k) (hh:Maps.has D (Y.lit k)=true):
  ∃ (j:Nat) (e0:MapEntry),es[j]?=some e0∧e0.key=Y.val k∧(Instr.mapEntry t (.map (some mb)) (Y.val k)).run P w=.ok (.tuple #[e0.val,goInt e0.born]) w:=by
 have K:=Y.keyed;have hkey:=Y.of k hw;rcases K.find w hkey es.toList F.keys with ⟨h1,h2⟩|⟨j,e0,h1,h2,h3⟩
 ·exfalso
  obtain⟨v,ps,hrun,-⟩:=hown.look_ok K ht (hz w) (E.R_val z) hkey;rw[hh] at hrun;simp[Instr.lookup,run_underlying ht,Go.MapKept.run_getObj_map hb,K.check w es.isEmpty hkey,h1,hz,Result.andThen] at hrun
 ·have hj:es[j]?=some e0:=by simpa using h2
  have hsame:es.modify j (fun e=>{ e with key:=Y.val k })=es:=by
   apply Array.ext'
   rw[Array.toList_modify,modify_eq_set _ _ _ _ h2];have:({ e0 with key:=Y.val k }:MapEntry)=e0:=by rw[← h3]
   rw[this];exact set_self _ _ _ h2
  refine⟨j,e0,hj,h3,?_⟩;have:(Instr.mapEntry t (.map (some mb)) (Y.val k)).run P w=.ok (.tuple #[e0.val,goInt e0.born]) (setBlock w mb (.map es clock)):=by
   simp[Instr.mapEntry,run_underlying ht,Go.MapKept.run_getObj_map hb,K.check w false hkey,h1,hj,h3,K.stays w hkey,hsame,Go.MapKept.run_setObj_map _ hb,Result.andThen,setBlock]
  rw[this,setBlock_same hb]
theorem apart{es:Array MapEntry}{clock:Nat}{R:Value→Option (DataW Unit×List MemPlace)}(K:Keyed P kt)(F:Fit P kt R es clock){i j:Nat}{x y:MapEntry}(hi:es[i]?=some x)(hj:es[j]?=some y)(h:x.key=y.key):i=j:=by
 have hp:=Maps.fit_apart K F;rw[List.pairwise_map] at hp;have hkx:∀ z ∈ es.toList,keyOf P kt z.key=some (Go.WideElems.rg P kt R z).1:=fun z hz=>by
  obtain⟨y,hy⟩:=F.reads z hz;have h1:=Go.WideElems.rd_key hy;unfold Go.WideElems.rg;rw[hy];exact h1
 have hi':es.toList[i]?=some x:=by simpa using hi
 have hj':es.toList[j]?=some y:=by simpa using hj
 have hx:=hkx x (List.mem_of_getElem? hi');have hy:=hkx y (List.mem_of_getElem? hj');rw[h,hy] at hx;have he:(Go.WideElems.rg P kt R y).1=(Go.WideElems.rg P kt R x).1:=Option.some.inj hx;obtain⟨li,ei⟩:=List.getElem?_eq_some_iff.1 hi';obtain⟨lj,ej⟩:=List.getElem?_eq_some_iff.1 hj';rw[List.pairwise_iff_getElem] at hp;rcases Nat.lt_trichotomy i j with hlt|rfl|hlt
 ·exact absurd (by rw[ei,ej];exact he.symm) (hp i j li lj hlt)
 ·rfl
 ·exact absurd (by rw[ei,ej];exact he) (hp j i lj li hlt)
theorem gm_two[DecidableEq κ](h:Gm Y E w mb c m)(ht:P.underlying t=some (.map kt et))(z:α)(hz:∀ w,(zeroValue et).run P w=.ok (E.val z) w)(hc:c < maxLen)
  (k1 k2:κ) (v1 v2:α) (hw1:Y.ok k1) (hw2:Y.ok k2) (h1:(m k1).isSome=true) (h2:(m k2).isSome=true):
  ∃ (x1 x2 x3:Value) (s1 s2:Nat) (w1 w2:World),
   (Instr.mapEntry t (.map (some mb)) (Y.val k1)).run P w=.ok (.tuple #[x1,.int .i64 s1]) w ∧
   (Instr.mapEntry t (.map (some mb)) (Y.val k2)).run P w=.ok (.tuple #[x2,.int .i64 s2]) w ∧
   (Instr.entryStore t (.map (some mb)) (.int .i64 s1) (E.val v1)).run P w=.ok () w1 ∧
   (Instr.mapEntry t (.map (some mb)) (Y.val k2)).run P w1=.ok (.tuple #[x3,.int .i64 s2]) w1 ∧
   (Instr.entryStore t (.map (some mb)) (.int .i64 s2) (E.val v2)).run P w1=.ok () w2 ∧
   Gm Y E w2 mb c (gput (gput m k1 v1) k2 v2)∧Kept (fun x=>x=mb) w w1∧Kept (fun x=>x=mb) w w2:=by
 have K:=Y.keyed;have one:∀ {W:World} {es:Array MapEntry} {clock:Nat} {M:κ→Option α} {D:DataW Unit},W.heap[mb]?=some (.map es clock)→Fit P kt E.R es clock→W.ownsMap P kt E.R mb c D→Tells Y E D c M →
   ∀ (k:κ) (v:α),Y.ok k→(M k).isSome=true →
   ∃ (j:Nat) (e0:MapEntry) (es':Array MapEntry) (W':World),es[j]?=some e0∧e0.key=Y.val k∧(Instr.mapEntry t (.map (some mb)) (Y.val k)).run P W=.ok (.tuple #[e0.val,.int .i64 e0.born]) W ∧
    (Instr.entryStore t (.map (some mb)) (.int .i64 e0.born) (E.val v)).run P W=.ok () W'∧W'.heap[mb]?=some (.map es' clock)∧es'=es.modify j (fun e=>{ e with val:=E.val v })∧Kept (fun x=>x=mb) W W'∧Gm Y E W' mb c (gput M k v):=by
  intro W es clock M D hb F hown hM k v hwk hh;have hh':Maps.has D (Y.lit k)=true:=by rw[hM.has k hwk];exact hh
  have hkey:=Y.of k hwk;obtain⟨j,e0,hj,hkk,hent⟩:=entry_at ht z hz hb F hown k hwk hh';have h2:es.toList[j]?=some e0:=by simpa using hj
  have hidx:es.findIdx? (fun e=>((e.born:Nat):Int) == ((e0.born:Nat):Int))=some j:=by
   rw[findIdx_arr];exact findIdx_born F.stamped.2.1 h2
  have hmod:es.modify j (fun e'=>{ e' with key:=Y.val k,val:=E.val v })=es.modify j (fun e=>{ e with val:=E.val v }):=by
   apply Array.ext'
   rw[Array.toList_modify,Array.toList_modify,modify_eq_set _ _ _ _ h2,modify_eq_set _ _ _ _ h2,← hkk]
  have hst:(Instr.entryStore t (.map (some mb)) (.int .i64 e0.born) (E.val v)).run P W=.ok () (setBlock W mb (.map (es.modify j (fun e=>{ e with val:=E.val v })) clock)):=by
   simp[Instr.entryStore,Go.MapKept.run_getObj_map hb,asInt,asIntOf,hidx,Go.MapKept.run_setObj_map _ hb,Result.andThen,setBlock]
  have hup:(Instr.mapUpdate t (.map (some mb)) (Y.val k) (E.val v)).run P W=.ok () (setBlock W mb (.map (es.modify j (fun e=>{ e with val:=E.val v })) clock)):=by
   rcases K.find W hkey es.toList F.keys with ⟨_,h4⟩|⟨j',e',h3,h4,h5⟩
   ·exact absurd hkk (h4 e0 (List.mem_of_getElem? h2))
   ·have hj':es[j']?=some e':=by simpa using h4
    obtain rfl:j'=j:=apart K F hj' hj (by rw[h5,hkk]);obtain rfl:e'=e0:=by rw[hj] at hj';exact(Option.some.inj hj').symm
    simp[Instr.mapUpdate,run_underlying ht,Go.MapKept.run_getObj_map hb,K.check W false hkey,h3,hj,h5,K.stays W hkey,Go.MapKept.run_setObj_map _ hb,Result.andThen,setBlock,hmod]
  obtain⟨w',hrun,r1,r2⟩:=hown.update K ht hc hkey (E.R_val v);rw[hup] at hrun;have hw':setBlock W mb (.map (es.modify j (fun e=>{ e with val:=E.val v })) clock)=w':=by injection hrun
  have hmp:=gm_put hown hM k hwk v r1;rw[if_pos hh] at hmp;refine⟨j,e0,_,w',hj,hkk,hent,by rw[← hw'];exact hst,?_,rfl,Kept.of_grown1 r2,hmp⟩;rw[← hw'];exact heap_setBlock_same hb _
 obtain⟨D,hown,hM⟩:=h;obtain⟨es,clock,hb,F,hle,hD⟩:=hown;have hown:w.ownsMap P kt E.R mb c D:=⟨es,clock,hb,F,hle,hD⟩;obtain⟨j1,e1,es1,w1,hj1,hk1,ent1,st1,hb1,hes1,kp1,mp1⟩:=one hb F hown hM k1 v1 hw1 h1;obtain⟨j2,e2,_,_,hj2,hk2,ent2,_⟩:=one hb F hown hM k2 v2 hw2 h2;obtain⟨D1,hown1,hM1⟩:=mp1;have h2':(gput m k1 v1 k2).isSome=true:=by unfold gput;split <;> simp_all
 have hF1:Fit P kt E.R es1 clock:=by
  obtain⟨es',clock',hb',F',-⟩:=hown1;rw[hb1] at hb';cases hb'
  exact F'
 obtain⟨j3,e3,es3,w2,hj3,hk3,ent3,st3,hb3,hes3,kp3,mp3⟩:=one hb1 hF1 hown1 hM1 k2 v2 hw2 h2';have hborn:e3.born=e2.born:=by
  rw[hes1,Array.getElem?_modify] at hj3;by_cases e:j1=j3
  ·rw[if_pos e] at hj3
   subst e;rw[hj1] at hj3;simp only[Option.map_some,Option.some.injEq] at hj3;subst hj3;have:j1=j2:=apart K F hj1 hj2 (by rw[hk2];exact hk3);subst this;rw[hj1] at hj2;cases hj2
   rfl
  ·rw[if_neg e] at hj3
   have:j3=j2:=apart K F hj3 hj2 (by rw[hk2];exact hk3);subst this;rw[hj3] at hj2;cases hj2
   rfl
 rw[hborn] at ent3 st3;exact⟨_,_,_,_,_,w1,w2,ent1,ent2,st1,ent3,st3,mp3,kp1,kp1.trans kp3 (fun _ _ h=>h)⟩
end
end Go.Kpt
namespace Go.Proofs.YtigeldkbfbcpmaaGreat.P14
open Go.RowKit Go.Kpt Go.Maps
abbrev Ke:=Int×Int
theorem klaid:laidOutB Tryz.prog=true:=by kernel_rfl
theorem kcells:Tryz.prog.cellsOf 160=2:=by kernel_rfl
theorem kcells3:Tryz.prog.cellsOf 3=1:=by kernel_rfl
theorem krow:(160:TypeId) < Tryz.prog.types.size:=of_decide_eq_true (by kernel_rfl)
theorem ktype:Tryz.prog.keyType 160=true:=by kernel_rfl
theorem kdepth:∃ d,Tryz.prog.types.size+1=d+2:=⟨Tryz.prog.types.size - 1,by have h:160 < Tryz.prog.types.size:=krow;omega⟩
theorem kwide:(match Tryz.prog.underlying 160 with | some (.array _ _) | some (.struct _)=>true | _=>false)=true:=by rw[Tryz.underlying160]
theorem klaw:WideMaps.KeyLaw Tryz.prog 160:=deep_law_laid klaid (m:=2) (by omega) krow (by kernel_rfl) kwide
abbrev kv(k:Ke):Value:=.agg #[.int .i64 k.1,.int .i64 k.2]
def kl(k:Ke):Lit:=.string (keyBytes [.int .i64 k.1,.int .i64 k.2])
def kok(k:Ke):Prop:=(Lit.int .i64 k.1).wf=true∧(Lit.int .i64 k.2).wf=true
instance (k:Ke):Decidable (kok k):=by unfold kok;exact inferInstance
theorem kformed(a b:Value):(Value.agg #[a,b]).formed Tryz.prog 160=true:=by simp[Value.formed,Tryz.underlying160,kcells]
theorem klits(d:Nat)(a b:Int)(ha:(Lit.int .i64 a).wf=true)(hb:(Lit.int .i64 b).wf=true):Tryz.prog.keyLits (d+2) 160 [.int .i64 a,.int .i64 b]=some [.int .i64 a,.int .i64 b]:=by
 simp[Program.keyLits,Tryz.underlying160,Tryz.underlying3,kcells,kcells3,ha,hb]
theorem kof(k:Ke)(h:kok k):keyOf Tryz.prog 160 (kv k)=some (kl k):=by
 obtain⟨d,hd⟩:=kdepth;unfold keyOf kv;rw[Tryz.underlying160];simp only[ktype,kformed,Bool.and_self,if_true,hd];rw[show (Value.agg #[Value.int .i64 k.1,Value.int .i64 k.2]).cells.toList=[.int .i64 k.1,.int .i64 k.2] from rfl,klits d k.1 k.2 h.1 h.2];rfl
theorem kinv(v:Value)(l:Lit)(h:keyOf Tryz.prog 160 v=some l):∃ k,kok k∧v=kv k∧l=kl k:=by
 obtain⟨d,hd⟩:=kdepth;unfold keyOf at h;rw[Tryz.underlying160] at h;simp only[ktype,Bool.true_and,hd] at h;split at h
 ·rename_i hf
  simp[Value.formed,Tryz.underlying160,kcells] at hf;cases v <;> simp at hf
  rename_i cs;obtain⟨ls⟩:=cs
  match ls,hf with
  | [x,y],_=>
   rw[show (Value.agg #[x,y]).cells.toList=[x,y] from rfl] at h;simp[Program.keyLits,Tryz.underlying160,Tryz.underlying3,kcells,kcells3] at h;cases x <;> simp at h
   rename_i q1 n1 _;by_cases h1:q1=IntKind.i64∧(Lit.int IntKind.i64 n1).wf=true
   ·rw[if_pos h1] at h
    cases y <;> simp at h
    rename_i q2 n2 _;by_cases h2:q2=IntKind.i64∧(Lit.int IntKind.i64 n2).wf=true
    ·rw[if_pos h2] at h
     simp at h;obtain⟨rfl,w1⟩:=h1;obtain⟨rfl,w2⟩:=h2;exact⟨(n1,n2),⟨w1,w2⟩,rfl,h.symm⟩
    ·rw[if_neg h2] at h
     simp at h
   ·rw[if_neg h1] at h
    simp at h
 ·cases h
def keyY:Ky Tryz.prog 160 Ke:=⟨Keyed.of_law klaw,kv,kl,kok,kof,kinv,fun a b h=>by
 obtain⟨a1,a2⟩:=a;obtain⟨b1,b2⟩:=b;simp[kv] at h;rw[h.1,h.2]⟩
def intRd(v:Value):Option Int:=match v with | .int .i64 a=>some a | _=>none
def intE:El Int:=⟨Value.int .i64,intRd,fun _=>rfl,fun v x h=>by
 cases v <;> simp[intRd] at h
 rename_i k a;cases k <;> simp at h
 rw[h],fun a=>.lit (.int .i64 a),fun x y h=>by simpa using h⟩
section
variable {t:TypeId} {mb c:Nat} {m:Ke→Option Int} {ops:Array Oper} {rest:List Oper} {o:Oper} {a:Act} {Q:Exit→Act→World→Prop}
theorem ki_two{w:World}(h:Gm keyY intE w mb c m)(hc:c < maxLen)(k1 k2:Ke)(v1 v2:Int)(hw1:kok k1)(hw2:kok k2)(h1:(m k1).isSome=true)(h2:(m k2).isSome=true):
  ∃ (x1 x2 x3:Value) (s1 s2:Nat) (w1 w2:World),
   (Instr.mapEntry 203 (.map (some mb)) (kv k1)).run Tryz.prog w=.ok (.tuple #[x1,.int .i64 s1]) w ∧
   (Instr.mapEntry 203 (.map (some mb)) (kv k2)).run Tryz.prog w=.ok (.tuple #[x2,.int .i64 s2]) w ∧
   (Instr.entryStore 203 (.map (some mb)) (.int .i64 s1) (.int .i64 v1)).run Tryz.prog w=.ok () w1 ∧
   (Instr.mapEntry 203 (.map (some mb)) (kv k2)).run Tryz.prog w1=.ok (.tuple #[x3,.int .i64 s2]) w1 ∧
   (Instr.entryStore 203 (.map (some mb)) (.int .i64 s2) (.int .i64 v2)).run Tryz.prog w1=.ok () w2 ∧
   Gm keyY intE w2 mb c (gput (gput m k1 v1) k2 v2)∧Kept (fun x=>x=mb) w w1∧Kept (fun x=>x=mb) w w2:=
 gm_two h Tryz.underlying203 0 (fun w=>by kernel_rfl) hc k1 k2 v1 v2 hw1 hw2 h1 h2
end
end Go.Proofs.YtigeldkbfbcpmaaGreat.P14
namespace Go.Proofs.YtigeldkbfbcpmaaGreat
open Go.RowKit Go.Kpt Go.Maps
def intK:Ky Tryz.prog 3 Int where
 keyed:=Maps.int_keyed Tryz.underlying3
 val:=.int .i64
 lit:=.int .i64
 ok k:=(Lit.int .i64 k).wf=true
 of k h:=Maps.keyOf_int_mk Tryz.underlying3 h
 inv v l h:=by obtain⟨x,rfl,h1⟩:=Maps.keyOf_int_inv Tryz.underlying3 h;exact⟨x,h1.2,rfl,h1.1⟩
 inj a b h:=by cases h;rfl
def ptrRd(v:Value):Option (Option Nat):=match v with
 | .pointer none=>some none
 | .pointer (some ⟨b,0,none⟩)=>some (some b)
 | _=>none
def pv:Option Nat→Value
 | none=>.pointer none
 | some b=>.pointer (some ⟨b,0,none⟩)
def pd:Option Nat→DataW Unit
 | none=>.lit (.bool false)
 | some b=>.lit (.int .i64 (b:Int))
theorem ptrRd_pv(x:Option Nat):ptrRd (pv x)=some x:=by cases x <;> rfl
theorem pv_ptrRd(v:Value)(x:Option Nat)(h:ptrRd v=some x):v=pv x:=by
 unfold ptrRd at h;split at h
 ·cases h;rfl
 ·cases h;rfl
 ·cases h
theorem pd_inj(x y:Option Nat)(h:pd x=pd y):x=y:=by
 cases x <;> cases y <;> simp[pd] at h ⊢
 omega
def ptrE:El (Option Nat):=⟨pv,ptrRd,ptrRd_pv,pv_ptrRd,pd,pd_inj⟩
abbrev i64E:El Int:=P14.intE
abbrev Pm(w:World)(mb c:Nat)(m:Int→Option (Option Nat)):Prop:=Gm intK ptrE w mb c m
abbrev Um(w:World)(mb c:Nat)(m:Int→Option Int):Prop:=Gm intK i64E w mb c m
theorem keys_spec{α:Type}{E:El α}{w:World}{mb c:Nat}{m:Int→Option α}{D:DataW Unit}(h1:w.ownsMap Tryz.prog 3 E.R mb c D)(h2:Tells intK E D c m):
  (intKeys D).Nodup∧(∀ x,x ∈ intKeys D↔(m x).isSome=true∧(Lit.int .i64 x).wf=true)∧(intKeys D).length=c:=by
 obtain⟨es,rfl,hp⟩:=h1.tidy (int_keyed Tryz.underlying3);obtain⟨es',hD',hko⟩:=h1.keysOf;obtain rfl:es=es':=by simpa using hD'
 have hk:∀ p ∈ es,∃ x,p.1=.int .i64 x:=fun p hp=>by
  obtain⟨v,hv⟩:=hko p hp;obtain⟨x,_,hx,_⟩:=Maps.keyOf_i64 Tryz.underlying3 hv;exact⟨x,hx⟩
 refine⟨?_,fun x=>?_,?_⟩
 ·simp only[intKeys]
  refine List.pairwise_map.2 (hp.imp_of_mem fun {p q} hp' hq' hne e=>hne ?_);obtain⟨a,ha⟩:=hk p hp';obtain⟨b,hb⟩:=hk q hq';rw[ha,hb] at e ⊢;exact congrArg _ e
 ·have hwf:=intKeys_wf h1 Tryz.underlying3
  refine⟨fun hx=>?_,fun ⟨hx,hw⟩=>?_⟩
  ·have hw:=hwf x hx
   refine⟨?_,hw⟩;have h3:Maps.has (.map es) (.int .i64 x)=(m x).isSome:=h2.has x hw;rw[← h3,has_eq,List.any_eq_true];simp only[intKeys] at hx;obtain⟨p,hp',rfl⟩:=List.mem_map.1 hx;obtain⟨a,ha⟩:=hk p hp';exact⟨p,hp',by rw[ha];simp[Lit.sameKey,Go.intOf]⟩
  ·have h3:Maps.has (.map es) (.int .i64 x)=(m x).isSome:=h2.has x hw
   rw[← h3,has_eq,List.any_eq_true] at hx;simp only[intKeys];rw[List.mem_map];obtain⟨p,hp',hs⟩:=hx;obtain⟨a,ha⟩:=hk p hp';rw[ha] at hs;exact⟨p,hp',by rw[ha];simpa[Lit.sameKey,Go.intOf] using hs⟩
 ·have h3:=h2.size
  rw[Maps.size_eq] at h3;simp only[intKeys,List.length_map];exact h3
theorem nodup_le:∀ (n:Nat) (l:List Int),l.Nodup→(∀ x ∈ l,0≤x∧x < (n:Int))→l.length≤n:=by
 intro n
 induction n with
 | zero=>
  intro l _ h;cases l with
  | nil=>simp
  | cons a t=>have:=h a (by simp);omega
 | succ n ih=>
  intro l hn h;have h1:=ih (l.filter (fun x=>!decide (x=(n:Int)))) (hn.filter _) (fun x hx=>by
   rw[List.mem_filter] at hx;have h2:=h x hx.1;have h3:x≠(n:Int):=by simpa using hx.2
   push_cast at h2;omega)
  have h2:l.length≤(l.filter (fun x=>!decide (x=(n:Int)))).length+1:=by
   clear h1 h ih
   induction l with
   | nil=>simp
   | cons a t iht=>
    rw[List.nodup_cons] at hn;by_cases e:a=(n:Int)
    ·subst e
     have:t.filter (fun x=>!decide (x=(n:Int)))=t:=by
      rw[List.filter_eq_self];intro x hx;simp;rintro rfl;exact hn.1 hx
     simp[this]
    ·have:=iht hn.2
     simp[e];omega
  omega
theorem Gm.count{α:Type}{E:El α}{w:World}{mb c:Nat}{m:Int→Option α}(h:Gm intK E w mb c m)(n:Nat)(hk:∀ k,(m k).isSome=true→0≤k∧k < (n:Int)):c≤n:=by
 obtain⟨D,h1,h2⟩:=h;obtain⟨k1,k2,k3⟩:=keys_spec h1 h2;rw[← k3];exact nodup_le n _ k1 fun x hx=>hk x ((k2 x).1 hx).1
theorem sorted_eq{l l':List Int}(h:l.Nodup)(hs:l'.Pairwise (· < ·))(hm:∀ x,x ∈ l↔x ∈ l'):l.mergeSort (fun x y=>decide (x≤y))=l':=by
 have hn:l'.Nodup:=hs.imp fun h=>by omega
 have hp:l.Perm l':=(List.perm_ext_iff_of_nodup h hn).2 hm;rw[mergeSort_of_perm_i hp];exact List.mergeSort_of_pairwise (hs.imp fun h=>by simp[leI];omega)
end Go.Proofs.YtigeldkbfbcpmaaGreat
