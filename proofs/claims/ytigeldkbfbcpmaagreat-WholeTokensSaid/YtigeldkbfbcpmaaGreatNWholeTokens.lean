/- The walk of WholeTokens: the body of the law's function, step by step, returns true. -/
import Derived.Deep.CutRange
import Derived.Test.YtigeldkbfbcpmaaGreatM45
import Derived.Test.YtigeldkbfbcpmaaGreatM41
import Derived.Test.YtigeldkbfbcpmaaGreatM29
set_option linter.unusedVariables false
set_option linter.unusedSectionVars false
set_option linter.unusedSimpArgs false
set_option maxRecDepth 100000
set_option maxHeartbeats 8000000
namespace Go.Proofs.YtigeldkbfbcpmaaGreat
open Go.RowKit Go.Kpt
def bump(l:List Int):List Int:=l.set (l.length - 1) (l.getD (l.length - 1) 0+1)
def tick0(cs:List Int)(k:Int):List Int:=if k=0 then cs++[0] else cs
def cold1(cs:List Int)(x:Stp):List Int:=if x.2.1.1=3 then bump (tick0 cs (x.1 0)) else tick0 cs (x.1 0)
def coldsOf(l:List Stp):List Int:=l.foldl cold1 [0]
theorem bump_len(l:List Int):(bump l).length=l.length:=by simp[bump]
theorem cold1_len(cs:List Int)(x:Stp):cs.length≤(cold1 cs x).length∧(cold1 cs x).length≤cs.length+1:=by
 unfold cold1 tick0;split <;> (try rw[bump_len]) <;> split <;> simp
def from_(cs:List Int)(i:Nat):Int:=(cs.drop i).sum
theorem sum_set(l:List Int):∀ (i:Nat) (v:Int),i < l.length→(l.set i v).sum=l.sum - l.getD i 0+v:=by
 induction l with
 | nil=>intro i v h;simp at h
 | cons a l ih=>
  intro i v h;cases i with
  | zero=>simp;omega
  | succ i=>
   have:=ih i v (by simpa using h);simp only[List.set_cons_succ,List.sum_cons,this,List.getD_cons_succ];omega
theorem bump_from(cs:List Int)(h:0 < cs.length)(i:Nat)(hi:i < cs.length):from_ (bump cs) i=from_ cs i+1:=by
 unfold from_ bump;rw[List.drop_set,if_neg (by omega),sum_set _ _ _ (by simp;omega)];have:(cs.drop i).getD (cs.length - 1 - i) 0=cs.getD (cs.length - 1) 0:=by
  simp only[List.getD_eq_getElem?_getD,List.getElem?_drop];rw[show i+(cs.length - 1 - i)=cs.length - 1 by omega]
 rw[this];omega
theorem bump_take(cs:List Int)(i j:Nat)(h:i+j < cs.length):((bump cs).drop i).take j=(cs.drop i).take j:=by
 unfold bump;rw[List.drop_set,if_neg (by omega),List.take_set_of_le (by omega)]
structure TokI (size refill:Int) (cs:List Int) (t:Int):Prop where
 len:0 < cs.length
 t0:0≤t∧t≤size
 sums:∀ i,i < cs.length→from_ cs i+t≤size+refill*((cs.length:Int) - 1 - i)
 done:∀ i w,i+w+1 < cs.length→((cs.drop i).take (w+1)).sum≤size+refill*w
theorem TokI.start{size refill:Int}(h:0≤size)(hr:0≤refill):TokI size refill [0] size:=
 ⟨by simp,⟨h,Int.le_refl _⟩,fun i hi=>by
  have:i=0:=by simpa using hi
  subst this;show (0:Int)+0+size≤_;simp,fun i w h=>by simp at h⟩
theorem TokI.tick{size refill t t':Int}{cs:List Int}(h:TokI size refill cs t)(hr:0≤refill)(h0:0≤t')(h1:t'≤size)(h2:t'≤t+refill):TokI size refill (cs++[0]) t':=by
 refine⟨by simp,⟨h0,h1⟩,fun i hi=>?_,fun i w hw=>?_⟩
 ·simp only[List.length_append,List.length_singleton] at hi ⊢
  rcases Nat.lt_or_ge i cs.length with hl|hl
  ·have e:from_ (cs++[0]) i=from_ cs i:=by
    unfold from_;rw[List.drop_append_of_le_length (by omega)];simp
   have hs:=h.sums i hl;rw[e];have e2:refill*(((cs.length+1:Nat):Int) - 1 - i)=refill*((cs.length:Int) - 1 - i)+refill:=by
    rw[show (((cs.length+1:Nat):Int) - 1 - i)=((cs.length:Int) - 1 - i)+1 by omega,Int.mul_add,Int.mul_one]
   omega
  ·obtain rfl:i=cs.length:=by omega
   have e:from_ (cs++[0]) cs.length=0:=by unfold from_;simp
   rw[e,show (((cs.length+1:Nat):Int) - 1 - cs.length)=0 by omega,Int.mul_zero];omega
 ·simp only[List.length_append,List.length_singleton] at hw
  rw[List.drop_append_of_le_length (by omega),List.take_append_of_le_length (by simp;omega)];rcases Nat.lt_or_ge (i+w+1) cs.length with hl|hl
  ·exact h.done i w hl
  ·have hs:=h.sums i (by omega)
   have e:(cs.drop i).take (w+1)=cs.drop i:=List.take_of_length_le (by simp;omega);rw[e];have e2:((cs.length:Int) - 1 - i)=w:=by omega
   rw[e2] at hs;have:=h.t0;unfold from_ at hs;omega
theorem TokI.cold{size refill t:Int}{cs:List Int}(h:TokI size refill cs t)(h0:0 < t):TokI size refill (bump cs) (t - 1):=by
 refine⟨by rw[bump_len];exact h.len,⟨by omega,by have:=h.t0;omega⟩,fun i hi=>?_,fun i w hw=>?_⟩
 ·rw[bump_len] at hi ⊢
  rw[bump_from cs h.len i hi];have:=h.sums i hi;omega
 ·rw[bump_len] at hw
  rw[bump_take cs i (w+1) (by omega)];exact h.done i w hw
theorem TokI.law{size refill t:Int}{cs:List Int}(h:TokI size refill cs t)(i w:Nat)(hw:i+w < cs.length):((cs.drop i).take (w+1)).sum≤size+refill*w:=by
 rcases Nat.lt_or_ge (i+w+1) cs.length with hl|hl
 ·exact h.done i w hl
 ·have hs:=h.sums i (by omega)
  have e:(cs.drop i).take (w+1)=cs.drop i:=List.take_of_length_le (by simp;omega);rw[e];have e2:((cs.length:Int) - 1 - i)=w:=by omega
  rw[e2] at hs;have:=h.t0;unfold from_ at hs;omega
structure TokS (s:St) (size refill t:Int):Prop where
 tok:s.tok 0=some ⟨size,refill,t⟩
 acc:∀ f x,s.fns f=some x→x.account=0
theorem TokS.tba{s u:St}{size refill t:Int}(h:TokS s size refill t)(k:Tba s u):TokS u size refill t:=
 ⟨by rw[k.tok];exact h.tok,fun f x hx=>by
  obtain⟨y,hy,e,-⟩:=k.acc f x hx;rw[e];exact h.acc f y hy⟩
theorem TokS.aside{s:St}{size refill t:Int}(h:TokS s size refill t)(o:Option (List Cmd))(a:Nat→Int):TokS { s with out:=o,ans:=a } size refill t:=⟨h.tok,h.acc⟩
theorem ansOf_not3(r:St×Nat):(ansOf r).2.1≠3:=by unfold ansOf;dsimp only;split;exact(by decide:(0:Int)≠3);exact(by decide:(1:Int)≠3)
theorem TokS.act{s:St}{size refill t:Int}{cs:List Int}(h:TokS s size refill t)(v:TokI size refill cs t)(hr:0≤refill)(e:P16.Evt)(h1:e 0≠1)(h2:e 0=2→e 5=0):
  ∃ t',TokS (actS s e).1 size refill t'∧TokI size refill (cold1 cs (e,(actS s e).2,[])) t':=by
 have plain:∀ (u:St) (x:Ans),Tba s u→x.1≠3→e 0≠0→∃ t',TokS u size refill t'∧TokI size refill (cold1 cs (e,x,[])) t':=fun u x k hx h0=>
  ⟨t,h.tba k,by unfold cold1 tick0;rw[if_neg hx,if_neg h0];exact v⟩
 unfold actS;split
 ·rename_i h0
  have e1:cold1 cs (e,(ansOf (tickS s,0)).2,[])=cs++[0]:=by
   unfold cold1 tick0;rw[if_neg (ansOf_not3 _),if_pos h0]
  rw[e1];by_cases hm:s.now=1099511627776
  ·refine⟨t,?_,v.tick hr v.t0.1 v.t0.2 (by omega)⟩
   show TokS (tickS s) _ _ _;rw[tickS_max hm];exact h
  ·refine⟨if t+refill≤size then t+refill else size,?_,v.tick hr ?_ ?_ ?_⟩
   ·refine TokS.tba ?_ (tba_tick hm)
    exact⟨by show Option.map bktTick (s.tok 0)=_;rw[h.tok];rfl,h.acc⟩
   ·have:=v.t0;split <;> omega
   ·split <;> omega
   ·split <;> omega
 rename_i h0;split
 ·rename_i hk
  refine⟨t,?_,by unfold cold1 tick0;rw[if_neg (ansOf_not3 _),if_neg h0];exact v⟩;show TokS (functionS s e).1 _ _ _;unfold functionS;split
  ·exact h
  split
  ·exact h
  split
  ·exact h
  split
  ·exact h
  split
  ·exact h
  refine TokS.tba (s:={ s with quo:=s.quo.setF (e 1).toNat ⟨true,(e 5).toNat,e 8,(s.quo.fs (e 1).toNat).bu⟩,fns:=fset s.fns (e 1).toNat (newFn s e) }) ⟨h.tok,fun f x hx=>?_⟩ (tba_keep _ _);have hx':fset s.fns (e 1).toNat (newFn s e) f=some x:=hx;unfold fset at hx';split at hx'
  ·cases hx'
   unfold newFn;split
   ·rename_i y hy;exact h.acc _ y hy
   ·show (e 5).toNat=0;rw[h2 hk];rfl
  ·exact h.acc f x hx'
 split
 ·exact plain _ _ (tba_host s e) (ansOf_not3 _) h0
 split
 ·exact plain _ _ (tba_drain s _) (ansOf_not3 _) h0
 split
 ·exact plain _ _ (tba_fail s _) (ansOf_not3 _) h0
 split
 ·rcases tba_call s (e 1) with ⟨k,hk⟩ | ⟨x,b,hx,hb,hb0,hk,k⟩
  ·exact plain _ _ k hk h0
  ·have ha:=h.acc _ x hx
   rw[ha,h.tok] at hb;cases hb
   have hb0:t≠0:=hb0;have hv:=v.t0;refine⟨t - 1,TokS.tba (s:={ s with tok:=tset s.tok x.account ⟨size,refill,t - 1⟩ }) ⟨?_,h.acc⟩ k,?_⟩
   ·show tset s.tok x.account _ 0=_
    rw[ha];rfl
   ·unfold cold1 tick0
    rw[if_pos hk,if_neg h0];exact v.cold (by omega)
 split
 ·exact plain _ _ (tba_booted s _) (ansOf_not3 _) h0
 split
 ·exact plain _ _ (tba_broke s _) (ansOf_not3 _) h0
 ·exact plain _ _ (tba_done s _) (ansOf_not3 _) h0
theorem TokS.do_{s:St}{size refill t:Int}{cs:List Int}(h:TokS s size refill t)(v:TokI size refill cs t)(hr:0≤refill)(e:P16.Evt)(h1:e 0≠1)(h2:e 0=2→e 5=0)(hri:P16.right e):
  ∃ t',TokS (doS s e).1 size refill t'∧TokI size refill (cold1 cs (e,(doS s e).2)) t':=by
 unfold doS;rw[if_pos hri];dsimp only;obtain⟨t',a,b⟩:=(h.aside (some []) s.ans).act v hr e h1 h2;exact⟨t',a.aside _ _,b⟩
theorem TokS.all{size refill:Int}(hr:0≤refill):∀ (l:List P16.Evt) (s:St) (t:Int) (cs:List Int),TokS s size refill t→TokI size refill cs t→(∀ e ∈ l,P16.right e∧e 0≠1∧(e 0=2→e 5=0)) →
  ∃ t',TokI size refill ((evs s l).2.foldl cold1 cs) t':=by
 intro l
 induction l with
 | nil=>intro s t cs _ v _;exact⟨t,v⟩
 | cons e l ih=>
  intro s t cs h v hl;obtain⟨r1,r2,r3⟩:=hl e (List.mem_cons_self ..);obtain⟨t',a,b⟩:=h.do_ v hr e r2 r3 r1;exact ih _ t' _ a b (fun x hx=>hl x (List.mem_cons_of_mem _ hx))
def accE(limit size refill:Int):P16.Evt:=fun j=>if j=0 then 1 else if j=2 then limit else if j=3 then size else if j=4 then refill else 0
theorem accE_right{limit size refill:Int}(h:0≤limit∧limit≤1000)(h1:0≤size∧size≤1000)(h2:0≤refill∧refill≤1000):P16.right (accE limit size refill):=by
 refine⟨⟨(by decide:(0:Int)≤1),(by decide:(1:Int)≤9)⟩,?_,?_⟩
 ·intro j hj
  have:P16.parts (accE limit size refill 0)=[1,2,3,4]:=rfl;rw[this] at hj;simp only[List.mem_cons,List.not_mem_nil,or_false] at hj;rcases hj with rfl|rfl|rfl|rfl
  ·exact⟨(by decide:(0:Int)≤0),(by decide:(0:Int)≤2147483647)⟩
  ·exact⟨h.1,by show limit≤_;omega⟩
  ·exact⟨h1.1,by show size≤_;omega⟩
  ·exact⟨h2.1,by show refill≤_;omega⟩
 ·intro j
  revert j
  have:P16.parts (accE limit size refill 0)=[1,2,3,4]:=rfl;rw[this];intro j;rcases j with ⟨j,hj⟩
  match j,hj with
  | 0,_=>exact .inl rfl
  | 1,_=>exact .inr (.inl (show (1:Fin 10) ∈ ([1,2,3,4]:List (Fin 10)) by decide))
  | 2,_=>exact .inr (.inl (show (2:Fin 10) ∈ ([1,2,3,4]:List (Fin 10)) by decide))
  | 3,_=>exact .inr (.inl (show (3:Fin 10) ∈ ([1,2,3,4]:List (Fin 10)) by decide))
  | 4,_=>exact .inr (.inl (show (4:Fin 10) ∈ ([1,2,3,4]:List (Fin 10)) by decide))
  | 5,_=>exact .inr (.inr rfl)
  | 6,_=>exact .inr (.inr rfl)
  | 7,_=>exact .inr (.inr rfl)
  | 8,_=>exact .inr (.inr rfl)
  | 9,_=>exact .inr (.inr rfl)
theorem rs_l0(a:Nat):∀ k,P11.rs P11.l0.fs a k=0:=by
 intro k
 induction k with
 | zero=>rfl
 | succ k ih=>unfold P11.rs;rw[ih];rfl
theorem bnd_id{x:Int}(h:0≤x∧x≤1000):P10.bnd x=x:=by unfold P10.bnd;split <;> (try split) <;> omega
theorem acc_first{limit size refill:Int}(h:0≤limit∧limit≤1000)(h1:0≤size∧size≤1000)(h2:0≤refill∧refill≤1000):
  (doS s0 (accE limit size refill)).2.1=(0,0,0,0)∧(doS s0 (accE limit size refill)).1={ s0 with quo:=P11.l0.setA 0 ⟨true,limit⟩,tok:=tset s0.tok 0 ⟨size,refill,size⟩,out:=none,ans:=(doS s0 (accE limit size refill)).1.ans }:=by
 have hr:=accE_right h h1 h2;unfold doS;rw[if_pos hr];have e1:actS { s0 with out:=some [] } (accE limit size refill)=ansOf (accountS { s0 with out:=some [] } (accE limit size refill)):=by
  unfold actS;have hk:accE limit size refill 0=1:=rfl;rw[hk,if_neg (by decide),if_pos rfl]
 have e2:accountS { s0 with out:=some [] } (accE limit size refill)=(accT { s0 with out:=some [] } (accE limit size refill),0):=by
  refine accountS_yes ?_ ?_
  ·show ¬ (size > 1000∨refill > 1000∨(0:Int)≥16∨limit > 1000)
   omega
  ·show ¬ limit < P11.rs P11.l0.fs 0 64
   rw[rs_l0];omega
 rw[e1,e2];refine⟨rfl,?_⟩;have e3:newTok { s0 with out:=some [] } (accE limit size refill)=⟨size,refill,size⟩:=by
  show (⟨P10.bnd size,P10.bnd refill,P10.bnd size⟩:Bkt)=_;rw[bnd_id h1,bnd_id h2]
 show ({ s0 with quo:=_,tok:=tset s0.tok 0 (newTok { s0 with out:=some [] } (accE limit size refill)),out:=none,ans:=_ }:St)=_;rw[e3];rfl
theorem tokens_law{size refill:Int}(h1:0≤size∧size≤1000)(h2:0≤refill∧refill≤1000)(l:List P16.Evt)(hl:∀ e ∈ l,P16.right e∧e 0≠1∧(e 0=2→e 5=0))(i w:Nat)(hw:i+w < (coldsOf (evs s0 (accE 1000 size refill :: l)).2).length):
  (((coldsOf (evs s0 (accE 1000 size refill :: l)).2).drop i).take (w+1)).sum≤size+refill*w:=by
 obtain⟨a1,a2⟩:=acc_first (limit:=1000) (by omega) h1 h2;have hT:TokS (doS s0 (accE 1000 size refill)).1 size refill size:=by
  rw[a2];exact⟨rfl,fun f x hx=>by cases hx⟩
 have e:coldsOf (evs s0 (accE 1000 size refill :: l)).2=(evs (doS s0 (accE 1000 size refill)).1 l).2.foldl cold1 [0]:=by
  unfold coldsOf;simp only[evs,List.foldl_cons];congr 1
  unfold cold1 tick0;dsimp only;rw[a1];show (if (0:Int)=3 then _ else (if (1:Int)=0 then _ else _))=_;rw[if_neg (by decide),if_neg (by decide)]
 obtain⟨t',v⟩:=TokS.all h2.1 l _ size [0] hT (TokI.start h1.1 h2.1) hl;rw[e] at hw ⊢;exact v.law i w hw
def tokB(f:P16.Evt):Bool:=f 0 != 1 && (f 0 != 2 || f 5 == 0)
def tokL(l:List P16.Evt):List P16.Evt:=l.filter tokB
theorem tokL_next(l:List P16.Evt)(i:Nat)(h:i < l.length):tokL (l.take (i+1))=tokL (l.take i)++(if tokB (l.getD i P16.noev)=true then [l.getD i P16.noev] else []):=by
 rw[P16.take_snoc l i h P16.noev];unfold tokL;rw[List.filter_append];by_cases c:tokB (l.getD i P16.noev)=true
 ·rw[if_pos c,List.filter_cons_of_pos c];rfl
 ·rw[if_neg c,List.filter_cons_of_neg c];rfl
theorem tokL_len(l:List P16.Evt):(tokL l).length≤l.length:=List.length_filter_le _ _
theorem tok_right{l:List P16.Evt}:∀ e ∈ P16.rlm (tokL l),P16.right e∧e 0≠1∧(e 0=2→e 5=0):=fun e he=>by
 have h1:=P16.rlm_right _ e he;have h2:e ∈ tokL l:=(List.mem_filter.1 he).1;have h3:=(List.mem_filter.1 h2).2;unfold tokB at h3;simp only[Bool.and_eq_true,bne_iff_ne,ne_eq,Bool.or_eq_true,beq_iff_eq] at h3;exact⟨h1,h3.1,fun h=>h3.2.resolve_left (fun h'=>h' h)⟩
theorem rlm_acc{limit size refill:Int}(h:0≤limit∧limit≤1000)(h1:0≤size∧size≤1000)(h2:0≤refill∧refill≤1000)(l:List P16.Evt):P16.rlm (accE limit size refill :: l)=accE limit size refill :: P16.rlm l:=by
 unfold P16.rlm;rw[List.filter_cons_of_pos];exact decide_eq_true ⟨accE_right h h1 h2,(by decide:(0:Int)≤40)⟩
theorem info3w:(Tryz.prog.info? 3).map (fun i=>(i.zero,i.size,i.bytes))=some (some (.int .i64 0),1,8):=by kernel_rfl
theorem cold_next(out:List Stp)(i:Nat)(h:i < out.length):(out.take (i+1)).foldl cold1 [0]=cold1 ((out.take i).foldl cold1 [0]) (out.getD i nstp):=by
 rw[P16.take_snoc out i h nstp,List.foldl_append];rfl
structure ColdI (cs:List Int) (i:Nat):Prop where
 len:0 < cs.length∧cs.length≤i+1
 bd:∀ j,0≤cs.getD j 0∧cs.getD j 0≤i
theorem ColdI.tick{cs:List Int}{i:Nat}(h:ColdI cs i)(k:Int):0 < (tick0 cs k).length∧(tick0 cs k).length≤i+2∧∀ j,0≤(tick0 cs k).getD j 0∧(tick0 cs k).getD j 0≤i:=by
 obtain⟨l1,l2⟩:=h.len;unfold tick0;split
 ·refine⟨by simp,by simp;omega,fun j=>?_⟩
  have hb:=h.bd j;rw[List.getD_eq_getElem?_getD] at hb ⊢;rcases Nat.lt_or_ge j cs.length with hj|hj
  ·rw[List.getElem?_append_left hj];exact hb
  ·rw[List.getElem?_append_right hj]
   rcases Nat.eq_zero_or_pos (j - cs.length) with e|e
   ·rw[e];simp
   ·rw[List.getElem?_eq_none (by simp;omega)];simp
 ·exact⟨l1,by omega,h.bd⟩
theorem ColdI.next{cs:List Int}{i:Nat}(h:ColdI cs i)(x:Stp):ColdI (cold1 cs x) (i+1):=by
 obtain⟨a,b,c⟩:=h.tick (x.1 0);unfold cold1;split
 ·refine⟨by rw[bump_len];omega,fun j=>?_⟩
  unfold bump;rw[List.getD_eq_getElem?_getD,List.getElem?_set];have hc:=c j;rw[List.getD_eq_getElem?_getD] at hc;split
  ·split
   ·have:=c ((tick0 cs (x.1 0)).length - 1)
    simp only[Option.getD_some];omega
   ·simp;omega
  ·omega
 ·exact⟨by omega,fun j=>by have:=c j;omega⟩
theorem ColdI.all(out:List Stp):∀ i,i≤out.length→ColdI ((out.take i).foldl cold1 [0]) i:=by
 intro i
 induction i with
 | zero=>intro _;exact⟨by simp,fun j=>by rw[List.take_zero,List.foldl_nil];cases j <;> simp⟩
 | succ i ih=>intro h;rw[cold_next out i h];exact(ih (by omega)).next _
theorem getD_nonneg_sum(l:List Int)(h:∀ x ∈ l,0≤x):0≤l.sum:=by
 induction l with
 | nil=>simp
 | cons a l ih=>
  have h1:=h a (by simp);have h2:=ih (fun x hx=>h x (List.mem_cons_of_mem _ hx));rw[List.sum_cons];omega
theorem win_sum(cs:List Int)(i w:Nat)(h:i+w < cs.length):((cs.drop i).take (w+1)).sum=((cs.drop i).take w).sum+cs.getD (i+w) 0:=by
 rw[P16.take_snoc (cs.drop i) w (by simp;omega) 0,List.sum_append];simp[List.getD_eq_getElem?_getD]
theorem hown_q{w:World}{b g:Nat}{v:Value}{xs:List Int}{cs:Array Value}(h:OwnI w b 3 .i64 v xs)(hq:w.heap[g]?=some (.cells cs 41 (0,0)))(hg:v.ownBlock=some g):False:=by
 rcases h.2 with ⟨rfl,-⟩|⟨g',c',cur,rfl,-,hcc,-⟩
 ·cases hg
 ·cases hg
  rw[hcc] at hq;cases hq
theorem wholeTokens_any(a0 a1:Int)(a:Option Addr)(ca:Nat)(la:List P16.Evt)(w:World)(ha:P16.SE w (fun x=>x < w.heap.size) a la):
  Calls Tryz.prog 4 #[.int .i64 a0,.int .i64 a1,.slice a la.length ca] w fun e w'=>e=.returned (.bool true)∧Below w.heap.size w w':=by
 obtain⟨j0,hj0,jz0,jz1,jz2⟩:=info_parts info3w;have hm1:=i64_and15 a0;have hm2:=i64_and3 a1;obtain⟨size,hsz⟩:∃ k:Nat,a0 % 16=(k:Int):=⟨(a0 % 16).toNat,by omega⟩;obtain⟨refill,hrf⟩:∃ k:Nat,a1 % 4=(k:Int):=⟨(a1 % 4).toNat,by omega⟩;have hs15:size≤15:=by omega
 have hr3:refill≤3:=by omega
 rw[hsz] at hm1;rw[hrf] at hm2;clear hsz hrf;obtain⟨n,hn⟩:∃ n,la.length=n:=⟨_,rfl⟩;rw[hn];go_enter Tryz.func4,Tryz.ntmps4
 go_wp2_with fail
 refine(alive_any _).mono ?_;rintro e w1 ⟨rfl,hB1⟩;have ha1:=ha.kept (Kept.of_below (F:=fun _=>False) hB1) (fun _ _ h=>h);have hz1:=hB1.size;go_wp2_with fail
 refine(P16.few_any _ _ _ _).mono ?_;rintro e w2 ⟨rfl,rfl⟩;by_cases hla:n≤150
 ·rw[decide_eq_true hla]
  have hE0:P16.OwnE (w2.alloc (.cells (P16.evc (accE 1000 size refill)) 28)) w2.heap.size (.slice (some ⟨w2.heap.size,0,none⟩) 1 1) (accE 1000 size refill :: tokL (la.take 0)):=OwnE.one w2 _;have k0:Kept (fun _=>False) w2 (w2.alloc (.cells (P16.evc (accE 1000 size refill)) 28)):=(Kept.refl _ _).alloc _;have ha3:=ha1.kept k0 (fun _ _ h=>h);obtain⟨w3,hw3⟩:∃ w3,w2.alloc (.cells (P16.evc (accE 1000 size refill)) 28)=w3:=⟨_,rfl⟩;rw[hw3] at hE0 k0 ha3;have hB3:Below w.heap.size w w3:=hB1.trans (k0.below hz1 (fun _ _ h=>h));have hz3:=k0.size;have hw3':w2.alloc (.cells #[.int .i64 1,.int .i64 0,.int .i64 1000,.int .i64 size,.int .i64 refill,.int .i64 0,.int .i64 0,.int .i64 0,.int .i64 0,.int .i64 0] 28)=w3:=hw3;clear hw3 k0;go_wp2_with fail
  go_loopw [7,34] (fun v k wr=>∃ i:Nat,k=.int .i64 i∧i≤n∧P16.OwnE wr w2.heap.size v (accE 1000 size refill :: tokL (la.take i))∧Kept (fun x=>w2.heap.size≤x) w3 wr) (fun _ k _=>n - (intOf k).toNat)
  case atStart=>exact⟨0,rfl,by omega,hE0,Kept.refl _ _⟩
  case round=>
   obtain⟨i,rfl,hi,hv,hK⟩:=hrel;clear hE0 hw3';by_cases hin:i < n
   ·obtain⟨bk,off,rfl,hbk,e0,e1,e2,e3,e4,e5,e6,e7,e8,e9⟩:=P16.SE.ten (ha3.kept hK (fun x hx h=>by omega)) i (by omega)
    have hnx:=tokL_next la i (by omega);have hlen:=tokL_len (la.take i);rw[List.length_take] at hlen;generalize la.getD i P16.noev=f at *;have hE:P16.Ev (wr.alloc (.cells (P16.evc f) 28)) wr.heap.size f:=P16.Ev.new _ _;have hv1:=hv.alloc (.cells (P16.evc f) 28);have hK1:=hK.alloc (.cells (P16.evc f) 28);have hqb:w2.heap.size≤wr.heap.size:=by have:=hK.size;omega
    obtain⟨q,hq⟩:∃ q,wr.heap.size=q:=⟨_,rfl⟩;obtain⟨wa,hwa⟩:∃ wa,wr.alloc (.cells (P16.evc f) 28)=wa:=⟨_,rfl⟩;rw[hwa] at hE hv1 hK1;rw[hq] at hE hqb;simp only[P16.evc] at hwa;go_upto_region 11 with fail
    clear hwa hv hK e0 e1 e2 e3 e4 e5 e6 e7 e8 e9;obtain⟨e0,e1,e2,e3,e4,e5,e6,e7,e8,e9⟩:=hE.ten;have hza:=hK1.size;have hE5:P16.Ev (wa.alloc (.cells (P16.evc f) 28)) wa.heap.size f:=P16.Ev.new _ _;have hv5:=hv1.alloc (.cells (P16.evc f) 28);have hK5:=hK1.alloc (.cells (P16.evc f) 28);have hz5:w2.heap.size≤(wa.alloc (.cells (P16.evc f) 28)).heap.size:=by have:=hK5.size;omega
    obtain⟨w5,hw5⟩:∃ w5,wa.alloc (.cells (P16.evc f) 28)=w5:=⟨_,rfl⟩;rw[hw5] at hE5 hv5 hK5 hz5;simp only[P16.evc] at hw5;have yes:tokB f=true→∀ v' w',P16.OwnE w' w2.heap.size v' ((accE 1000 size refill :: tokL (la.take i))++[f])→P16.OwnE w' w2.heap.size v' (accE 1000 size refill :: tokL (la.take (i+1))):=fun h v' w' h'=>by
     rw[hnx,if_pos h];exact h'
    have no:¬ tokB f=true→P16.OwnE wa w2.heap.size u7 (accE 1000 size refill :: tokL (la.take (i+1))):=fun h=>by
     rw[hnx,if_neg h,List.append_nil];exact hv1
    clear hnx;have hll:(accE 1000 size refill :: tokL (la.take i)).length≤1000:=by rw[List.length_cons];omega
    by_cases c1:f 0=1
    ·have hno:=no (by unfold tokB;rw[c1];exact Bool.noConfusion)
     have d1:(f 0 != 1)=false:=by rw[c1];rfl
     clear hv1 hE5 hv5 hK5 hz5 hw5 yes no c1;go_wp2_with fail
     exact⟨⟨i+1,rfl,by omega,hno,hK1⟩,by simp[intOf];omega⟩
    ·have d1:(f 0 != 1)=true:=by simpa using c1
     by_cases c2:f 0=2
     ·have d2:(f 0 != 2)=false:=by rw[c2];rfl
      by_cases c3:f 5=0
      ·have d3:(f 5 == 0)=true:=by rw[c3];rfl
       have hy:=yes (by unfold tokB;rw[d1,d2,d3];rfl);clear no yes hv1 hK1 c1 c2 c3;go_wp2_with (at_builtin;go_loud (
        refine P16.wpList_append_ev rfl _ _ rfl w2.heap.size u7 (accE 1000 size refill :: tokL (la.take i)) rfl hv5 _ _ f rfl hE5 (by omega) hz5 ?_;intro v6 w6 hown6 hgrow hloc;have hK6:Kept (fun x=>w2.heap.size≤x) w3 w6:=hK5.trans (Kept.of_grown hgrow) (fun x _ h=>(hv5.lt x h.symm).1);have hv6:=hy v6 w6 hown6;clear hown6 hgrow hloc hv5 hE5 hK5 hw5 hy))
       exact⟨⟨i+1,rfl,by omega,hv6,hK6⟩,by simp[intOf];omega⟩
      ·have d3:(f 5 == 0)=false:=by simpa using c3
       have hno:=no (by unfold tokB;rw[d1,d2,d3];exact Bool.noConfusion);clear hv1 hE5 hv5 hK5 hz5 hw5 yes no c1 c2 c3;go_wp2_with fail
       exact⟨⟨i+1,rfl,by omega,hno,hK1⟩,by simp[intOf];omega⟩
     ·have d2:(f 0 != 2)=true:=by simpa using c2
      have hy:=yes (by unfold tokB;rw[d1,d2];rfl);clear no yes hv1 hK1 c1 c2;go_wp2_with (at_builtin;go_loud (
       refine P16.wpList_append_ev rfl _ _ rfl w2.heap.size u7 (accE 1000 size refill :: tokL (la.take i)) rfl hv5 _ _ f rfl hE5 (by omega) hz5 ?_;intro v6 w6 hown6 hgrow hloc;have hK6:Kept (fun x=>w2.heap.size≤x) w3 w6:=hK5.trans (Kept.of_grown hgrow) (fun x _ h=>(hv5.lt x h.symm).1);have hv6:=hy v6 w6 hown6;clear hown6 hgrow hloc hv5 hE5 hK5 hw5 hy))
      exact⟨⟨i+1,rfl,by omega,hv6,hK6⟩,by simp[intOf];omega⟩
   ·obtain rfl:i=n:=by omega
    rw[List.take_of_length_le (by omega)] at hv;have hBr:Below w.heap.size w wr:=hB3.trans (hK.below hB3.size (fun x hx h=>by omega));have hzr:=hBr.size;obtain⟨av,cv,rfl,-,-,hse⟩:=hv.se;have hlen:=tokL_len la;have hst:=steps_any av cv (accE 1000 size refill :: tokL la) (by rw[List.length_cons];omega) wr (hse.mono (fun x hx=>hx.2));rw[rlm_acc (by omega) (by omega) (by omega)] at hst;have hlaw:=fun i k hk=>tokens_law (size:=size) (refill:=refill) (by omega) (by omega) (P16.rlm (tokL la)) tok_right i k hk;have hel:=evs_len s0 (accE 1000 size refill :: P16.rlm (tokL la));have hrl:=P16.rlm_len (tokL la);rw[List.length_cons] at hel;generalize (evs s0 (accE 1000 size refill :: P16.rlm (tokL la))).2=out at *;obtain⟨m,hm⟩:∃ m,(accE 1000 size refill :: tokL la).length=m:=⟨_,rfl⟩;rw[hm] at hst ⊢;have HL:=Lib.hid hlaw;clear hv hse hlaw ha3 hB3 hK ha1;go_wp2_with fail
    refine hst.mono ?_;clear hst;rintro e w4 ⟨vo,rfl,hT,hB4⟩;have hB5:Below w.heap.size w w4:=hBr.trans (hB4.mono hzr);obtain⟨ao,co,rfl,hco,hrows⟩:=hT.rows;have hol:out.length≤151:=by omega
    obtain⟨no,hno⟩:∃ no,out.length=no:=⟨_,rfl⟩;rw[hno] at hco hol ⊢;have HR:=Lib.hid hrows;clear hT hrows hB4 hBr;have hO5:OwnI (w4.alloc (.cells #[.int .i64 0] 3)) w4.heap.size 3 .i64 (.slice (some ⟨w4.heap.size,0,none⟩) 1 1) ((out.take 0).foldl cold1 [0]):=OwnI.one w4 3 .i64 0;have k5:Kept (fun _=>False) w4 (w4.alloc (.cells #[.int .i64 0] 3)):=(Kept.refl _ _).alloc _;obtain⟨w5,hw5⟩:∃ w5,w4.alloc (.cells #[.int .i64 0] 3)=w5:=⟨_,rfl⟩;rw[hw5] at hO5 k5;go_wp2_with fail
    go_loopw [12,66] (fun v k wr=>∃ i:Nat,k=.int .i64 i∧i≤no∧OwnI wr w4.heap.size 3 .i64 v ((out.take i).foldl cold1 [0])∧Kept (fun x=>w4.heap.size≤x) w5 wr) (fun _ k _=>no - (intOf k).toNat)
    case atStart=>exact⟨0,rfl,by omega,hO5,Kept.refl _ _⟩
    case round=>
     obtain⟨i,rfl,hi,hv,hK⟩:=hrel;clear hO5 hw5;by_cases hin:i < no
     ·obtain⟨bk,va,vc,rfl,-,hbk,-,hR⟩:=HR.out i (by omega)
      have hR':=(hR.kept k5 (fun h=>h)).kept hK (fun h=>by omega);have hCI:=ColdI.all out i (by omega);have HN:=Lib.hid (cold_next out i (by omega));generalize out.getD i nstp=x at *;obtain⟨f,⟨x0,x1,x2,x3⟩,lx⟩:=x;have HT:=Lib.hid (hCI.tick (f 0));have hA:(wr.alloc (.cells (c15 (f,(x0,x1,x2,x3),lx) va vc) 41)).heap[wr.heap.size]?=some (.cells (c15 (f,(x0,x1,x2,x3),lx) va vc) 41 (0,0)):=heap_alloc_new _ _;have hv1:=hv.alloc (.cells (c15 (f,(x0,x1,x2,x3),lx) va vc) 41);have hK1:=hK.alloc (.cells (c15 (f,(x0,x1,x2,x3),lx) va vc) 41);have hqb:w4.heap.size≤wr.heap.size:=by have:=hK.size;have:=k5.size;omega
      obtain⟨q,hq⟩:∃ q,wr.heap.size=q:=⟨_,rfl⟩;obtain⟨wa,hwa⟩:∃ wa,wr.alloc (.cells (c15 (f,(x0,x1,x2,x3),lx) va vc) 41)=wa:=⟨_,rfl⟩;rw[hwa] at hA hv1 hK1;rw[hq] at hA hqb;obtain⟨r0,r1,r2,r3,r4,r5,r6,r7,r8,r9,r10,r11,r12,r13,r14⟩:=hR';dsimp only at r0 r1 r2 r3 r4 r5 r6 r7 r8 r9 r10 r11 r12 r13 r14 HT;simp only[c15] at hwa hA;go_upto_region 21 with fail
      clear hwa hv hK r0 r1 r2 r3 r4 r5 r6 r7 r8 r9 r10 r11 r12 r13 r14 hR;have y0:=cell_of (j:=0) hA;have y10:=cell_of (j:=10) hA;have hza:=hK1.size;have hzb:=k5.size;by_cases ct:f 0=0
      ·have d1:(f 0 == 0)=true:=by rw[ct];rfl
       have HQ:=Lib.hid hA;have et:tick0 ((out.take i).foldl cold1 [0]) (f 0)=(out.take i).foldl cold1 [0]++[0]:=by unfold tick0;rw[if_pos ct]
       rw[et] at HT;have hlen0:=hCI.len;have hv5:=hv1.alloc (.cells #[.int .i64 0] 3);have hK5:=hK1.alloc (.cells #[.int .i64 0] 3);have hsl5:=Sl.one wa .i64 0 3;have hA5:(wa.alloc (.cells #[.int .i64 0] 3)).heap[q]?=_:=(((Kept.refl (fun _=>False) wa).alloc _).block q (lt_of hA) (fun h=>h)).trans hA;have hz5:w4.heap.size≤(wa.alloc (.cells #[.int .i64 0] 3)).heap.size:=by have:=hK5.size;omega
       obtain⟨w6,hw6⟩:∃ w6,wa.alloc (.cells #[.int .i64 0] 3)=w6:=⟨_,rfl⟩;rw[hw6] at hv5 hK5 hsl5 hA5 hz5;have hqv:∀ g,u12.ownBlock=some g→g≠q:=fun g hg e=>by have h1:=hv1.lt g hg;subst e;have h2:=hown_q hv1 hA hg;exact h2
       go_upto_region 23 with (at_builtin;go_loud (
        refine wpList_append_ints rfl _ _ 22 rfl w4.heap.size 3 .i64 j0 (.int .i64 0) 8 Tryz.underlying22 hj0 jz0 jz1 jz2 rfl u12 _ rfl hv5 (some ⟨wa.heap.size,0,none⟩) 1 [0] _ rfl hsl5 (by unfold maxLen;simp;omega) (by simp;omega) hz5 ?_;intro v7 w7 hown7 hgrow hloc;have k7:Kept (fun x=>some x=u12.ownBlock) w6 w7:=Kept.of_grown hgrow;have hK7:Kept (fun x=>w4.heap.size≤x) w5 w7:=hK5.trans k7 (fun x _ h=>(hv5.lt x h.symm).1);have hA7:=(k7.block q (lt_of hA5) (fun h=>hqv q h.symm rfl)).trans hA5;clear hgrow hloc k7 hv5 hK5 hsl5 hA5 hw6 hv1 hK1 hA y0 y10))
       have y10:=cell_of (j:=10) hA7;clear hA7;by_cases ck:x0=3
       ·have d2:(x0 == 3)=true:=by rw[ck];rfl
        have hnx2:(out.take (i+1)).foldl cold1 [0]=bump ((out.take i).foldl cold1 [0]++[0]):=by rw[HN.out];unfold cold1 tick0;rw[if_pos ck];rw[if_pos ct]
        obtain⟨t1,t2,t3⟩:=HT.out;rcases hown7.shape with ⟨-,e9⟩|⟨g,cap,rfl,hg1,hg2,hcap,-,hcell⟩
        ·rw[e9] at t1;exact absurd t1 (by simp)
        ·obtain⟨L,hL⟩:∃ L,((out.take i).foldl cold1 [0]++[0]).length=L+1:=⟨((out.take i).foldl cold1 [0]++[0]).length - 1,by omega⟩
         have hLb:L≤200:=by omega
         have y0:=hcell L (by omega);have yf:w7.frozen? ⟨g,L,none⟩=false:=by
          rcases hown7.2 with ⟨e1,-⟩|⟨g',c',cur,e1,-,hcc,-⟩
          ·cases e1
          ·cases e1;exact frozen_of hcc
         have hown8:=hown7.stored L (((out.take i).foldl cold1 [0]++[0]).getD L 0+1);have hbs:((out.take i).foldl cold1 [0]++[0]).set L (((out.take i).foldl cold1 [0]++[0]).getD L 0+1)=bump ((out.take i).foldl cold1 [0]++[0]):=by unfold bump;rw[hL,Nat.add_sub_cancel]
         rw[hbs,← hnx2] at hown8;have hlb:(bump ((out.take i).foldl cold1 [0]++[0])).length=L+1:=by rw[bump_len];exact hL
         have h3:=t3 L;have hK8:=hK7.setCell (p:=⟨g,L,none⟩) (fun _=>hg1) (.int .i64 (((out.take i).foldl cold1 [0]++[0]).getD L 0+1));have HO8:=Lib.hid (And.intro hown8 hK8);rw[hL] at HO8 hcap ⊢;generalize ((out.take i).foldl cold1 [0]++[0]).getD L 0=y at *;obtain⟨h3a,h3b⟩:=h3;have i5:((L+1:Nat):Int) - 1=(L:Int):=by omega
         clear hown8 hK8 hcell hbs hlb hL hown7 hK7 t3 hnx2;go_wp2_with fail
         exact⟨⟨i+1,rfl,by omega,HO8.out.1,HO8.out.2⟩,by simp[intOf];omega⟩
       ·have d2:(x0 == 3)=false:=by simpa using ck
        have hnx2:(out.take (i+1)).foldl cold1 [0]=(out.take i).foldl cold1 [0]++[0]:=by rw[HN.out];unfold cold1 tick0;rw[if_neg ck];rw[if_pos ct]
        have hfin:OwnI w7 w4.heap.size 3 .i64 v7 ((out.take (i+1)).foldl cold1 [0]):=by rw[hnx2];exact hown7
        clear hnx2 hown7;go_wp2_with fail
        exact⟨⟨i+1,rfl,by omega,hfin,hK7⟩,by simp[intOf];omega⟩
      ·have d1:(f 0 == 0)=false:=by simpa using ct
       have et:tick0 ((out.take i).foldl cold1 [0]) (f 0)=(out.take i).foldl cold1 [0]:=by unfold tick0;rw[if_neg ct]
       rw[et] at HT;clear hA;by_cases ck:x0=3
       ·have d2:(x0 == 3)=true:=by rw[ck];rfl
        have hnx2:(out.take (i+1)).foldl cold1 [0]=bump ((out.take i).foldl cold1 [0]):=by rw[HN.out];unfold cold1 tick0;rw[if_pos ck];rw[if_neg ct]
        obtain⟨t1,t2,t3⟩:=HT.out;rcases hv1.shape with ⟨-,e9⟩|⟨g,cap,rfl,hg1,hg2,hcap,-,hcell⟩
        ·rw[e9] at t1;exact absurd t1 (by simp)
        ·obtain⟨L,hL⟩:∃ L,((out.take i).foldl cold1 [0]).length=L+1:=⟨((out.take i).foldl cold1 [0]).length - 1,by omega⟩
         have hLb:L≤200:=by omega
         have y0:=hcell L (by omega);have yf:wa.frozen? ⟨g,L,none⟩=false:=by
          rcases hv1.2 with ⟨e1,-⟩|⟨g',c',cur,e1,-,hcc,-⟩
          ·cases e1
          ·cases e1;exact frozen_of hcc
         have hown8:=hv1.stored L (((out.take i).foldl cold1 [0]).getD L 0+1);have hbs:((out.take i).foldl cold1 [0]).set L (((out.take i).foldl cold1 [0]).getD L 0+1)=bump ((out.take i).foldl cold1 [0]):=by unfold bump;rw[hL,Nat.add_sub_cancel]
         rw[hbs,← hnx2] at hown8;have hlb:(bump ((out.take i).foldl cold1 [0])).length=L+1:=by rw[bump_len];exact hL
         have h3:=t3 L;have hK8:=hK1.setCell (p:=⟨g,L,none⟩) (fun _=>hg1) (.int .i64 (((out.take i).foldl cold1 [0]).getD L 0+1));have HO8:=Lib.hid (And.intro hown8 hK8);rw[hL] at HO8 hcap ⊢;generalize ((out.take i).foldl cold1 [0]).getD L 0=y at *;obtain⟨h3a,h3b⟩:=h3;have i5:((L+1:Nat):Int) - 1=(L:Int):=by omega
         clear hown8 hK8 hcell hbs hlb hL hv1 hK1 t3 hnx2;go_wp2_with fail
         exact⟨⟨i+1,rfl,by omega,HO8.out.1,HO8.out.2⟩,by simp[intOf];omega⟩
       ·have d2:(x0 == 3)=false:=by simpa using ck
        have hnx2:(out.take (i+1)).foldl cold1 [0]=(out.take i).foldl cold1 [0]:=by rw[HN.out];unfold cold1 tick0;rw[if_neg ck];rw[if_neg ct]
        have hfin:OwnI wa w4.heap.size 3 .i64 u12 ((out.take (i+1)).foldl cold1 [0]):=by rw[hnx2];exact hv1
        clear hnx2 hv1;go_wp2_with fail
        exact⟨⟨i+1,rfl,by omega,hfin,hK1⟩,by simp[intOf];omega⟩
     ·obtain rfl:i=no:=by omega
      rw[List.take_of_length_le (by omega)] at hv;have hCI:=ColdI.all out i (by omega);rw[List.take_of_length_le (by omega)] at hCI;have hBr5:Below w.heap.size w wr:=by
       have h1:=hB5.size;have h2:=k5.size;exact(hB5.trans (k5.below h1 (fun _ _ h=>h))).trans (hK.below (by omega) (fun x hx h=>by omega))
      have hv:OwnI wr w4.heap.size 3 .i64 u12 (coldsOf out):=hv;have hCI:ColdI (coldsOf out) i:=hCI;generalize coldsOf out=cs at *;obtain⟨hcl1,hcl2⟩:=hCI.len;rcases hv.shape with ⟨-,e9⟩|⟨g,cc,rfl,hg1,hg2,hcc,-,hcell⟩
      ·rw[e9] at hcl1;exact absurd hcl1 (by simp)
      ·have HC:=Lib.hid hcell
       have HB:=Lib.hid hCI.bd;obtain⟨mc,hmc⟩:∃ mc,cs.length=mc:=⟨_,rfl⟩;rw[hmc] at hcc hcl1 hcl2 ⊢;have hmb:mc≤160:=by omega
       clear hv hCI hcell hK HR hel hrl;rename World=>w7
       go_wp2_with fail
       go_loopw [92] (fun k wx=>∃ j:Nat,k=.int .i64 j∧j≤mc∧Kept (fun _=>False) w7 wx) (fun k _=>mc - (intOf k).toNat)
       case atStart=>exact⟨0,rfl,by omega,Kept.refl _ _⟩
       case round=>
        obtain⟨j,rfl,hj,hKx⟩:=hrel;rename World=>w8
        by_cases hjn:j < mc
        ·have i1:(j:Int)≤(mc:Int):=by omega
         have i2:(mc:Int)≤(cc:Int):=by omega
         have i3:¬ cc=j:=by omega
         obtain⟨md,hmd⟩:∃ md,mc - j=md:=⟨_,rfl⟩;go_wp2_with fail
         go_loopw [16,99] (fun s k wy=>∃ v:Nat,k=.int .i64 v∧v≤md∧s=.int .i64 ((cs.drop j).take v).sum∧Kept (fun _=>False) w7 wy) (fun _ k _=>md - (intOf k).toNat)
         case atStart=>exact⟨0,rfl,by omega,rfl,hKx⟩
         case round=>
          obtain⟨v,rfl,hvm,rfl,hKy⟩:=hrel;by_cases hvn:v < md
          ·have hws:=win_sum cs j v (by omega)
           have hbv:=HB.out (j+v);have hlaw:=HL.out j v (by omega);have hpos:0≤((cs.drop j).take v).sum:=getD_nonneg_sum _ (fun x hx=>by
            obtain⟨r,hr,e⟩:=List.getElem_of_mem (List.mem_of_mem_drop (List.mem_of_mem_take hx));have:=HB.out r;rw[List.getD_eq_getElem?_getD,List.getElem?_eq_getElem hr,e] at this;exact this.1)
           have hce:=HC.out (j+v) (by omega);have y0:wr.cell? ⟨g,j+v,none⟩=some (.int .i64 (cs.getD (j+v) 0)):=(hKy.cell (p:=⟨g,j+v,none⟩) hg2 (fun h=>h)).trans hce;obtain⟨M,hM⟩:∃ M:Nat,refill*v=M:=⟨_,rfl⟩;have hM2:M≤480:=by rw[← hM];exact Nat.le_trans (Nat.mul_le_mul hr3 (show v≤160 by omega)) (by omega)
           have hM1:(refill:Int)*(v:Int)=(M:Int):=by rw[← hM];push_cast;rfl
           rw[hM1] at hlaw;have HW:=Lib.hid hws;generalize hS1:((cs.drop j).take (v+1)).sum=S1 at *;generalize cs.getD (j+v) 0=y at *;obtain⟨S,hS⟩:∃ S,((cs.drop j).take v).sum=S:=⟨_,rfl⟩;rw[hS] at hws hpos HW ⊢;obtain⟨hb1,hb2⟩:=hbv;have c4:¬ ((size:Int)+(M:Int) < S+y):=by omega
           clear hce hS HC HB hlaw;go_wp2_with fail
           exact⟨⟨v+1,rfl,by omega,by rw[hS1,HW.out],hKy⟩,by simp[intOf];omega⟩
          ·obtain rfl:v=md:=by omega
           go_wp2_with fail
           exact⟨⟨j+1,rfl,by omega,hKy⟩,by simp[intOf];omega⟩
        ·obtain rfl:j=mc:=by omega
         go_wp2_with fail
         go_ret
         exact⟨rfl,hBr5.trans (hKx.below hBr5.size (fun _ _ h=>h))⟩
 ·rw[decide_eq_false hla]
  go_wp2_with fail
  go_ret
  exact⟨rfl,hB1⟩
theorem wholeTokens_walk(a0 a1:Int)(a2:Option Addr)(cap2:Nat)(z2:List (Nat→Int))(W:World)(w0:(Lit.int .i64 a0).wf=true)(w1:(Lit.int .i64 a1).wf=true)(w2:IsStructs 10 W a2 z2):
  Calls Tryz.prog 4 #[.int .i64 a0,.int .i64 a1,.slice a2 z2.length cap2] W fun e W'=>e=.returned (.bool true)∧Below W.heap.size W W':=by
 have:=wholeTokens_any a0 a1 a2 cap2 (evsOf z2) W (isEvents w2);simpa[evsOf] using this
end Go.Proofs.YtigeldkbfbcpmaaGreat
