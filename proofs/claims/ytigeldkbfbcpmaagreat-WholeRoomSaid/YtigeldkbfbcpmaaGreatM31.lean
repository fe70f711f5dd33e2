/- A part of the proof: what the functions of the program come to, and what holds at all times. -/
import Derived.WalkSpells
import Derived.Deep.RegionHeld3
import Derived.Test.YtigeldkbfbcpmaaGreatM19
set_option linter.unusedVariables false
set_option linter.unusedSectionVars false
set_option linter.unusedSimpArgs false
set_option maxRecDepth 100000
set_option maxHeartbeats 8000000
namespace Go.Proofs.YtigeldkbfbcpmaaGreat.P16
open Go.RowKit Go.Kpt WirePure
theorem Ev.new(w:World)(f:Evt):Ev (w.alloc (.cells (evc f) 28)) w.heap.size f:=heap_alloc_new _ _
theorem PV.kept{F:Nat→Prop}{w w':World}{base b:Nat}{f:Evt}{v:Value}(h:PV w base b f v)(k:Kept F w w')(hF:∀ x,base≤x→¬ F x):PV w' base b f v:=by
 rcases h with ⟨h1,g,h2,h3,h4,h5⟩|h
 ·exact .inl ⟨h1,g,h2,h3,Nat.lt_of_lt_of_le h4 k.size,fun i hi=>(k.cell (p:=⟨g,i,none⟩) h4 (hF g h3)).trans (h5 i hi)⟩
 ·exact .inr h
theorem PV.ok{w:World}{base b:Nat}{f:Evt}{v:Value}(h:PV w base b f v)(hk:kOK (f 0)):∃ g,v=.slice (some ⟨g,0,none⟩) (parts (f 0)).length (parts (f 0)).length∧base≤g∧g < w.heap.size∧PL w g b (parts (f 0)):=by
 rcases h with ⟨_,h⟩|⟨h,_⟩
 ·exact h
 ·exact absurd hk h
theorem PV.no{w:World}{base b:Nat}{f:Evt}{v:Value}(h:PV w base b f v)(hk:¬ kOK (f 0)):v=.slice none 0 0:=by
 rcases h with ⟨h,_⟩|⟨_,h,_⟩
 ·exact absurd h hk
 ·exact h
theorem Ev.ten{w:World}{b:Nat}{f:Evt}(h:Ev w b f):w.cell? ⟨b,0,none⟩=some (.int .i64 (f 0))∧w.cell? ⟨b,1,none⟩=some (.int .i64 (f 1))∧w.cell? ⟨b,2,none⟩=some (.int .i64 (f 2))∧w.cell? ⟨b,3,none⟩=some (.int .i64 (f 3))∧w.cell? ⟨b,4,none⟩=some (.int .i64 (f 4))∧w.cell? ⟨b,5,none⟩=some (.int .i64 (f 5))∧w.cell? ⟨b,6,none⟩=some (.int .i64 (f 6))∧w.cell? ⟨b,7,none⟩=some (.int .i64 (f 7))∧w.cell? ⟨b,8,none⟩=some (.int .i64 (f 8))∧w.cell? ⟨b,9,none⟩=some (.int .i64 (f 9)):=
 ⟨h.cell 0,h.cell 1,h.cell 2,h.cell 3,h.cell 4,h.cell 5,h.cell 6,h.cell 7,h.cell 8,h.cell 9⟩
def cpy(f:Evt)(l:List (Fin 10)):Evt:=fun i=>if i=0∨i ∈ l then f i else 0
theorem cpy_nil(f:Evt):cpy f []=ev0 (f 0):=by
 funext i
 by_cases h:i=0
 ·subst h;simp[cpy,ev0,upd]
 ·simp[cpy,ev0,upd,noev,h]
theorem cpy_snoc(f:Evt)(l:List (Fin 10))(j:Fin 10):cpy f (l++[j])=upd (cpy f l) j (f j):=by
 funext i
 by_cases h:i=j
 ·subst h;simp[cpy,upd]
 ·simp[cpy,upd,h]
theorem take_snoc{α:Type}(l:List α)(i:Nat)(h:i < l.length)(d:α):l.take (i+1)=l.take i++[l.getD i d]:=by
 rw[List.take_add_one];simp[h]
theorem getD_mem{α:Type}(l:List α)(i:Nat)(h:i < l.length)(d:α):l.getD i d ∈ l:=by
 rw[List.getD_eq_getElem?_getD,List.getElem?_eq_getElem h];exact List.getElem_mem h
theorem cpy_eq(f:Evt):(cpy f (parts (f 0))=f)↔∀ j,j=0∨j ∈ parts (f 0)∨f j=0:=by
 constructor
 ·intro h j
  have:=congrFun h j;by_cases h1:j=0∨j ∈ parts (f 0)
  ·rcases h1 with h1 | h1
   ·exact .inl h1
   ·exact .inr (.inl h1)
  ·rw[cpy,if_neg h1] at this
   exact .inr (.inr this.symm)
 ·intro h
  funext j
  rcases h j with h1|h1|h1
  ·simp[cpy,h1]
  ·simp[cpy,h1]
  ·by_cases h2:j=0∨j ∈ parts (f 0)
   ·rw[cpy,if_pos h2]
   ·rw[cpy,if_neg h2,h1]
theorem right_any(f:Evt)(w:World):Calls Tryz.prog 27 #[.agg (evc f)] w fun e w'=>e=.returned (.bool (decide (right f)))∧Below w.heap.size w w':=by
 obtain⟨R,hR⟩:∃ R,decide (right f)=R:=⟨_,rfl⟩;rw[hR];have HR:=Lib.hid hR;clear hR;go_enter Tryz.func27,Tryz.ntmps27
 go_wp2_with fail
 have hE:=Ev.new w f;have hB:Below w.heap.size w (w.alloc (.cells (evc f) 28)):=by go_grown
 have hz:(w.alloc (.cells (evc f) 28)).heap.size=w.heap.size+1:=by simp
 generalize w.alloc (.cells (evc f) 28)=w1 at *;refine(parts_any _ f w1 hE).mono ?_;rintro e w2 ⟨v,rfl,hpv,hB2⟩;have hE2:Ev w2 w.heap.size f:=hE.kept (Kept.of_below (F:=fun _=>False) hB2) (fun h=>h);have hz2:w1.heap.size≤w2.heap.size:=hB2.size;have c0:w2.cell? ⟨w.heap.size,0,none⟩=some (.int .i64 (f 0)):=hE2.cell 0;have hE3:Ev (w2.alloc (.cells (evc (ev0 (f 0))) 28)) w2.heap.size (ev0 (f 0)):=Ev.new _ _;have hpv2:PV (w2.alloc (.cells (evc (ev0 (f 0))) 28)) w1.heap.size w.heap.size f v:=hpv.kept ((Kept.refl (fun _=>False) w2).alloc _) (fun _ _ h=>h);have hE4:Ev (w2.alloc (.cells (evc (ev0 (f 0))) 28)) w.heap.size f:=hE2.kept ((Kept.refl (fun _=>False) w2).alloc _) (fun h=>h);have hB3:Below w.heap.size w (w2.alloc (.cells (evc (ev0 (f 0))) 28)):=(hB.trans (hB2.mono (by omega))).alloc (by omega) _;have hz3:(w2.alloc (.cells (evc (ev0 (f 0))) 28)).heap.size=w2.heap.size+1:=by simp
 go_wp2_with fail
 change Calls _ _ _ (w2.alloc (.cells (evc (ev0 (f 0))) 28)) _;generalize w2.alloc (.cells (evc (ev0 (f 0))) 28)=w3 at *;refine(parts_any _ _ w3 hE3).mono ?_;rintro e w4 ⟨v2,rfl,hqv,hB4⟩;have k4:=Kept.of_below (F:=fun _=>False) hB4;have hf:Ev w4 w.heap.size f:=hE4.kept k4 (fun h=>h);have hb:Ev w4 w2.heap.size (ev0 (f 0)):=hE3.kept k4 (fun h=>h);have hp:=hpv2.kept k4 (fun _ _ h=>h);have hB5:Below w.heap.size w w4:=hB3.trans (hB4.mono (by omega));have hz4:=hB4.size;clear hE hE2 hE3 hE4 hpv hpv2 hB hB2 hB3 hB4 k4 c0;by_cases hk:kOK (f 0)
 ·obtain⟨g,rfl,hg1,hg2,hg3⟩:=hp.ok hk
  obtain⟨q,rfl,hq1,hq2,hq3⟩:=hqv.ok hk;have hn6:=parts_len (f 0);obtain⟨ps,hps⟩:∃ ps,parts (f 0)=ps:=⟨_,rfl⟩;rw[show (ev0 (f 0)) 0=f 0 from rfl] at hq3 ⊢;rw[hps] at hg3 hq3 hn6 ⊢;have hnd:=(parts_nodup (f 0)).2;rw[hps] at hnd;rw[← cpy_nil] at hb;obtain⟨n,hn⟩:∃ n,ps.length=n:=⟨_,rfl⟩;rw[hn] at hn6 ⊢;generalize hbb:w.heap.size=bb at *;generalize hcc:w2.heap.size=cc at *;have hqc:q≠cc:=by omega
  have hbc:bb≠cc:=by omega
  have hlc:bb≤cc:=by omega
  have hl4:cc < w4.heap.size:=by omega
  clear hz hz3 hz4;go_wp2_with fail
  go_loopw [15] (fun x wr=>∃ i,x=.int .i64 (i:Nat)∧i≤n∧Kept (fun x=>x=cc) w4 wr∧Ev wr cc (cpy f (ps.take i))∧Hid (∀ j ∈ ps.take i,0≤f j∧f j≤2147483647)) (fun x _=>n - (intOf x).toNat)
  case atStart=>exact⟨0,rfl,by omega,Kept.refl _ _,hb,Lib.hid (by simp)⟩
  case round=>
   obtain⟨i,rfl,hi,hK,hcp,HP⟩:=hrel;have ef:Ev wr bb f:=hf.kept hK hbc;by_cases hin:i < n
   ·have hgc:g≠cc:=by
     rintro rfl;have h1:=hg3 i (by omega);rw[show (⟨g,i,none⟩:Addr)=⟨g,(⟨i,by omega⟩:Fin 10).val,none⟩ from rfl,hb.cell] at h1;simp at h1
    have c1:wr.cell? ⟨g,i,none⟩=_:=(hK.cell (p:=⟨g,i,none⟩) hg2 hgc).trans (hg3 i (by omega));have c2:wr.cell? ⟨q,i,none⟩=_:=(hK.cell (p:=⟨q,i,none⟩) hq2 hqc).trans (hq3 i (by omega));have hj:ps.getD i 0 ∈ ps:=getD_mem ps i (by omega) 0;have ht:=take_snoc ps i (by omega) 0;have hR:=HR.out;have HPo:=HP.out;generalize ps.getD i 0=j at *;have d1:=ef.cell j;have d3:=hcp.cell j;have d2:wr.frozen? ⟨cc,j.val,none⟩=false:=hcp.free j;have hst:=hcp.set j (f j);rw[← cpy_snoc,← ht] at hst;have hst2:=hK.trans (Kept.set1 wr cc j.val (.int .i64 (f j))) (fun _ _ h=>h);by_cases hlo:f j < 0
    ·have hr:R=false:=by
      rw[← hR];refine decide_eq_false fun h=>?_;have:=h.2.1 j (by rw[hps];exact hj);omega
     subst hr;clear HPo hR HP HR hst hst2;go_wp2_with fail
     go_ret
     exact⟨rfl,by first | exact hB5.trans (hK.below (by omega) (by intro x hx h;omega)) | (rw[hbb];exact hB5.trans (hK.below (by omega) (by intro x hx h;omega)))⟩
    ·by_cases hhi:2147483647 < f j
     ·have hr:R=false:=by
       rw[← hR];refine decide_eq_false fun h=>?_;have:=h.2.1 j (by rw[hps];exact hj);omega
      subst hr;clear HPo hR HP HR hst hst2;go_wp2_with fail
      go_ret
      exact⟨rfl,by first | exact hB5.trans (hK.below (by omega) (by intro x hx h;omega)) | (rw[hbb];exact hB5.trans (hK.below (by omega) (by intro x hx h;omega)))⟩
     ·have HP2:Hid (∀ j ∈ ps.take (i+1),0≤f j∧f j≤2147483647):=Lib.hid (by
       rw[ht];intro x hx;rcases List.mem_append.1 hx with hx|hx
       ·exact HPo x hx
       ·obtain rfl:x=j:=by simpa using hx
        omega)
      clear HPo hR HP HR;go_wp2_with fail
      go_region
      all_goals (go_wp2_with fail)
      all_goals exact⟨⟨i+1,rfl,by omega,hst2.drew,hst,HP2⟩,by simp[intOf];omega⟩
   ·obtain rfl:i=n:=by omega
    rw[List.take_of_length_le (by omega)] at hcp HP;have hdec:R=decide (cpy f ps=f):=by
     rw[← HR.out];have h1:=cpy_eq f;rw[hps] at h1;have h2:=HP.out;by_cases h3:cpy f ps=f
     ·rw[decide_eq_true h3]
      refine decide_eq_true ⟨hk,by rw[hps];exact h2,by rw[hps];exact h1.1 h3⟩
     ·rw[decide_eq_false h3]
      refine decide_eq_false fun h=>h3 (h1.2 ?_);have:=h.2.2;rw[hps] at this;exact this
    have HD:=Lib.hid hdec;clear hdec HP;generalize cpy f ps=m at *;obtain⟨a0,a1,a2,a3,a4,a5,a6,a7,a8,a9⟩:=hcp.ten;obtain⟨b0,b1,b2,b3,b4,b5,b6,b7,b8,b9⟩:=ef.ten;have hnil:=fun (w:World) (a:Option Addr) (n c:Nat)=>run_neq_slice_nil_any (P:=Tryz.prog) w 112 _ a n c 0 0 Tryz.underlying112;have heq:=eql_ev m f;have hgd:=guard_ev;simp only[evc] at heq;go_wp2_with fail
    go_ret
    exact⟨by rw[HD.out];rfl,by rw[hbb];exact hB5.trans (hK.below (by omega) (by intro x hx h;omega))⟩
 ·obtain rfl:=hp.no hk
  obtain rfl:=hqv.no hk;have hr:R=false:=by
   rw[← HR.out];exact decide_eq_false fun h=>hk h.1
  subst hr;have hnil:=fun (w:World) (a:Option Addr) (n c:Nat)=>run_neq_slice_nil_any (P:=Tryz.prog) w 112 _ a n c 0 0 Tryz.underlying112;clear hp hqv;go_wp2_with fail
  refine wp_loop_rounds 1 ?_;rw[rounds_succ];go_wp2_with fail
  go_ret
  exact⟨rfl,hB5⟩
def ecells(l:List Evt):List Value:=l.flatMap fun f=>(evc f).toList
theorem ecells_cons(f:Evt)(l:List Evt):ecells (f :: l)=(evc f).toList++ecells l:=rfl
theorem ecells_append(l k:List Evt):ecells (l++k)=ecells l++ecells k:=by simp[ecells]
theorem ecells_get(l:List Evt):∀ (i:Nat) (j:Fin 10),i < l.length→(ecells l)[i*10+j.val]?=some (.int .i64 (l.getD i noev j)):=by
 induction l with
 | nil=>intro i j h;simp at h
 | cons f l ih=>
  intro i j h;rw[ecells_cons];cases i with
  | zero=>
   rw[List.getElem?_append_left (by have:=j.isLt;simp[evc])];have:=evc_get f j;simpa using this
  | succ i=>
   rw[List.getElem?_append_right (by rw[show (evc f).toList.length=10 from rfl];omega)];rw[show (i+1)*10+j.val - (evc f).toList.length=i*10+j.val by rw[show (evc f).toList.length=10 from rfl];omega];rw[ih i j (by simpa using h)];simp
def OwnE(w:World)(base:Nat)(v:Value)(l:List Evt):Prop:=w.ownsRow base 28 10 v l.length (ecells l)
def SE(w:World)(p:Nat→Prop)(a:Option Addr)(l:List Evt):Prop:=
 ∀ i,i < l.length→∃ b off,a=some ⟨b,off,none⟩∧p b∧∀ j:Fin 10,w.cell? ⟨b,off+(i*10+j.val),none⟩=some (.int .i64 (l.getD i noev j))
section
variable {w w':World} {base:Nat} {v:Value} {l:List Evt}
theorem OwnE.shape(h:OwnE w base v l):(v=.slice none 0 0∧l=[]) ∨
  ∃ g cap,v=.slice (some ⟨g,0,none⟩) l.length cap∧base≤g∧g < w.heap.size∧l.length≤cap∧cap≤maxLen ∧
   ∀ i,i < l.length→∀ j:Fin 10,w.cell? ⟨g,i*10+j.val,none⟩=some (.int .i64 (l.getD i noev j)):=by
 have h':=h;unfold OwnE at h';rcases h'.2 with ⟨h1,h2⟩|⟨g,cap,cur,rfl,hb,hg,hl,hm,hs,ht⟩
 ·exact .inl ⟨h1,List.length_eq_zero_iff.1 h2⟩
 ·refine .inr ⟨g,cap,rfl,hb,lt_of hg,hl,hm,fun i hi j=>?_⟩
  have hj:=j.isLt;rw[cell_of hg,← ecells_get l i j hi,← ht,List.getElem?_take,if_pos (by omega)];simp
theorem OwnE.lt(h:OwnE w base v l):∀ g,v.ownBlock=some g→base≤g∧g < w.heap.size:=World.ownsRow.lt h
theorem OwnE.kept{F:Nat→Prop}(h:OwnE w base v l)(hk:Kept F w w')(hF:∀ g,v.ownBlock=some g→¬ F g):OwnE w' base v l:=by
 refine⟨h.1,?_⟩;rcases h.2 with h1|⟨g,cap,cur,rfl,hb,hg,hr⟩
 ·exact .inl h1
 ·exact .inr ⟨g,cap,cur,rfl,hb,(hk.block g (lt_of hg) (hF g rfl)).trans hg,hr⟩
theorem OwnE.below(h:OwnE w base v l)(hk:Below w.heap.size w w'):OwnE w' base v l:=h.kept (Kept.of_below (F:=fun _=>False) hk) (fun _ _ h=>h)
theorem OwnE.alloc(h:OwnE w base v l)(o:Obj):OwnE (w.alloc o) base v l:=World.ownsRow.alloc h o
theorem OwnE.nil(w:World)(base:Nat):OwnE w base (.slice none 0 0) []:=World.ownsRow_nil w base 28 10
theorem OwnE.se(h:OwnE w base v l):∃ a cap,v=.slice a l.length cap∧l.length≤cap∧cap≤maxLen∧SE w (fun x=>base≤x∧x < w.heap.size) a l:=by
 rcases h.shape with ⟨rfl,rfl⟩|⟨g,cap,rfl,hb,hg,hl,hm,hc⟩
 ·exact⟨none,0,rfl,Nat.le_refl _,by unfold maxLen;omega,fun i hi=>by simp at hi⟩
 ·exact⟨some ⟨g,0,none⟩,cap,rfl,hl,hm,fun i hi=>⟨g,0,rfl,⟨hb,hg⟩,fun j=>by rw[Nat.zero_add];exact hc i hi j⟩⟩
theorem SE.kept{p F:Nat→Prop}{a:Option Addr}(h:SE w p a l)(hk:Kept F w w')(hF:∀ x,p x→¬ F x):SE w' p a l:=by
 intro i hi;obtain⟨b,off,ha,hb,hc⟩:=h i hi;exact⟨b,off,ha,hb,fun j=>(hk.cell (p:=⟨b,off+(i*10+j.val),none⟩) (block_lt_of_cell (hc j)) (hF b hb)).trans (hc j)⟩
theorem SE.mono{p q:Nat→Prop}{a:Option Addr}(h:SE w p a l)(hq:∀ x,p x→q x):SE w q a l:=by
 intro i hi;obtain⟨b,off,ha,hb,hc⟩:=h i hi;exact⟨b,off,ha,hq b hb,hc⟩
end
theorem Tryz.info28:(Tryz.prog.info? 28).map (fun i=>(i.zero,i.size,i.bytes))=some (some (.agg (evc noev)),10,80):=by kernel_rfl
theorem wpList_append_ev{ops:Array Oper}{rest:List Oper}{o:Oper}{a:Act}{w:World}{Q:Exit→Act→World→Prop}(hgd:o.guard=none)(s x:Operand)
  (ho:o.op=.call { callee:=.builtin .append,args:=#[s,x],argTypes:=#[23,23] })
  (base:Nat) (v:Value) (l:List Evt) (hs:a.eval s=v) (hown:OwnE w base v l) (b c:Nat) (f:Evt) (hx:a.eval x=.slice (some ⟨b,0,none⟩) 1 c) (hev:Ev w b f)
  (hl:l.length≤1000000) (hbase:base≤w.heap.size)
  (h:∀ v' w',OwnE w' base v' (l++[f])→w.grownBy w' v.ownBlock→(v'.ownBlock=v.ownBlock∨v'.ownBlock=some w.heap.size)→wpList Tryz.prog ops Q rest (a.put o.dst v') w'):
  wpList Tryz.prog ops Q (o :: rest) a w:=by
 obtain⟨i0,hi,hz0,hz1,hz2⟩:=info_parts Tryz.info28;refine wpList_append_own_at w hgd s x 23 ho base 28 i0 (.agg (evc noev)) 10 80 Tryz.underlying23 hi hz0 hz1 hz2 rfl (by omega) v l.length (ecells l) hs hown ⟨b,0,none⟩ 1 c (evc f).toList hx rfl (fun j u hj=>?_) (by intro u hu;simp[evc] at hu;rcases hu with rfl|rfl|rfl|rfl|rfl|rfl|rfl|rfl|rfl|rfl <;> rfl) (by unfold maxLen;omega) (by omega) hbase ?_
 ·have hplain:(⟨b,0,none⟩:Addr).add j=⟨b,j,none⟩:=by unfold Addr.add;split <;> simp_all
  rw[hplain];exact(cell_of hev).trans (by simpa using hj)
 ·intro v' w' h1 h2 _ h4
  refine h v' w' ?_ h2 h4;unfold OwnE;rw[ecells_append,List.length_append];simpa[ecells] using h1
def kB(k:Int):Bool:=decide (0≤k∧k≤9)
def nparts(k:Int):List (Fin 10):=if 0≤k∧k≤9 then parts k else [1]
def nums(f:Evt):List Int:=(nparts (f 0)).map f
theorem own_row(w:World)(t:TypeId)(xs:List Int)(base:Nat)(hb:base≤w.heap.size)(hx:xs.length≤1000)(cs:Array Value)(hc:cs.toList=xs.map (Value.int .i64)):
  OwnI (w.alloc (.cells cs t)) base t .i64 (.slice (some ⟨w.heap.size,0,none⟩) xs.length xs.length) xs:=
 ⟨by simp,.inr ⟨w.heap.size,xs.length,cs,rfl,hb,heap_alloc_new _ _,Nat.le_refl _,by unfold maxLen;omega,by
  have:=congrArg List.length hc;simpa using this,by rw[hc,List.take_of_length_le (by simp)]⟩⟩
theorem numbers_any(f:Evt)(w:World):Calls Tryz.prog 40 #[.agg (evc f)] w fun e w'=>∃ v,e=.returned (.tuple #[v,.bool (kB (f 0))])∧OwnI w' w.heap.size 3 .i64 v (nums f)∧Below w.heap.size w w':=by
 have hE:=Ev.new w f;obtain⟨a0,a1,a2,a3,a4,a5,a6,a7,a8,a9⟩:=hE.ten;have hB:Below w.heap.size w (w.alloc (.cells (evc f) 28)):=by go_grown
 have hz:w.heap.size≤(w.alloc (.cells (evc f) 28)).heap.size:=hB.size;have hnil:=OwnI.nil (w.alloc (.cells (evc f) 28)) w.heap.size 3 .i64;have hrow:=own_row (w.alloc (.cells (evc f) 28)) 3;obtain⟨ps,hps⟩:∃ ps,nparts (f 0)=ps:=⟨_,rfl⟩;have hn:nums f=ps.map f:=by unfold nums;rw[hps]
 have hall:=parts_cases (f 0);unfold nparts at hps;generalize hQ:nums f=Q at *;clear hQ hE;obtain⟨w1,hw1⟩:∃ w1,w.alloc (.cells (evc f) 28)=w1:=⟨_,rfl⟩;rw[hw1] at hB hz hnil hrow a0 a1 a2 a3 a4 a5 a6 a7 a8 a9;generalize hk:f 0=k at *;have HP:=Lib.hid hps;have HA:=Lib.hid hall;have HR:=Lib.hid hrow;clear hps hall hrow hk;go_enter Tryz.func40,Tryz.ntmps40
 by_cases k0:k=0
 ·subst k0
  obtain rfl:ps=[]:=by rw[← HP.out];decide
  subst hn;have hkb:kB 0=true:=by decide
  rw[hkb];clear HP HA HR;go_wp2_with fail
  go_returns
  exact⟨_,rfl,hnil,hB⟩
 by_cases k1:k=1
 ·subst k1
  obtain rfl:ps=[1,2,3,4]:=by rw[← HP.out];decide
  have hv:OwnI (w1.alloc (.cells #[.int .i64 (f 1),.int .i64 (f 2),.int .i64 (f 3),.int .i64 (f 4)] 3)) w.heap.size 3 .i64 _ [f 1,f 2,f 3,f 4]:=HR.out [f 1,f 2,f 3,f 4] w.heap.size (by omega) (by simp) #[.int .i64 (f 1),.int .i64 (f 2),.int .i64 (f 3),.int .i64 (f 4)] rfl;subst hn;have hkb:kB 1=true:=by decide
  rw[hkb];have hB2:Below w.heap.size w (w1.alloc (.cells #[.int .i64 (f 1),.int .i64 (f 2),.int .i64 (f 3),.int .i64 (f 4)] 3)):=hB.alloc (by omega) _;clear HP HA HR;go_wp2_with fail
  go_returns
  exact⟨_,rfl,hv,hB2⟩
 by_cases k2:k=2
 ·subst k2
  obtain rfl:ps=[1,5,6,7,8,9]:=by rw[← HP.out];decide
  have hv:OwnI (w1.alloc (.cells #[.int .i64 (f 1),.int .i64 (f 5),.int .i64 (f 6),.int .i64 (f 7),.int .i64 (f 8),.int .i64 (f 9)] 3)) w.heap.size 3 .i64 _ [f 1,f 5,f 6,f 7,f 8,f 9]:=HR.out [f 1,f 5,f 6,f 7,f 8,f 9] w.heap.size (by omega) (by simp) #[.int .i64 (f 1),.int .i64 (f 5),.int .i64 (f 6),.int .i64 (f 7),.int .i64 (f 8),.int .i64 (f 9)] rfl;subst hn;have hkb:kB 2=true:=by decide
  rw[hkb];have hB2:Below w.heap.size w (w1.alloc (.cells #[.int .i64 (f 1),.int .i64 (f 5),.int .i64 (f 6),.int .i64 (f 7),.int .i64 (f 8),.int .i64 (f 9)] 3)):=hB.alloc (by omega) _;clear HP HA HR;go_wp2_with fail
  go_returns
  exact⟨_,rfl,hv,hB2⟩
 by_cases k3:k=3
 ·subst k3
  obtain rfl:ps=[1,3]:=by rw[← HP.out];decide
  have hv:OwnI (w1.alloc (.cells #[.int .i64 (f 1),.int .i64 (f 3)] 3)) w.heap.size 3 .i64 _ [f 1,f 3]:=HR.out [f 1,f 3] w.heap.size (by omega) (by simp) #[.int .i64 (f 1),.int .i64 (f 3)] rfl;subst hn;have hkb:kB 3=true:=by decide
  rw[hkb];have hB2:Below w.heap.size w (w1.alloc (.cells #[.int .i64 (f 1),.int .i64 (f 3)] 3)):=hB.alloc (by omega) _;clear HP HA HR;go_wp2_with fail
  go_returns
  exact⟨_,rfl,hv,hB2⟩
 obtain rfl:ps=[1]:=by
  rw[← HP.out];split
  ·rcases HA.out with h | h | h | h | h
   ·omega
   ·omega
   ·omega
   ·exact h.2
   ·omega
  ·rfl
 have hv:OwnI (w1.alloc (.cells #[.int .i64 (f 1)] 3)) w.heap.size 3 .i64 _ [f 1]:=HR.out [f 1] w.heap.size (by omega) (by simp) #[.int .i64 (f 1)] rfl;subst hn;have hB2:Below w.heap.size w (w1.alloc (.cells #[.int .i64 (f 1)] 3)):=hB.alloc (by omega) _;obtain⟨B,hBB⟩:∃ B,kB k=B:=⟨_,rfl⟩;rw[hBB];have HB:=Lib.hid hBB;clear HP HA HR hBB;have e0:(w1.alloc (.cells #[.int .i64 (f 1)] 3)).cell? ⟨w.heap.size,0,none⟩=some (.int .i64 k):=(((Kept.refl (fun _=>False) w1).alloc _).cell (p:=⟨w.heap.size,0,none⟩) (block_lt_of_cell a0) (fun h=>h)).trans a0;by_cases h4:(4:Int)≤k
 ·have d1:decide ((4:Int)≤k)=true:=decide_eq_true h4
  by_cases h9:k≤(9:Int)
  ·have d2:decide (k≤(9:Int))=true:=decide_eq_true h9
   obtain rfl:B=true:=by rw[← HB.out];exact decide_eq_true ⟨by omega,h9⟩
   go_wp2_with fail
   go_region
   all_goals (go_wp2_with fail)
   all_goals go_returns
   all_goals exact⟨_,rfl,hv,hB2.drew⟩
  ·have d2:decide (k≤(9:Int))=false:=decide_eq_false h9
   obtain rfl:B=false:=by rw[← HB.out];exact decide_eq_false (fun h=>h9 h.2)
   go_wp2_with fail
   go_region
   all_goals (go_wp2_with fail)
   all_goals go_returns
   all_goals exact⟨_,rfl,hv,hB2.drew⟩
 ·have d1:decide ((4:Int)≤k)=false:=decide_eq_false h4
  obtain rfl:B=false:=by rw[← HB.out];exact decide_eq_false (fun h=>by omega)
  go_wp2_with fail
  go_region
  all_goals (go_wp2_with fail)
  all_goals go_returns
  all_goals exact⟨_,rfl,hv,hB2.drew⟩
def encP(f:Evt)(l:List (Fin 10)):List Nat:=l.flatMap fun j=>enc (f j).toNat
theorem encP_snoc(f:Evt)(l:List (Fin 10))(j:Fin 10):encP f (l++[j])=encP f l++enc (f j).toNat:=by simp[encP]
theorem encP_len(f:Evt)(l:List (Fin 10))(h:∀ j ∈ l,0≤f j∧f j≤2147483647):(encP f l).length≤10*l.length:=by
 induction l with
 | nil=>simp[encP]
 | cons j l ih=>
  have:=ih (fun i hi=>h i (List.mem_cons_of_mem _ hi));have hj:=h j (List.mem_cons_self ..);have:=enc_len_ten (n:=(f j).toNat) (by omega);show (enc (f j).toNat++encP f l).length≤_;rw[List.length_append,List.length_cons];omega
theorem putE_any(a:Option Addr)(cap:Nat)(zs:List Nat)(f:Evt)(p:Nat→Prop)(w:World)(hsl:Sl .u8 w p a (ib zs))(hz0:zs.length≤9000)(hr:right f)(hp:∀ x,p x→x < w.heap.size):
  Calls Tryz.prog 23 #[.slice a zs.length cap,.agg (evc f)] w fun e w'=>∃ v,e=.returned v∧OwnI w' w.heap.size 5 .u8 v (ib (zs++encE f))∧Below w.heap.size w w':=by
 have hrr:=Lib.hid hr;clear hr;go_enter Tryz.func23,Tryz.ntmps23
 have hE:=Ev.new w f;obtain⟨a0,a1,a2,a3,a4,a5,a6,a7,a8,a9⟩:=hE.ten;go_wp2_with fail
 have hB:Below w.heap.size w (w.alloc (.cells (evc f) 28)):=by go_grown
 have hz:(w.alloc (.cells (evc f) 28)).heap.size=w.heap.size+1:=by simp
 have hsl1:Sl .u8 (w.alloc (.cells (evc f) 28)) p a (ib zs):=hsl.kept ((Kept.refl (fun _=>False) w).alloc _) (fun _ _ h=>h);generalize w.alloc (.cells (evc f) 28)=w1 at *;refine(right_any f w1).mono ?_;rintro e w2 ⟨rfl,hB2⟩;have hd:decide (right f)=true:=decide_eq_true hrr.out;have hk2:=Kept.of_below (F:=fun _=>False) hB2;have hE2:Ev w2 w.heap.size f:=hE.kept hk2 (fun h=>h);have hsl2:=hsl1.kept hk2 (fun _ _ h=>h);have hB3:Below w.heap.size w w2:=hB.trans (hB2.mono (by omega));have hz2:=hB2.size;clear a0 a1 a2 a3 a4 a5 a6 a7 a8 a9 hE hsl1 hk2 hB hB2 hsl;rw[hd];have c0:w2.cell? ⟨w.heap.size,0,none⟩=some (.int .i64 (f 0)):=hE2.cell 0;obtain⟨k,hk⟩:∃ k:Nat,(f 0).toNat=k:=⟨_,rfl⟩;have h09:=hrr.out.1;have hfk:f 0=(k:Int):=by omega
 have hwk:IntKind.u64.wrap (k:Int)=(k:Int):=IntWalk.u64_in _ ⟨by omega,by omega⟩;rw[hfk] at c0;have hEE:Hid (encE f=enc k++encP f (parts (f 0))):=Lib.hid (by unfold encE;rw[hk];rfl);have hkk:kOK (f 0):=h09;have hten:=enc_len_ten (n:=k) (by omega);have hput:=put_any a cap zs k (by omega) p w2 hsl2 (by omega);clear h09;go_wp2_with fail
 refine hput.mono ?_;rintro e w3 ⟨v,rfl,hown,hB4⟩;have hE3:Ev w3 w.heap.size f:=hE2.kept (Kept.of_below (F:=fun _=>False) hB4) (fun h=>h);have hz3:=hB4.size;have hB5:Below w.heap.size w w3:=hB3.trans (hB4.mono (by omega));have hown:OwnI w3 w.heap.size 5 .u8 v (ib (zs++enc k)):=hown.mono (by omega);clear hB3 hB4 hE2 hput hsl2 c0 hwk;go_wp2_with fail
 refine(parts_any _ _ w3 hE3).mono ?_;rintro e w4 ⟨v4,rfl,hpv,hB6⟩;obtain⟨g,rfl,hg1,hg2,hg3⟩:=hpv.ok hkk;have hk6:=Kept.of_below (F:=fun _=>False) hB6;have hE4:Ev w4 w.heap.size f:=hE3.kept hk6 (fun h=>h);have hown:OwnI w4 w.heap.size 5 .u8 v (ib (zs++enc k)):=hown.kept hk6 (fun _ _ h=>h);have hz4:=hB6.size;have hB7:Below w.heap.size w w4:=hB5.trans (hB6.mono (by omega));have hpp:=hrr.out.2.1;have hl7:=encP_len f _ hpp;have hn6:=parts_len (f 0);generalize parts (f 0)=ps at *;have hPP:=Lib.hid hpp;obtain⟨n,hn⟩:∃ n,ps.length=n:=⟨_,rfl⟩;rw[hn] at hn6 ⊢;clear hE3 hpv hB6 hk6 hB5 hpp hrr hkk;go_wp2_with fail
 go_loopw [0,18] (fun x y wr=>∃ i:Nat,y=.int .i64 i∧i≤n∧Kept (fun _=>False) w4 wr∧OwnI wr w.heap.size 5 .u8 x (ib (zs++enc k++encP f (ps.take i)))∧Below w.heap.size w wr) (fun _ y _=>n - (intOf y).toNat)
 case atStart=>exact⟨0,rfl,by omega,Kept.refl _ _,by simpa[encP] using hown,hB7⟩
 case round=>
  obtain⟨i,rfl,hi,hK,hox,hBr⟩:=hrel;by_cases hin:i < n
  ·have ef:=hE4.kept hK (fun h=>h)
   have c1:wr.cell? ⟨g,i,none⟩=_:=(hK.cell (p:=⟨g,i,none⟩) hg2 (fun h=>h)).trans (hg3 i (by omega));have hj:ps.getD i 0 ∈ ps:=getD_mem ps i (by omega) 0;have ht:=take_snoc ps i (by omega) 0;have hPj:=hPP.out _ hj;have hlt:=encP_len f (ps.take i) (fun j hj=>hPP.out j (List.mem_of_mem_take hj));rw[List.length_take] at hlt;generalize ps.getD i 0=j at *;have d1:=ef.cell j;obtain⟨m,hm⟩:∃ m:Nat,(f j).toNat=m:=⟨_,rfl⟩;have hfm:f j=(m:Int):=by omega
   have hwm:IntKind.u64.wrap (m:Int)=(m:Int):=IntWalk.u64_in _ ⟨by omega,by omega⟩;rw[hfm] at d1;have hE5:Hid (encP f (ps.take (i+1))=encP f (ps.take i)++enc m):=Lib.hid (by rw[ht,encP_snoc,hm]);obtain⟨xs,hxs⟩:∃ xs,zs++enc k++encP f (ps.take i)=xs:=⟨_,rfl⟩;have hlx:xs.length≤9100:=by rw[← hxs];simp;omega
   rw[hxs] at hox;obtain⟨a2,cap2,rfl,hle,hmx,hsl3⟩:=hox.sl;rw[ib_length] at hle;rw[ib_length];have hput:=put_any a2 cap2 xs m (by omega) _ wr hsl3 (by omega);have hzr:=hK.size;have hXS:=Lib.hid hxs;clear hox hPj hxs hown;go_wp2_with fail
   refine hput.mono ?_;rintro e w5 ⟨v5,rfl,hown5,hB8⟩;have hown5:OwnI w5 w.heap.size 5 .u8 v5 (ib (zs++enc k++encP f (ps.take (i+1)))):=by
    rw[hE5.out,← List.append_assoc,hXS.out];exact hown5.mono (by omega)
   have hK5:Kept (fun _=>False) w4 w5:=hK.trans (Kept.of_below hB8) (fun _ _ h=>h);have hB9:Below w.heap.size w w5:=hBr.trans (hB8.mono (by omega));clear hput hE5 hXS hB8 hsl3;go_wp2_with fail
   go_roundw
   case rel=>exact⟨i+1,rfl,by omega,hK5,hown5,hB9⟩
   case measure=>simp[intOf];omega
  ·obtain rfl:i=n:=by omega
   rw[List.take_of_length_le (by omega),List.append_assoc,← hEE.out] at hox;go_wp2_with fail
   go_ret
   exact⟨_,rfl,hox,hBr⟩
theorem rd_snoc(zs:List Nat):∀ (l:List (Fin 10)) (j:Fin 10) (f:Evt) (a e:Nat),rd zs (l++[j]) f a e =
  (upd (rd zs l f a e).1 j ((nxt (rd zs l f a e).2.2 zs most (rd zs l f a e).2.1).1:Nat),(nxt (rd zs l f a e).2.2 zs most (rd zs l f a e).2.1).2.1,(nxt (rd zs l f a e).2.2 zs most (rd zs l f a e).2.1).2.2):=by
 intro l
 induction l with
 | nil=>intro j f a e;rfl
 | cons i l ih=>intro j f a e;simp only[List.cons_append,rd];exact ih _ _ _ _
theorem nxt_small{e:Nat}{zs:List Nat}{mo at_ rn ra re:Nat}(h:nxt e zs mo at_=(rn,ra,re)):rn≤mo:=by
 unfold nxt at h;split at h
 ·unfold res at h
  split at h
  ·simp at h;omega
  ·split at h <;> simp at h <;> omega
 ·simp at h;omega
theorem rd_le(zs:List Nat):∀ (ps:List (Fin 10)) (f:Evt) (a e:Nat),a≤zs.length→(rd zs ps f a e).2.1≤zs.length:=by
 intro ps
 induction ps with
 | nil=>intro f a e h;exact h
 | cons j ps ih=>
  intro f a e h;unfold rd;exact ih _ _ _ (nxt_le (rn:=(nxt e zs most a).1) (re:=(nxt e zs most a).2.2) rfl h)
def set10(w:World)(b:Nat)(g:Evt):World:=
 ((((((((((w.setCell ⟨b,0,none⟩ (.int .i64 (g 0))).setCell ⟨b,1,none⟩ (.int .i64 (g 1))).setCell ⟨b,2,none⟩ (.int .i64 (g 2))).setCell ⟨b,3,none⟩ (.int .i64 (g 3))).setCell ⟨b,4,none⟩ (.int .i64 (g 4))).setCell ⟨b,5,none⟩ (.int .i64 (g 5))).setCell ⟨b,6,none⟩ (.int .i64 (g 6))).setCell ⟨b,7,none⟩ (.int .i64 (g 7))).setCell ⟨b,8,none⟩ (.int .i64 (g 8))).setCell ⟨b,9,none⟩ (.int .i64 (g 9)))
theorem set10_ev{w:World}{b:Nat}{f:Evt}(h:Ev w b f)(g:Evt):Ev (set10 w b g) b g:=by
 have:=(((((((((h.set 0 (g 0)).set 1 (g 1)).set 2 (g 2)).set 3 (g 3)).set 4 (g 4)).set 5 (g 5)).set 6 (g 6)).set 7 (g 7)).set 8 (g 8)).set 9 (g 9);exact this
theorem set10_kept(w:World)(b:Nat)(g:Evt):Kept (fun x=>x=b) w (set10 w b g):=by
 unfold set10;have k:=fun (w:World) (i:Nat) (u:Value)=>Kept.set1 w b i u;exact(((((((((k w 0 _).trans (k _ 1 _) (fun _ _ h=>h)).trans (k _ 2 _) (fun _ _ h=>h)).trans (k _ 3 _) (fun _ _ h=>h)).trans (k _ 4 _) (fun _ _ h=>h)).trans (k _ 5 _) (fun _ _ h=>h)).trans (k _ 6 _) (fun _ _ h=>h)).trans (k _ 7 _) (fun _ _ h=>h)).trans (k _ 8 _) (fun _ _ h=>h)).trans (k _ 9 _) (fun _ _ h=>h)
theorem one_any(r:Nat)(a:Option Addr)(cap:Nat)(zs:List Nat)(p:Nat→Prop)(w:World)(h:Rd w r a zs.length cap 0 0)(hsl:Sl .u8 w p a (ib zs))(hp2:∀ x,p x→x≠r∧x < w.heap.size)(hcap:zs.length≤cap)(hz:zs.length≤100000)(hcb:∀ c ∈ zs,c < 256)
  (f:Evt) (n e0:Nat) (hR:getR zs=(f,n,e0)):
  Calls Tryz.prog 34 #[.pointer (some ⟨r,0,none⟩)] w fun x w'=>x=.returned (.tuple #[.agg (evc (if e0=0 then f else noev)),.int .i64 e0])∧Rd w' r a zs.length cap n e0∧Kept (fun x=>x=r) w w':=by
 have hp:∀ x,p x→x≠r:=fun x hx=>(hp2 x hx).1;obtain⟨x,hx⟩:∃ x,nxt 0 zs 9 0=x:=⟨_,rfl⟩;obtain⟨k,a1,e1⟩:=x;have hk9:=nxt_small hx;have hR2:rd zs (parts (k:Nat)) (ev0 (k:Nat)) a1 e1=(f,n,e0):=by
  have:=hR;unfold getR at this;rw[hx] at this;exact this
 have ha1:=nxt_le hx (Nat.zero_le _);have HR:=Lib.hid hR2;have hrl:=lt_of h;have hnum:=num_any r a cap 0 9 0 zs p;have hn2:Calls Tryz.prog 62 #[.pointer (some ⟨r,0,none⟩),.int .u64 9] (w.alloc (.cells (evc noev) 28)) _:=
  hnum _ (h.kept ((Kept.refl (fun _=>False) w).alloc _) (fun h=>h)) (hsl.kept ((Kept.refl (fun _=>False) w).alloc _) (fun _ _ h=>h)) hp (Nat.zero_le _) hcap hz hcb k a1 e1 hx
 have hEz:Ev (w.alloc (.cells (evc noev) 28)) w.heap.size noev:=Ev.new _ _;have hKz:Kept (fun x=>x=r) w (w.alloc (.cells (evc noev) 28)):=(Kept.refl _ w).alloc _;have hslz:Sl .u8 (w.alloc (.cells (evc noev) 28)) p a (ib zs):=hsl.kept ((Kept.refl (fun _=>False) w).alloc _) (fun _ _ h=>h);have hzz:(w.alloc (.cells (evc noev) 28)).heap.size=w.heap.size+1:=by simp
 clear hR hR2 hx hnum h hsl;go_enter Tryz.func34,Tryz.ntmps34
 go_wp2_with fail
 change Calls _ _ _ (w.alloc (.cells (evc noev) 28)) _;generalize w.alloc (.cells (evc noev) 28)=w1 at *;refine hn2.mono ?_;rintro e w2 ⟨rfl,hrd,hK⟩;have hK2:=hKz.trans hK (fun _ _ h=>h);have hE2:Ev w2 w.heap.size noev:=hEz.kept hK (by omega);have hsl2:=hslz.kept hK (fun x hx h=>hp x hx h);have hz2:=hK.size;have hwk:IntKind.i64.wrap (k:Int)=(k:Int):=IntWalk.i64_in _ ⟨by omega,by omega⟩;clear hn2 hKz hEz hslz hK;have hE3:Ev (w2.alloc (.cells (evc (ev0 (k:Nat))) 28)) w2.heap.size (ev0 (k:Nat)):=Ev.new _ _;have hK3:Kept (fun x=>x=r) w (w2.alloc (.cells (evc (ev0 (k:Nat))) 28)):=hK2.alloc _;have hEz3:Ev (w2.alloc (.cells (evc (ev0 (k:Nat))) 28)) w.heap.size noev:=hE2.kept ((Kept.refl (fun _=>False) w2).alloc _) (fun h=>h);have hrd3:Rd (w2.alloc (.cells (evc (ev0 (k:Nat))) 28)) r a zs.length cap a1 e1:=hrd.kept ((Kept.refl (fun _=>False) w2).alloc _) (fun h=>h);have hsl3:Sl .u8 (w2.alloc (.cells (evc (ev0 (k:Nat))) 28)) p a (ib zs):=hsl2.kept ((Kept.refl (fun _=>False) w2).alloc _) (fun _ _ h=>h);have hz3:(w2.alloc (.cells (evc (ev0 (k:Nat))) 28)).heap.size=w2.heap.size+1:=by simp
 go_wp2_with fail
 change Calls _ _ _ (w2.alloc (.cells (evc (ev0 (k:Nat))) 28)) _;generalize w2.alloc (.cells (evc (ev0 (k:Nat))) 28)=w3 at *;refine(parts_any _ _ w3 hE3).mono ?_;rintro e w4 ⟨v,rfl,hpv,hB4⟩;have k4:=Kept.of_below (F:=fun _=>False) hB4;obtain⟨g,rfl,hg1,hg2,hg3⟩:=hpv.ok (show kOK (ev0 (k:Nat) 0) from⟨Int.natCast_nonneg _,by show (k:Int)≤9;omega⟩);rw[show (ev0 (k:Nat)) 0=(k:Int) from rfl] at hg3 ⊢;have hK4:Kept (fun x=>x=r) w w4:=hK3.trans k4 (fun _ _ h=>h.elim);have hEz4:=hEz3.kept k4 (fun h=>h);have hE4:=hE3.kept k4 (fun h=>h);have hrd4:Rd w4 r a zs.length cap a1 e1:=hrd3.kept k4 (fun h=>h);have hsl4:=hsl3.kept k4 (fun _ _ h=>h);have hz4:=hB4.size;have hn6:=parts_len (k:Nat);generalize parts (k:Nat)=ps at *;obtain⟨m,hm⟩:∃ m,ps.length=m:=⟨_,rfl⟩;rw[hm] at hn6 ⊢;generalize ev0 (k:Nat)=g0 at *;obtain⟨bb,hbb⟩:∃ bb,w2.heap.size=bb:=⟨_,rfl⟩;rw[hbb] at hE4 hg3 ⊢;have q1:bb≠r:=by omega
 have q2:g≠r:=by omega
 have q3:g≠bb:=by omega
 have q4:w.heap.size≠r:=by omega
 have q5:w.heap.size≠bb:=by omega
 have q6:bb < w4.heap.size:=by omega
 have q7:w.heap.size < w4.heap.size:=by omega
 have q8:w.heap.size≤bb:=by omega
 have hpb:∀ x,p x→x≠bb:=fun x hx=>by have:=(hp2 x hx).2;omega
 clear hE3 hK3 hEz3 hrd3 hsl3 hpv hB4 k4 hsl2 hE2 hrd hK2 hzz hz2 hz3 hz4 hwk hbb hg1;go_wp2_with fail
 go_loopw [13] (fun x wr=>∃ i:Nat,x=.int .i64 i∧i≤m∧Kept (fun x=>x=r∨x=bb) w4 wr∧Ev wr bb (rd zs (ps.take i) g0 a1 e1).1∧Rd wr r a zs.length cap (rd zs (ps.take i) g0 a1 e1).2.1 (rd zs (ps.take i) g0 a1 e1).2.2) (fun x _=>m - (intOf x).toNat)
 case atStart=>exact⟨0,rfl,by omega,Kept.refl _ _,hE4,hrd4⟩
 case round=>
  obtain⟨i,rfl,hi,hK,hev,hrd⟩:=hrel;clear hE4 hrd4;by_cases hin:i < m
  ·have c1:wr.cell? ⟨g,i,none⟩=_:=(hK.cell (p:=⟨g,i,none⟩) hg2 (show ¬ (g=r∨g=bb) by omega)).trans (hg3 i (by omega))
   have ht:=take_snoc ps i (by omega) 0;have hs:=rd_snoc zs (ps.take i) (ps.getD i 0) g0 a1 e1;rw[← ht] at hs;have hle:=rd_le zs (ps.take i) g0 a1 e1 ha1;generalize ps.getD i 0=j at *;obtain⟨y,hy⟩:∃ y,rd zs (ps.take i) g0 a1 e1=y:=⟨_,rfl⟩;obtain⟨g2,a2,e2⟩:=y;rw[hy] at hev hrd hs hle;dsimp only at hev hrd hs hle;obtain⟨y,hx⟩:∃ y,nxt e2 zs most a2=y:=⟨_,rfl⟩;obtain⟨rn,ra,re⟩:=y;rw[hx] at hs;dsimp only at hs;have hsm:=nxt_small hx;unfold most at hsm hx;have hsl5:Sl .u8 wr p a (ib zs):=hsl4.kept hK (fun x hx h=>h.elim (fun h=>hp x hx h) (fun h=>hpb x hx h));have hnum:=num_any r a cap a2 2147483647 e2 zs p wr hrd hsl5 hp hle hcap hz hcb rn ra re hx;have hwr:IntKind.i64.wrap (rn:Int)=(rn:Int):=IntWalk.i64_in _ ⟨by omega,by omega⟩;have HS:=Lib.hid hs;clear hs hx hy ht;go_wp2_with fail
   refine hnum.mono ?_;rintro e w5 ⟨rfl,hrd5,hK5⟩;have hev5:=hev.kept hK5 q1;have d2:w5.frozen? ⟨bb,j.val,none⟩=false:=hev5.free j;have d3:=hev5.cell j;have hev6:=hev5.set j (rn:Int);have hrd6:Rd (w5.setCell ⟨bb,j.val,none⟩ (.int .i64 (rn:Int))) r a zs.length cap ra re:=hrd5.kept (Kept.set1 w5 bb j.val (.int .i64 (rn:Int))) (Ne.symm q1);have hK6:Kept (fun x=>x=r∨x=bb) w4 (w5.setCell ⟨bb,j.val,none⟩ (.int .i64 (rn:Int))):=(hK.trans hK5 (fun x _ h=>.inl h)).trans (Kept.set1 w5 bb j.val (.int .i64 (rn:Int))) (fun x _ h=>.inr h);clear hnum hev hrd hev5 hrd5;go_wp2_with fail
   go_roundw
   case rel=>exact⟨i+1,by go_num,by omega,hK6,by rw[HS.out];exact hev6,by rw[HS.out];exact hrd6⟩
   case measure=>simp[intOf];omega
  ·obtain rfl:i=m:=by omega
   rw[List.take_of_length_le (by omega),HR.out] at hev hrd;dsimp only at hev hrd;have ez:=hEz4.kept hK (show ¬ (w.heap.size=r∨w.heap.size=bb) by omega);have herr:=err_any r a zs.length cap n e0 wr hrd;obtain⟨a0,a1,a2,a3,a4,a5,a6,a7,a8,a9⟩:=hev.ten;obtain⟨b0,b1,b2,b3,b4,b5,b6,b7,b8,b9⟩:=ez.ten;have hfz:=ez.free;by_cases he:e0=0
   ·subst he
    go_wp2_with fail
    refine herr.mono ?_;rintro e w5 ⟨rfl,rfl⟩;go_wp2_with fail
    change bodyPost _ _ _ _ _ (set10 wr w.heap.size f);generalize hw6:set10 wr w.heap.size f=w6;have ev6:Ev w6 w.heap.size f:=hw6 ▸ set10_ev ez f;have k6:Kept (fun x=>x=w.heap.size) wr w6:=hw6 ▸ set10_kept wr w.heap.size f;have hrd6:=hrd.kept k6 (Ne.symm q4);have hK6:Kept (fun x=>x=r) w w6:=(hK4.trans hK (fun x hx h=>h.elim (fun h=>h) (fun h=>absurd h (by omega)))).trans k6 (fun x hx h=>absurd h (by omega));clear ez hfz a0 a1 a2 a3 a4 a5 a6 a7 a8 a9 b0 b1 b2 b3 b4 b5 b6 b7 b8 b9;obtain⟨a0,a1,a2,a3,a4,a5,a6,a7,a8,a9⟩:=ev6.ten;refine bodyPost_ret (by simp[results,Tryz.results34,go_sem,a0,a1,a2,a3,a4,a5,a6,a7,a8,a9];try rfl) rfl ?_;exact⟨rfl,hrd6,hK6⟩
   ·have e1:((e0:Int) != 0)=true:=by simp;omega
    go_wp2_with fail
    refine herr.mono ?_;rintro e w5 ⟨rfl,rfl⟩;go_wp2_with fail
    refine herr.mono ?_;rintro e w5 ⟨rfl,rfl⟩;go_wp2_with fail
    change bodyPost _ _ _ _ _ (set10 wr w.heap.size noev);generalize hw6:set10 wr w.heap.size noev=w6;have ev6:Ev w6 w.heap.size noev:=hw6 ▸ set10_ev ez noev;have k6:Kept (fun x=>x=w.heap.size) wr w6:=hw6 ▸ set10_kept wr w.heap.size noev;have hrd6:=hrd.kept k6 (Ne.symm q4);have hK6:Kept (fun x=>x=r) w w6:=(hK4.trans hK (fun x hx h=>h.elim (fun h=>h) (fun h=>absurd h (by omega)))).trans k6 (fun x hx h=>absurd h (by omega));clear ez hfz a0 a1 a2 a3 a4 a5 a6 a7 a8 a9 b0 b1 b2 b3 b4 b5 b6 b7 b8 b9;obtain⟨a0,a1,a2,a3,a4,a5,a6,a7,a8,a9⟩:=ev6.ten;refine bodyPost_ret (by simp[results,Tryz.results34,go_sem,a0,a1,a2,a3,a4,a5,a6,a7,a8,a9];try rfl) rfl ?_;exact⟨rfl,hrd6,hK6⟩
end Go.Proofs.YtigeldkbfbcpmaaGreat.P16
