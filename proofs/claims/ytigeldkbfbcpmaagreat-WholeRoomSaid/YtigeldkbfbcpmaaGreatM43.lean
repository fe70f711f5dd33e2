/- A part of the proof: what the functions of the program come to, and what holds at all times. -/
import Derived.Deep.CutRange
import Derived.Test.YtigeldkbfbcpmaaGreatM42
import Derived.Test.YtigeldkbfbcpmaaGreatM31
import Derived.Test.YtigeldkbfbcpmaaGreatM09
set_option linter.unusedVariables false
set_option linter.unusedSectionVars false
set_option linter.unusedSimpArgs false
set_option maxRecDepth 100000
set_option maxHeartbeats 8000000
namespace Go.Proofs.YtigeldkbfbcpmaaGreat.P16
open Go.RowKit Go.Kpt WirePure
theorem allE_nil(fuel c:Nat):allE fuel [] c=([],0,0):=by cases fuel <;> simp[allE]
theorem allE_err{fuel c:Nat}{zs:List Nat}{f:Evt}{n e:Nat}(hz:zs≠[])(h:getE zs=(f,n,e))(he:e≠0):allE (fuel+1) zs c=([],0,e):=by
 unfold allE;rw[if_neg hz,h];dsimp only;rw[if_pos he]
theorem allE_full{fuel:Nat}{zs:List Nat}{f:Evt}{n:Nat}(hz:zs≠[])(h:getE zs=(f,n,0)):allE (fuel+1) zs 16384=([],0,6):=by
 unfold allE;rw[if_neg hz,h];dsimp only;rw[if_neg (by omega),if_pos rfl]
theorem allE_next{fuel c:Nat}{zs:List Nat}{f:Evt}{n:Nat}(hz:zs≠[])(h:getE zs=(f,n,0))(hc:c≠16384):
  allE (fuel+1) zs c=(f :: (allE fuel (zs.drop n) (c+1)).1,n+(allE fuel (zs.drop n) (c+1)).2.1,(allE fuel (zs.drop n) (c+1)).2.2):=by
 rw[allE,if_neg hz,h];dsimp only;rw[if_neg (by omega),if_neg hc]
def Rest(zs:List Nat)(l0:List Evt)(at_ fuel:Nat)(L:List Evt)(N E:Nat):Prop:=
 l0++(allE fuel (zs.drop at_) l0.length).1=L∧at_+(allE fuel (zs.drop at_) l0.length).2.1=N∧(allE fuel (zs.drop at_) l0.length).2.2=E∧zs.length - at_≤fuel
theorem all_any(a:Option Addr)(cap:Nat)(zs:List Nat)(p:Nat→Prop)(w:World)(hsl:Sl .u8 w p a (ib zs))(hp:∀ x,p x→x < w.heap.size)(hcap:zs.length≤cap)(hz:zs.length≤20000)(hcb:∀ c ∈ zs,c < 256)
  (L:List Evt) (N E:Nat) (hR:allB zs=(L,N,E)):
  Calls Tryz.prog 31 #[.slice a zs.length cap] w fun x w'=>∃ v,x=.returned (.tuple #[v,.int .i64 N,.int .i64 E])∧OwnE w' w.heap.size v L∧Below w.heap.size w w':=by
 have hnil:=OwnE.nil w w.heap.size;have hRest:Rest zs [] 0 zs.length L N E:=by
  unfold allB at hR;unfold Rest;simp only[List.length_nil,List.drop_zero,hR];simp
 have HR:=Lib.hid hRest;have c9:¬ (262144:Int) < (zs.length:Int):=by omega
 clear hR hRest;go_enter Tryz.func31,Tryz.ntmps31
 go_wp2_with fail
 go_loopw [5,6] (fun x y wr=>∃ (l0:List Evt) (at_ fuel:Nat),y=.int .i64 at_∧at_≤zs.length∧l0.length≤at_∧OwnE wr w.heap.size x l0∧Below w.heap.size w wr∧Hid (Rest zs l0 at_ fuel L N E)) (fun _ y _=>zs.length - (intOf y).toNat)
 case atStart=>exact⟨[],0,zs.length,rfl,by omega,by simp,hnil,Below.refl _ _,HR⟩
 case round=>
  clear hnil HR;obtain⟨l0,at_,fuel,rfl,hat,hl0,hown,hB,HR⟩:=hrel;by_cases hin:at_ < zs.length
  ·obtain⟨x,hx⟩:∃ x,getE (zs.drop at_)=x:=⟨_,rfl⟩
   obtain⟨f,n,e⟩:=x;obtain⟨h1,h2,h3,h4⟩:=HR.out;obtain⟨fuel,rfl⟩:∃ k,fuel=k+1:=⟨fuel - 1,by omega⟩;have hne:zs.drop at_≠[]:=fun h=>by have:=congrArg List.length h;simp at this;omega
   have hslr:Sl .u8 wr p a (ib zs):=hsl.kept (Kept.of_below (F:=fun _=>False) (show Below w.heap.size w wr from hB)) (fun _ _ h=>h);have hsl2:Sl .u8 wr p (Option.map (fun x=>x.add at_) a) (ib (zs.drop at_)):=by rw[ib_drop];exact Sl.drop hslr at_
   have hbase:=hB.size;have hget:=get_any (Option.map (fun x=>x.add at_) a) (cap - at_) (zs.drop at_) p wr hsl2 (fun x hx=>Nat.lt_of_lt_of_le (hp x hx) hbase) (by simp;omega) (by simp;omega) (fun c hc=>hcb c (List.mem_of_mem_drop hc)) f n e hx;rw[List.length_drop] at hget;have i1:(at_:Int)≤(zs.length:Int):=by omega
   have i2:(zs.length:Int)≤(cap:Int):=by omega
   have i3:¬ cap=at_:=by omega
   generalize hz2:zs.length - at_=len2 at *;obtain⟨ao,co,rfl,hle,hmx,-⟩:=hown.se;simp only[evc] at hget;have hne2:Hid (zs.drop at_≠[]):=Lib.hid hne;by_cases he:e=0
   ·subst he
    obtain⟨q1,q2,q3,q4⟩:=getE_ok (fun c hc=>hcb c (List.mem_of_mem_drop hc)) hx;simp at q3;have HF:Hid (l0.length=16384→l0=L∧at_=N∧6=E):=Lib.hid (fun hfull=>by
     rw[hfull,allE_full hne hx] at h1 h2 h3;dsimp only at h1 h2 h3;rw[List.append_nil] at h1;exact⟨h1,by omega,by omega⟩)
    have HN:Hid (l0.length≠16384→Rest zs (l0++[f]) (at_+n) fuel L N E):=Lib.hid (fun hc=>by
     rw[allE_next hne hx hc,List.drop_drop] at h1 h2 h3;dsimp only at h1 h2 h3;unfold Rest;rw[List.length_append];simp only[List.length_singleton];refine⟨by rw[← h1];simp,by omega,h3,by omega⟩)
    have hw2:Ev (wr.alloc (.cells (evc f) 28)) wr.heap.size f:=Ev.new _ _;have qn:at_+n≤zs.length:=by omega
    obtain⟨m,hm⟩:∃ m,at_+n=m:=⟨_,rfl⟩;have e2:(at_:Int)+(n:Int)=(m:Int):=by omega
    have e3:IntKind.i64.wrap (m:Int)=(m:Int):=IntWalk.i64_in _ ⟨by omega,by omega⟩;have e4:l0.length+1≤m:=by omega
    have e5:m≤zs.length:=by omega
    rw[hm] at HN;clear h1 h2 h3 h4 hne hne2 hx q1 q4 HR hsl2 hslr hw2;go_wp2_with fail
    refine hget.mono ?_;clear hget;rintro e w2 ⟨rfl,hB2⟩;have hown2:=hown.below hB2;have hB3:Below w.heap.size w w2:=hB.trans (hB2.mono (by omega));have hE3:Ev (w2.alloc (.cells (evc f) 28)) w2.heap.size f:=Ev.new _ _;have hown3:=hown2.alloc (.cells (evc f) 28);have hB4:Below w.heap.size w (w2.alloc (.cells (evc f) 28)):=hB3.alloc (by have:=hB2.size;omega) _;have hz3:w.heap.size≤(w2.alloc (.cells (evc f) 28)).heap.size:=hB4.size;obtain⟨w3,hw3⟩:∃ w3,w2.alloc (.cells (evc f) 28)=w3:=⟨_,rfl⟩;rw[hw3] at hE3 hown3 hB4 hz3;simp only[evc] at hw3;go_upto_region 7 with fail
    clear hw3 hown hown2 hB hB2 hB3;obtain⟨a0,a1,a2,a3,a4,a5,a6,a7,a8,a9⟩:=hE3.ten;by_cases hfull:l0.length=16384
    ·obtain⟨rfl,rfl,rfl⟩:=HF.out hfull
     have c1:((l0.length:Int) == 16384)=true:=by simp;omega
     clear HF HN;go_wp2_with fail
     go_returns
     exact⟨_,rfl,hown3,hB4⟩
    ·have c1:((l0.length:Int) == 16384)=false:=by simp;omega
     have HN2:=HN.out hfull;clear HF HN;have hE4:Ev (w3.alloc (.cells (evc f) 28)) w3.heap.size f:=Ev.new _ _;have hown4:=hown3.alloc (.cells (evc f) 28);have hz4:(w3.alloc (.cells (evc f) 28)).heap.size=w3.heap.size+1:=by simp
     have hB5:Below w.heap.size w (w3.alloc (.cells (evc f) 28)):=hB4.alloc hz3 _;obtain⟨w4,hw4⟩:∃ w4,w3.alloc (.cells (evc f) 28)=w4:=⟨_,rfl⟩;rw[hw4] at hE4 hown4 hz4 hB5;simp only[evc] at hw4;go_wp2_with (at_builtin;refine wpList_append_ev rfl _ _ rfl w.heap.size _ l0 rfl hown4 _ _ f rfl hE4 (by omega) (by omega) ?_;intro v5 w5 hown5 hgrow hloc)
     have hB6:Below w.heap.size w w5:=hB5.trans ((Kept.of_grown hgrow).below (by omega) (fun x hx h=>by have:=hown4.lt x h.symm;omega));clear hown4 hgrow hloc hE4 hw4;go_wp2_with fail
     go_roundw
     case rel=>exact⟨l0++[f],m,fuel,rfl,e5,by simpa using e4,hown5,hB6,HN2⟩
     case measure=>simp[intOf];omega
   ·rw[allE_err hne hx he] at h1 h2 h3
    dsimp only at h1 h2 h3;rw[List.append_nil] at h1;rw[Nat.add_zero] at h2;subst h1;subst h2;subst h3;have e1:((e:Int) != 0)=true:=by simp;omega
    clear h4 HR he hx hne hne2;go_wp2_with fail
    refine hget.mono ?_;clear hget;rintro e w2 ⟨rfl,hB2⟩;have hown2:=(hown.below hB2).alloc (.cells (evc f) 28);have hB3:Below w.heap.size w (w2.alloc (.cells (evc f) 28)):=(hB.trans (hB2.mono (by omega))).alloc (by have:=hB2.size;omega) _;simp only[evc] at hown2 hB3;go_wp2_with fail
    go_returns
    exact⟨_,rfl,hown2,hB3⟩
  ·obtain rfl:at_=zs.length:=by omega
   obtain⟨h1,h2,h3,_⟩:=HR.out;rw[List.drop_eq_nil_of_le (Nat.le_refl _),allE_nil] at h1 h2 h3;dsimp only at h1 h2 h3;rw[List.append_nil] at h1;rw[Nat.add_zero] at h2;subst h1;subst h2;subst h3;clear HR;go_wp2_with fail
   go_returns
   exact⟨_,rfl,hown,hB⟩
def okE(f:Evt):Prop:=right f∧f 9≤40
instance (f:Evt):Decidable (okE f):=by unfold okE;infer_instance
def rlm(l:List Evt):List Evt:=l.filter (fun f=>decide (okE f))
def encM(l:List Evt):List Nat:=(rlm l).flatMap encE
theorem rlm_ok(l:List Evt):∀ f ∈ rlm l,okE f:=fun f hf=>by simpa using (List.mem_filter.1 hf).2
theorem rlm_right(l:List Evt):∀ f ∈ rlm l,right f:=fun f hf=>(rlm_ok l f hf).1
theorem rlm_len(l:List Evt):(rlm l).length≤l.length:=List.length_filter_le _ _
theorem encE_len31{f:Evt}(h:right f):(encE f).length≤35:=by
 unfold encE;have h0:(enc (f 0).toNat).length≤5:=enc_len_le 5 _ (by have:=h.1;omega) (by decide);have h1:∀ l:List (Fin 10),(∀ j ∈ l,0≤f j∧f j≤2147483647)→(l.flatMap fun j=>enc (f j).toNat).length≤5*l.length:=by
  intro l
  induction l with
  | nil=>intro _;simp
  | cons a l ih=>
   intro hl;have a1:=hl a (by simp);have a2:(enc (f a).toNat).length≤5:=enc_len_le 5 _ (by omega) (by decide);have a3:=ih (fun j hj=>hl j (List.mem_cons_of_mem _ hj));simp only[List.flatMap_cons,List.length_append,List.length_cons];omega
 have h2:=h1 (parts (f 0)) h.2.1;have h3:=parts_len (f 0);rw[List.length_append];omega
theorem encAll_len{l:List Evt}(h:∀ f ∈ l,right f):(l.flatMap encE).length≤35*l.length:=by
 induction l with
 | nil=>simp
 | cons a l ih=>
  have h1:=encE_len31 (h a (by simp));have h2:=ih (fun f hf=>h f (List.mem_cons_of_mem _ hf));simp only[List.flatMap_cons,List.length_append,List.length_cons];omega
theorem encE_byte{f:Evt}(h:right f):∀ c ∈ encE f,c < 256:=by
 intro c hc;unfold encE at hc;rcases List.mem_append.1 hc with hc|hc
 ·refine enc_bytes 5 _ ?_ c hc
  have:=h.1;omega
 ·obtain⟨j,hj,hc⟩:=List.mem_flatMap.1 hc
  refine enc_bytes 5 _ ?_ c hc;have:=h.2.1 j hj;omega
theorem encAll_byte{l:List Evt}(h:∀ f ∈ l,right f):∀ c ∈ l.flatMap encE,c < 256:=by
 intro c hc;obtain⟨f,hf,hc⟩:=List.mem_flatMap.1 hc;exact encE_byte (h f hf) c hc
theorem encM_len(l:List Evt):(encM l).length≤35*l.length:=by
 have h1:=encAll_len (rlm_right l);have h2:=rlm_len l;unfold encM;omega
theorem encM_byte(l:List Evt):∀ c ∈ encM l,c < 256:=encAll_byte (rlm_right l)
theorem all_encM(l:List Evt)(h:l.length≤16384):allB (encM l)=(rlm l,(encM l).length,0):=by
 have:=rlm_len l;exact allE_enc (rlm l) (encM l).length 0 (rlm_right l) (by omega) (Nat.le_refl _)
theorem rlm_snoc(l:List Evt)(f:Evt):rlm (l++[f])=rlm l++(if okE f then [f] else []):=by
 unfold rlm;rw[List.filter_append];by_cases h:okE f <;> simp[h]
theorem encM_next(l:List Evt)(i:Nat)(h:i < l.length)(hr:okE (l.getD i noev)):encM (l.take (i+1))=encM (l.take i)++encE (l.getD i noev)∧rlm (l.take (i+1))=rlm (l.take i)++[l.getD i noev]:=by
 unfold encM;rw[take_snoc l i h noev,rlm_snoc,if_pos hr];simp
theorem encM_same(l:List Evt)(i:Nat)(h:i < l.length)(hr:¬ okE (l.getD i noev)):encM (l.take (i+1))=encM (l.take i)∧rlm (l.take (i+1))=rlm (l.take i):=by
 unfold encM;rw[take_snoc l i h noev,rlm_snoc,if_neg hr];simp
theorem own_apart{w:World}{b1 b2:Nat}{v1 v2:Value}{xs:List Int}{l:List Evt}(h1:OwnI w b1 5 .u8 v1 xs)(h2:OwnE w b2 v2 l):∀ g,v1.ownBlock=some g→v2.ownBlock=some g→False:=by
 intro g e1 e2;rcases h1.2 with ⟨rfl,_⟩|⟨g1,c1,cur1,rfl,_,hg1,_⟩
 ·cases e1
 ·rcases h2.2 with ⟨rfl,_⟩ | ⟨g2,c2,cur2,rfl,_,hg2,_⟩
  ·cases e2
  ·have a1:some g1=some g:=e1
   have a2:some g2=some g:=e2;cases a1;cases a2
   rw[hg1] at hg2;cases hg2
theorem SE.ten{w:World}{p:Nat→Prop}{a:Option Addr}{l:List Evt}(h:SE w p a l)(i:Nat)(hi:i < l.length):∃ b off,a=some ⟨b,off,none⟩∧p b ∧
  w.cell? ⟨b,off+i*10,none⟩=some (.int .i64 (l.getD i noev 0))∧w.cell? ⟨b,off+i*10+1,none⟩=some (.int .i64 (l.getD i noev 1))∧w.cell? ⟨b,off+i*10+2,none⟩=some (.int .i64 (l.getD i noev 2))∧w.cell? ⟨b,off+i*10+3,none⟩=some (.int .i64 (l.getD i noev 3))∧w.cell? ⟨b,off+i*10+4,none⟩=some (.int .i64 (l.getD i noev 4)) ∧
  w.cell? ⟨b,off+i*10+5,none⟩=some (.int .i64 (l.getD i noev 5))∧w.cell? ⟨b,off+i*10+6,none⟩=some (.int .i64 (l.getD i noev 6))∧w.cell? ⟨b,off+i*10+7,none⟩=some (.int .i64 (l.getD i noev 7))∧w.cell? ⟨b,off+i*10+8,none⟩=some (.int .i64 (l.getD i noev 8))∧w.cell? ⟨b,off+i*10+9,none⟩=some (.int .i64 (l.getD i noev 9)):=by
 obtain⟨b,off,ha,hb,hc⟩:=h i hi;refine⟨b,off,ha,hb,?_⟩;have k:=fun j=>hc j;simp only[← Nat.add_assoc] at k;exact⟨k 0,k 1,k 2,k 3,k 4,k 5,k 6,k 7,k 8,k 9⟩
theorem OwnE.empty(w:World)(base:Nat)(hb:base≤w.heap.size):OwnE (w.alloc (.cells #[] 28)) base (.slice (some ⟨w.heap.size,0,none⟩) 0 0) []:=
 ⟨rfl,.inr ⟨_,0,#[],rfl,hb,heap_alloc_new _ _,Nat.le_refl _,by unfold maxLen;omega,rfl,rfl⟩⟩
theorem mild_any(f:Evt)(w:World):Calls Tryz.prog 25 #[.agg (evc f)] w fun e w'=>e=.returned (.bool (decide (f 9≤40)))∧Below w.heap.size w w':=by
 have hE:=Ev.new w f;have hB:Below w.heap.size w (w.alloc (.cells (evc f) 28)):=by go_grown
 obtain⟨a0,a1,a2,a3,a4,a5,a6,a7,a8,a9⟩:=hE.ten;go_enter Tryz.func25,Tryz.ntmps25
 go_wp2_with fail
 go_ret
 exact⟨rfl,hB⟩
theorem few_any(a:Option Addr)(n cap:Nat)(w:World):Calls Tryz.prog 10 #[.slice a n cap] w fun e w'=>e=.returned (.bool (decide (n≤150)))∧w'=w:=by
 have hd:decide ((n:Int)≤150)=decide (n≤150):=by
  by_cases h:n≤150
  ·rw[decide_eq_true h,decide_eq_true (by omega)]
  ·rw[decide_eq_false h,decide_eq_false (by omega)]
 rw[← hd];clear hd;go_enter Tryz.func10,Tryz.ntmps10
 go_wp2_with fail
 go_ret
 exact⟨rfl,rfl⟩
theorem bytes_any(a:Option Addr)(ca:Nat)(la:List Evt)(hla:la.length≤160)(w:World)(ha:SE w (fun x=>x < w.heap.size) a la):
  Calls Tryz.prog 12 #[.slice a la.length ca] w fun e w'=>∃ v1 v2,e=.returned (.tuple #[v1,v2])∧OwnI w' w.heap.size 5 .u8 v1 (ib (encM la))∧OwnE w' w.heap.size v2 (rlm la)∧Below w.heap.size w w':=by
 obtain⟨i0,hi0,iz0,iz1,iz2⟩:=info_parts Tryz.info5;have hx0:OwnI ((w.alloc (.cells #[] 5)).alloc (.cells #[] 28)) w.heap.size 5 .u8 (.slice (some ⟨w.heap.size,0,none⟩) 0 0) (ib []):=(OwnI.empty w w.heap.size 5 .u8 (Nat.le_refl _)).alloc _;have hv0:OwnE ((w.alloc (.cells #[] 5)).alloc (.cells #[] 28)) w.heap.size (.slice (some ⟨(w.alloc (.cells #[] 5)).heap.size,0,none⟩) 0 0) []:=OwnE.empty _ _ (by simp);have kk:Kept (fun _=>False) w ((w.alloc (.cells #[] 5)).alloc (.cells #[] 28)):=(((Kept.refl _ w).alloc _).alloc _);have ha2:=ha.kept kk (fun _ _ h=>h);have hB2:Below w.heap.size w ((w.alloc (.cells #[] 5)).alloc (.cells #[] 28)):=kk.below (Nat.le_refl _) (fun _ _ h=>h);have hz2:=kk.size;rw[World.size_alloc] at hv0;obtain⟨w2,hw2⟩:∃ w2,(w.alloc (.cells #[] 5)).alloc (.cells #[] 28)=w2:=⟨_,rfl⟩;rw[hw2] at hx0 hv0 ha2 hB2 hz2;clear ha kk;obtain⟨n,hn⟩:∃ n,la.length=n:=⟨_,rfl⟩;rw[hn] at hla ⊢;go_enter Tryz.func12,Tryz.ntmps12
 go_wp2_with fail
 go_loopw [4,5,12] (fun x v c wr=>∃ i:Nat,c=.int .i64 i∧i≤n∧Kept (fun x=>w.heap.size≤x) w2 wr∧OwnI wr w.heap.size 5 .u8 x (ib (encM (la.take i)))∧OwnE wr w.heap.size v (rlm (la.take i))) (fun _ _ c _=>n - (intOf c).toNat)
 case atStart=>exact⟨0,rfl,by omega,Kept.refl _ _,hx0,hv0⟩
 case round=>
  obtain⟨i,rfl,hi,hK,hx,hv⟩:=hrel;clear hx0 hv0 hw2;by_cases hin:i < n
  ·have hse:=ha2.kept hK (fun x hx h=>by omega)
   obtain⟨bk,off,rfl,hbk,e0,e1,e2,e3,e4,e5,e6,e7,e8,e9⟩:=SE.ten hse i (by omega);have hnx:=encM_next la i (by omega);have hsm:=encM_same la i (by omega);have hlen:=encM_len (la.take i);have hrl:=rlm_len (la.take i);rw[List.length_take] at hlen hrl;generalize la.getD i noev=f at *;have hE:Ev (wr.alloc (.cells (evc f) 28)) wr.heap.size f:=Ev.new _ _;have hx1:=hx.alloc (.cells (evc f) 28);have hv1:=hv.alloc (.cells (evc f) 28);have hK1:=hK.alloc (.cells (evc f) 28);have hqb:w.heap.size≤wr.heap.size:=by have:=hK.size;omega
   have hza:wr.heap.size < (wr.alloc (.cells (evc f) 28)).heap.size:=by simp
   obtain⟨q,hq⟩:∃ q,wr.heap.size=q:=⟨_,rfl⟩;obtain⟨wa,hwa⟩:∃ wa,wr.alloc (.cells (evc f) 28)=wa:=⟨_,rfl⟩;rw[hwa] at hE hx1 hv1 hK1 hza;simp only[evc] at hwa;go_upto_region 6 with fail
   rw[hq] at hE hqb hza;clear hwa hx hv hK e0 e1 e2 e3 e4 e5 e6 e7 e8 e9 hse hq;obtain⟨e0,e1,e2,e3,e4,e5,e6,e7,e8,e9⟩:=hE.ten;have hr1:=fun W=>lright_any f W;have hr2:=fun W=>mild_any f W;have HE:=Lib.hid (show ∀ W,Kept (fun _=>False) wa W→Ev W q f from fun W k=>hE.kept k (fun h=>h));by_cases hrt:right f
   ·rw[decide_eq_true hrt] at hr1
    simp only[evc] at hr1 hr2;go_wp2_with fail
    refine(hr1 _).mono ?_;clear hr1;rintro e wb ⟨rfl,hBb⟩;have kb:=Kept.of_below (F:=fun _=>False) hBb;have hEb:=hE.kept kb (fun h=>h);have hxb:=hx1.kept kb (fun _ _ h=>h);have hvb:=hv1.kept kb (fun _ _ h=>h);have hKb:=hK1.trans kb (fun _ _ h=>h.elim);have hzb:=hBb.size;clear hE hx1 hv1 hK1 kb hBb e0 e1 e2 e3 e4 e5 e6 e7 e8 e9;obtain⟨e0,e1,e2,e3,e4,e5,e6,e7,e8,e9⟩:=hEb.ten;by_cases hm:f 9≤40
    ·rw[decide_eq_true hm] at hr2
     obtain⟨hn1,hn2⟩:=hnx ⟨hrt,hm⟩;clear hsm hnx;go_wp2_with fail
     refine(hr2 _).mono ?_;clear hr2;rintro e wc ⟨rfl,hBc⟩;have kc:=Kept.of_below (F:=fun _=>False) hBc;have hEc:=hEb.kept kc (fun h=>h);have hxc:=hxb.kept kc (fun _ _ h=>h);have hvc:=hvb.kept kc (fun _ _ h=>h);have hKc:=hKb.trans kc (fun _ _ h=>h.elim);have hzc:=hBc.size;clear hEb hxb hvb hKb kc hBc e0 e1 e2 e3 e4 e5 e6 e7 e8 e9;obtain⟨e0,e1,e2,e3,e4,e5,e6,e7,e8,e9⟩:=hEc.ten;obtain⟨ax,cx,rfl,-,-,hslx⟩:=hxc.sl;rw[ib_length] at hxc ⊢;have hput:=putE_any ax cx (encM (la.take i)) f _ wc hslx (by omega) hrt (fun x hx=>hx.2);simp only[evc] at hput;go_wp2_with fail
     refine hput.mono ?_;clear hput;rintro e w5 ⟨v3,rfl,hx5,hB5⟩;have k5:=Kept.of_below (F:=fun _=>False) hB5;have hE5:=hEc.kept k5 (fun h=>h);have hv5:=hvc.kept k5 (fun _ _ h=>h);have hK5:=hKc.trans k5 (fun _ _ h=>h.elim);have hz5:=hB5.size;have hx5':OwnI w5 w.heap.size 5 .u8 v3 (ib (encM (la.take (i+1)))):=by rw[hn1];exact hx5.mono (by omega)
     have hE9:Ev (w5.alloc (.cells (evc f) 28)) w5.heap.size f:=Ev.new _ _;have hx9:=hx5'.alloc (.cells (evc f) 28);have hv9:=hv5.alloc (.cells (evc f) 28);have hK9:=hK5.alloc (.cells (evc f) 28);have hz9:w.heap.size≤(w5.alloc (.cells (evc f) 28)).heap.size:=by have:=hK9.size;omega
     clear hEc hxc hvc hKc hslx hB5 k5 e0 e1 e2 e3 e4 e5 e6 e7 e8 e9 hx5 hx5' hv5 hK5;obtain⟨e0,e1,e2,e3,e4,e5,e6,e7,e8,e9⟩:=hE5.ten;obtain⟨w9,hw9⟩:∃ w9,w5.alloc (.cells (evc f) 28)=w9:=⟨_,rfl⟩;rw[hw9] at hE9 hx9 hv9 hK9 hz9;simp only[evc] at hw9;go_wp2_with (at_builtin;go_loud (
       refine wpList_append_ev rfl _ _ rfl w.heap.size u5 (rlm (la.take i)) rfl hv9 _ _ f rfl hE9 (by omega) hz9 ?_;intro v10 w10 hown10 hgrow hloc;have k10:Kept (fun x=>some x=u5.ownBlock) w9 w10:=Kept.of_grown hgrow;have hx10:=hx9.kept k10 (fun g h1 h2=>own_apart hx9 hv9 g h1 h2.symm);have hv10:OwnE w10 w.heap.size v10 (rlm (la.take (i+1))):=by rw[hn2];exact hown10
       have hK10:Kept (fun x=>w.heap.size≤x) w2 w10:=hK9.trans k10 (fun x _ h=>(hv9.lt x h.symm).1);clear hw9 hE9 hx9 hv9 hK9 hgrow hown10 hloc k10))
     exact⟨⟨i+1,rfl,by omega,hK10,hx10,hv10⟩,by simp[intOf];omega⟩
    ·rw[decide_eq_false hm] at hr2
     obtain⟨hn1,hn2⟩:=hsm (fun h=>hm h.2);clear hsm hnx;go_wp2_with fail
     refine(hr2 _).mono ?_;clear hr2;rintro e wc ⟨rfl,hBc⟩;have kc:=Kept.of_below (F:=fun _=>False) hBc;have hxc:OwnI wc w.heap.size 5 .u8 u4 (ib (encM (la.take (i+1)))):=by rw[hn1];exact hxb.kept kc (fun _ _ h=>h)
     have hvc:OwnE wc w.heap.size u5 (rlm (la.take (i+1))):=by rw[hn2];exact hvb.kept kc (fun _ _ h=>h)
     have hKc:=hKb.trans kc (fun _ _ h=>h.elim);clear hEb hxb hvb hKb kc hBc e0 e1 e2 e3 e4 e5 e6 e7 e8 e9;go_wp2_with fail
     exact⟨⟨i+1,rfl,by omega,hKc,hxc,hvc⟩,by simp[intOf];omega⟩
   ·rw[decide_eq_false hrt] at hr1
    obtain⟨hn1,hn2⟩:=hsm (fun h=>hrt h.1);simp only[evc] at hr1;clear hsm hnx;go_wp2_with fail
    refine(hr1 _).mono ?_;clear hr1;rintro e wb ⟨rfl,hBb⟩;have kb:=Kept.of_below (F:=fun _=>False) hBb;have hxb:OwnI wb w.heap.size 5 .u8 u4 (ib (encM (la.take (i+1)))):=by rw[hn1];exact hx1.kept kb (fun _ _ h=>h)
    have hvb:OwnE wb w.heap.size u5 (rlm (la.take (i+1))):=by rw[hn2];exact hv1.kept kb (fun _ _ h=>h)
    have hKb:=hK1.trans kb (fun _ _ h=>h.elim);clear hE hx1 hv1 hK1 kb hBb e0 e1 e2 e3 e4 e5 e6 e7 e8 e9;go_wp2_with fail
    exact⟨⟨i+1,rfl,by omega,hKb,hxb,hvb⟩,by simp[intOf];omega⟩
  ·obtain rfl:i=n:=by omega
   rw[List.take_of_length_le (by omega)] at hx hv;have hBr:Below w.heap.size w wr:=hB2.trans (hK.below hB2.size (fun x hx h=>by omega));go_wp2_with fail
   go_returns
   exact⟨_,_,rfl,hx,hv,hBr⟩
end Go.Proofs.YtigeldkbfbcpmaaGreat.P16
