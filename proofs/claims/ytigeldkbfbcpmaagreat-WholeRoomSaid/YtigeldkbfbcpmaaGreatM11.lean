/- A part of the proof: what the functions of the program come to, and what holds at all times. -/
import Derived.Deep.RegionWith
import Derived.Test.YtigeldkbfbcpmaaGreatM10
set_option linter.unusedVariables false
set_option linter.unusedSectionVars false
set_option linter.unusedSimpArgs false
set_option maxRecDepth 100000
set_option maxHeartbeats 8000000
namespace Go.Proofs.YtigeldkbfbcpmaaGreat.P09
open Go.RowKit Go.Kpt HeapPure
theorem Tryz.info278:(Tryz.prog.info? 278).map (fun i=>(i.zero,i.size,i.bytes))=some (some (.agg #[.int .i64 0,.int .u64 0,.int .u64 0,.int .i64 0]),4,32):=by kernel_rfl
theorem idx_ext{l l':List (Int×Mk)}(hI:Inj l)(hI':Inj l'){x:Int}(h:∀ n:Nat,(∃ v:Mk,l'[n]?=some (x,v))↔(∃ v:Mk,l[n]?=some (x,v))):idx l' x=idx l x:=by
 cases e:idx l x with
 | none=>
  cases e2:idx l' x with
  | none=>rfl
  | some n=>
   obtain⟨v,hv⟩:=(h n).1 ⟨_,(idx_some e2).2⟩;exact absurd hv (idx_none e n v)
 | some n=>
  obtain⟨v,hv⟩:=(h n).2 ⟨_,(idx_some e).2⟩;exact idx_of hI' hv
theorem mi_set{l:List (Int×Mk)}(hI:Inj l){i:Nat}{k:Int}{v:Mk}(h:idx l k=some i):mi (l.set i (k,v))=mi l:=by
 funext x
 unfold mi;congr 1
 obtain⟨hi,hk⟩:=idx_some h;refine idx_ext hI (set_inj hI h) fun n=>?_;rw[List.getElem?_set];by_cases e:i=n
 ·subst e
  rw[if_pos rfl,if_pos hi,hk];constructor <;> rintro⟨u,hu⟩ <;> cases hu <;> exact⟨_,rfl⟩
 ·rw[if_neg e]
theorem mi_append{l:List (Int×Mk)}(hI:Inj l){k:Int}{v:Mk}(h:idx l k=none):mi (l++[(k,v)])=mput (mi l) k l.length:=by
 funext x
 unfold mi mput;have hA:=append_inj hI (v:=v) h;by_cases e:x=k
 ·subst e
  rw[if_pos rfl,idx_of (v:=v) hA (i:=l.length) (by simp)];rfl
 ·rw[if_neg e]
  congr 1
  refine idx_ext hI hA fun n=>?_;rw[List.getElem?_append];split
  ·exact Iff.rfl
  ·rename_i hn
   rw[List.getElem?_eq_none (by omega:l.length≤n)];constructor
   ·rintro⟨u,hu⟩
    rw[List.getElem?_singleton] at hu;split at hu
    ·cases hu;exact absurd rfl e
    ·cases hu
   ·rintro⟨u,hu⟩;cases hu
theorem mi_cut{l:List (Int×Mk)}(hI:Inj l){i:Nat}{k:Int}(h:idx l k=some i):mdel (mi (swp l i (l.length - 1))) k=mi (cut l i):=by
 obtain⟨hi,hk⟩:=idx_some h;funext x
 unfold mi mdel;have hS:=swp_inj hI hi (show l.length - 1 < l.length by omega);have hC:=cut_inj hI hi;by_cases e:x=k
 ·subst e
  rw[if_pos rfl];cases e2:idx (cut l i) x with
  | none=>rfl
  | some n=>
   have:=(cut_has hI h x _).1 ⟨n,(idx_some e2).2⟩;exact absurd rfl this.1
 ·rw[if_neg e]
  show Option.map _ (idx (swp l i (l.length - 1)) x)=Option.map _ (idx (cut l i) x);congr 1
  refine(idx_ext hS hC fun n=>?_).symm;rw[get_cut l hi,get_swp l hi (by omega)];by_cases h1:n < l.length - 1
  ·rw[if_pos h1,if_neg (by omega:¬ n=l.length - 1)]
  ·rw[if_neg h1]
   by_cases h2:n=l.length - 1
   ·rw[if_pos h2,hk]
    constructor
    ·rintro⟨u,hu⟩;cases hu
    ·rintro⟨u,hu⟩;cases hu;exact absurd rfl e
   ·rw[if_neg h2,if_neg (by omega),List.getElem?_eq_none (by omega)]
theorem cut_wf{l:List (Int×Mk)}{i:Nat}(hi:i < l.length)(h:∀ x ∈ l,(Lit.int .i64 x.1).wf=true):∀ x ∈ cut l i,(Lit.int .i64 x.1).wf=true:=by
 intro x hx;obtain⟨n,hn⟩:=List.mem_iff_getElem?.1 hx;rw[get_cut l hi] at hn;split at hn
 ·split at hn
  ·exact h _ (List.mem_of_getElem? hn)
  ·exact h _ (List.mem_of_getElem? hn)
 ·cases hn
theorem new_any(w:World):
  Calls Tryz.prog 188 #[fv20] w fun e w'=>∃ hb mb,e=.returned (.pointer (some ⟨hb,0,none⟩))∧w.heap.size≤hb∧w.heap.size≤mb∧hb < w'.heap.size∧mb < w'.heap.size∧Hp w' w.heap.size hb fv20 (.slice none 0 0) mb []∧Below w.heap.size w w':=by
 have hmm:=@run_makeMap Tryz.prog;have hmade:Mp Tryz.prog 3 3 (w.alloc (.map #[] 0)) w.heap.size 0 (fun _=>none):=Mp.made w;go_enter Tryz.func188,Tryz.ntmps188
 go_wp2_with fail
 go_ret
 refine⟨_,w.heap.size,rfl,by simp,Nat.le_refl _,by simp,by simp;omega,⟨by simpa using heap_alloc_new (w.alloc (.map #[] 0)) (.cells #[fv20,.slice none 0 0,.map (some w.heap.size)] 276),OwnQ.nil _ _ _,hmade.below ((Below.refl _ _).alloc (Nat.le_refl _) _),Inj.nil,by simp,by simp⟩,by go_grown⟩
def Mb(w:World)(b n d:Nat)(id:Int):Prop:=w.heap[b]?=some (.cells #[.int .u64 n,.int .u64 d,.int .i64 id] 248 (0,0))
theorem Mb.cells{w:World}{b n d:Nat}{id:Int}(h:Mb w b n d id):w.cell? ⟨b,0,none⟩=some (.int .u64 n)∧w.cell? ⟨b,1,none⟩=some (.int .u64 d)∧w.cell? ⟨b,2,none⟩=some (.int .i64 id):=⟨cell_of h,cell_of h,cell_of h⟩
theorem Mb.free{w:World}{b n d:Nat}{id:Int}(h:Mb w b n d id):w.frozen? ⟨b,0,none⟩=false∧w.frozen? ⟨b,1,none⟩=false∧w.frozen? ⟨b,2,none⟩=false:=⟨frozen_of h,frozen_of h,frozen_of h⟩
theorem Mb.kept{F:Nat→Prop}{w w':World}{b n d:Nat}{id:Int}(h:Mb w b n d id)(k:Kept F w w')(hF:¬ F b):Mb w' b n d id:=(k.block b (lt_of h) hF).trans h
theorem Mb.drew{w:World}{b n d:Nat}{id:Int}(h:Mb w b n d id):Mb w.drew b n d id:=h
def set3(w:World)(b n d:Nat)(id:Int):World:=((w.setCell ⟨b,0,none⟩ (.int .u64 n)).setCell ⟨b,1,none⟩ (.int .u64 d)).setCell ⟨b,2,none⟩ (.int .i64 id)
theorem set3_mb{w:World}{b n d:Nat}{id:Int}(h:Mb w b n d id)(n' d':Nat)(id':Int):Mb (set3 w b n' d' id') b n' d' id':=set_same (i:=2) _ (set_same (i:=1) _ (set_same (i:=0) _ h))
theorem set3_kept(w:World)(b n d:Nat)(id:Int):Kept (fun x=>x=b) w (set3 w b n d id):=((Kept.set1 w b 0 _).trans (Kept.set1 _ b 1 _) (fun _ _ h=>h)).trans (Kept.set1 _ b 2 _) (fun _ _ h=>h)
theorem min_some(base hb:Nat)(v:Value)(mb:Nat)(l:List (Int×Mk))(hl:0 < l.length)(w:World)(h:Hp w base hb fv20 v mb l):
  Calls Tryz.prog 167 #[.pointer (some ⟨hb,0,none⟩)] w fun e w'=>e=.returned (.tuple #[.int .i64 (kk l 0),mv (vv l 0),.bool true])∧Below w.heap.size w w':=by
 have hM:Mb (w.alloc (.cells #[.int .u64 0,.int .u64 0,.int .i64 0] 248)) w.heap.size 0 0 0:=heap_alloc_new _ _;have k1:Kept (fun _=>False) w (w.alloc (.cells #[.int .u64 0,.int .u64 0,.int .i64 0] 248)):=(Kept.refl _ w).alloc _;obtain⟨w1,hw1⟩:∃ w1,w.alloc (.cells #[.int .u64 0,.int .u64 0,.int .i64 0] 248)=w1:=⟨_,rfl⟩;rw[hw1] at hM k1;have h1:=h.kept k1 (fun h=>h) (fun h=>h) (fun _ _ h=>h);rcases h1.own.shape with ⟨-,rfl⟩|⟨g,cap,rfl,hg1,hg2,hlc,hcm,-,hcl⟩
 ·simp at hl
 have q1:w1.cell? ⟨hb,1,none⟩=some (.slice (some ⟨g,0,none⟩) l.length cap):=cell_of h1.blk;obtain⟨c0,c1,c2,c3⟩:=hcl 0 hl;simp only[Nat.zero_mul,Nat.zero_add] at c0 c1 c2 c3;have hlen:(0:Int) < (l.length:Int):=by omega
 have hne:((l.length:Int) == 0)=false:=beq_eq_false_iff_ne.2 (by omega);have e0:kk l 0=(l.getD 0 default).1:=rfl;have e1:vv l 0=(l.getD 0 default).2:=rfl;rw[← e0] at c0;rw[← e1] at c1 c2 c3;obtain⟨b0,b1,b2⟩:=hM.cells;obtain⟨f0,f1,f2⟩:=hM.free;have hgb:g≠w.heap.size:=by
  intro e;have hm:w1.cell? ⟨g,0,none⟩=some (.int .u64 0):=by rw[e];exact b0
  rw[c0] at hm;cases hm
 generalize kk l 0=a at *;obtain⟨m,hm⟩:∃ m,vv l 0=m:=⟨_,rfl⟩;rw[hm] at c1 c2 c3 ⊢;have ev6:Mb (set3 w1 w.heap.size m.n m.d m.id).drew w.heap.size m.n m.d m.id:=(set3_mb hM m.n m.d m.id).drew;have k6:Kept (fun x=>x=w.heap.size) w1 (set3 w1 w.heap.size m.n m.d m.id).drew:=(set3_kept w1 w.heap.size m.n m.d m.id).drew;have hB6:Below w.heap.size w (set3 w1 w.heap.size m.n m.d m.id).drew:=(k1.trans k6 (G:=fun x=>x=w.heap.size) (F:=fun _=>False) (fun x hx h=>by omega)).below (Nat.le_refl _) (fun _ _ h=>h);clear e0 e1 hcl h h1 hM k1 k6 hm;go_enter Tryz.func167,Tryz.ntmps167
 go_wp2_with fail
 go_region
 all_goals (go_wp2_with fail)
 all_goals change bodyPost _ _ _ _ _ (set3 w1 w.heap.size m.n m.d m.id).drew
 all_goals generalize (set3 w1 w.heap.size m.n m.d m.id).drew=w6 at *
 all_goals clear b0 b1 b2 f0 f1 f2
 all_goals obtain⟨b0,b1,b2⟩:=ev6.cells
 all_goals refine bodyPost_ret (by simp[results,Tryz.results167,go_sem,b0,b1,b2];try rfl) rfl ?_
 all_goals exact⟨rfl,hB6⟩
def gv:Option Mk→Value
 | none=>.agg #[.int .u64 0,.int .u64 0,.int .i64 0]
 | some m=>mv m
def Moved(w:World)(v v':Value):Prop:=∀ g,v'.ownBlock=some g→v.ownBlock=some g∨w.heap.size≤g
theorem Moved.refl(w:World)(v:Value):Moved w v v:=fun g h=>.inl h
theorem fix_kept{w u u':World}{hb mb:Nat}{v v':Value}(h1:Kept (fun x=>x=hb∨own mb v x) w u)(h2:Kept (own mb v') u u')(hm:Moved w v v'):Kept (fun x=>x=hb∨own mb v x) w u':=
 h1.trans h2 fun x hx h=>by
  rcases h with h|h
  ·exact .inr (.inl h)
  ·rcases hm x h.symm with h3 | h3
   ·exact .inr (.inr h3.symm)
   ·omega
theorem set_there(HL:LessC)(base hb:Nat)(v:Value)(mb:Nat)(l:List (Int×Mk))(k:Int)(x:Mk)(hk:(Lit.int .i64 k).wf=true)(i:Nat)(e:idx l k=some i)(w:World)(h:Hp w base hb fv20 v mb l):
  Calls Tryz.prog 171 #[.pointer (some ⟨hb,0,none⟩),.int .i64 k,mv x] w fun e w'=>e=.returned (.tuple #[])∧Hp w' base hb fv20 v mb (setAt lt l k x)∧Kept (fun y=>y=hb∨own mb v y) w w':=by
 obtain⟨hi,hik⟩:=idx_some e;have hset:setAt lt l k x=fix lt (l.set i (k,x)) i:=by unfold setAt;rw[e]
 rw[hset];have hM:Mb (w.alloc (.cells #[.int .u64 x.n,.int .u64 x.d,.int .i64 x.id] 248)) w.heap.size x.n x.d x.id:=heap_alloc_new _ _;have k1:Kept (fun _=>False) w (w.alloc (.cells #[.int .u64 x.n,.int .u64 x.d,.int .i64 x.id] 248)):=(Kept.refl _ w).alloc _;obtain⟨w1,hw1⟩:∃ w1,w.alloc (.cells #[.int .u64 x.n,.int .u64 x.d,.int .i64 x.id] 248)=w1:=⟨_,rfl⟩;rw[hw1] at hM k1;have h1:=h.kept k1 (fun h=>h) (fun h=>h) (fun _ _ h=>h);obtain⟨b0,b1,b2⟩:=hM.cells;have q1:w1.cell? ⟨hb,1,none⟩=some v:=cell_of h1.blk;have q2:w1.cell? ⟨hb,2,none⟩=some (.map (some mb)):=cell_of h1.blk;have hm:mi l k=some (i:Int):=by unfold mi;rw[e];rfl
 have hmp:=h1.mp;obtain⟨ap1,ap2⟩:=h1.apart;rcases h1.own.shape with ⟨-,rfl⟩|⟨g,cap,rfl,hg1,hg2,hlc,hcm,hfz,hcl⟩
 ·simp at hi
 obtain⟨ap2,ap3⟩:=ap2 g rfl;obtain⟨-,c1,c2,c3⟩:=hcl i hi;have f1:=hfz (i*4+1);have f2:=hfz (i*4+2);have f3:=hfz (i*4+3);have hi':(i:Int) < (l.length:Int):=by omega
 have hkey:(l.getD i default).1=k:=by rw[getElem_of hi] at hik;rw[Option.some.inj hik]
 have hown2:=h1.own.setV i hi x;rw[hkey] at hown2;have hk2:Kept (fun y=>y=g) w1 (((w1.setCell ⟨g,i*4+1,none⟩ (.int .u64 x.n)).setCell ⟨g,i*4+2,none⟩ (.int .u64 x.d)).setCell ⟨g,i*4+3,none⟩ (.int .i64 x.id)):=((Kept.set1 w1 g _ _).trans (Kept.set1 _ g _ _) (fun _ _ h=>h)).trans (Kept.set1 _ g _ _) (fun _ _ h=>h);have hmp2:=hmp.kept hk2 (Ne.symm ap3);rw[← mi_set h.inj (v:=x) e] at hmp2;have hHp:Hp (((w1.setCell ⟨g,i*4+1,none⟩ (.int .u64 x.n)).setCell ⟨g,i*4+2,none⟩ (.int .u64 x.d)).setCell ⟨g,i*4+3,none⟩ (.int .i64 x.id)).drew base hb fv20 (.slice (some ⟨g,0,none⟩) l.length cap) mb (l.set i (k,x)):=
  ((⟨(hk2.block hb (lt_of h1.blk) (Ne.symm ap2)).trans h1.blk,hown2,by rw[List.length_set];exact hmp2,set_inj h.inj e,fun y hy=>by
   rcases List.mem_or_eq_of_mem_set hy with hy|hy
   ·exact h.wf y hy
   ·rw[hy];exact hk,by rw[List.length_set];exact h.len⟩:Hp _ base hb fv20 (.slice (some ⟨g,0,none⟩) l.length cap) mb (l.set i (k,x)))).kept (F:=fun _=>False) ((Kept.refl _ _).drew) (fun h=>h) (fun h=>h) (fun _ _ h=>h)
 have hk3:=(k1.mono (G:=fun y=>y=g) (fun _ _ h=>h.elim)).trans hk2.drew (fun _ _ h=>h);have hfx:=fix_any HL base hb _ mb (l.set i (k,x)) i (by rw[List.length_set];exact hi) _ hHp;have hlen:l.length≤1000000000:=h.len;clear hown2 hmp2 hHp hcl hfz hkey hset hk2 h1 h k1;go_enter Tryz.func171,Tryz.ntmps171
 go_wp2_with (at_lookup;refine wpList_mp_look _ rfl _ _ rfl Tryz.underlying3 Tryz.underlying32 Tryz.underlying3 (zeroI _) mb l.length (mi l) rfl hmp k rfl hk ?_;rw[hm])
 go_region
 all_goals (go_wp2_with fail)
 all_goals refine hfx.mono ?_
 all_goals rintro e w2 ⟨rfl,h2,k2⟩
 all_goals (go_wp2_with fail)
 all_goals go_returns
 all_goals exact⟨rfl,h2,fix_kept (hk3.mono (fun y _ hy=>.inr (.inr (by rw[hy];rfl)))) k2 (Moved.refl _ _)⟩
section
variable {w w':World} {base s n cap g:Nat} {e:TypeId} {v:Value} {raw:List Value}
theorem row_kept{F:Nat→Prop}(h:w.ownsRow base e s v n raw)(hk:Kept F w w')(hF:∀ g,v.ownBlock=some g→¬ F g):w'.ownsRow base e s v n raw:=by
 refine⟨h.1,?_⟩;rcases h.2 with h1|⟨g,cap,cur,rfl,hb,hg,hr⟩
 ·exact .inl h1
 ·exact .inr ⟨g,cap,cur,rfl,hb,(hk.block g (lt_of hg) (hF g rfl)).trans hg,hr⟩
theorem row_cell(h:w.ownsRow base e s (.slice (some ⟨g,0,none⟩) n cap) n raw)(i:Nat)(hi:i < n*s):w.cell? ⟨g,i,none⟩=raw[i]?∧w.frozen? ⟨g,i,none⟩=false:=by
 rcases h.2 with ⟨h1,_⟩|⟨g',cap',cur,h1,hb,hg,hle,hm,hs,ht⟩
 ·cases h1
 ·cases h1
  refine⟨?_,frozen_of hg⟩;rw[cell_of hg,← ht,List.getElem?_take,if_pos hi];simp
theorem row_block(h:w.ownsRow base e s (.slice (some ⟨g,0,none⟩) n cap) n raw):∃ cur,w.heap[g]?=some (.cells cur e (0,0)):=by
 rcases h.2 with ⟨h1,_⟩|⟨g',cap',cur,h1,hb,hg,_⟩
 ·cases h1
 ·cases h1;exact⟨cur,hg⟩
theorem grown_shape(h:w.ownsRow base e s v (n+1) raw):∃ g cap,v=.slice (some ⟨g,0,none⟩) (n+1) cap:=by
 rcases h.2 with ⟨_,h2⟩|⟨g,cap,cur,h1,-⟩
 ·omega
 ·exact⟨g,cap,h1⟩
end
abbrev zraw(k:Int):List Value:=[.int .i64 k,.int .u64 0,.int .u64 0,.int .i64 0]
theorem raw_new(l:List (Int×Mk))(k:Int)(x:Mk):(((qcells l++zraw k).set (l.length*4+1) (.int .u64 x.n)).set (l.length*4+2) (.int .u64 x.d)).set (l.length*4+3) (.int .i64 x.id)=qcells (l++[(k,x)]):=by
 have hl:=qcells_length l;rw[qcells_append];rw[List.set_append_right _ _ (by omega),List.set_append_right _ _ (by omega),List.set_append_right _ _ (by omega)];rw[show l.length*4+1 - (qcells l).length=1 by omega,show l.length*4+2 - (qcells l).length=2 by omega,show l.length*4+3 - (qcells l).length=3 by omega];rfl
theorem raw_get(l:List (Int×Mk))(k:Int):(qcells l++zraw k)[l.length*4+1]?=some (.int .u64 0)∧(qcells l++zraw k)[l.length*4+2]?=some (.int .u64 0)∧(qcells l++zraw k)[l.length*4+3]?=some (.int .i64 0):=by
 have hl:=qcells_length l;refine⟨?_,?_,?_⟩
 ·rw[List.getElem?_append_right (by omega),show l.length*4+1 - (qcells l).length=1 by omega];rfl
 ·rw[List.getElem?_append_right (by omega),show l.length*4+2 - (qcells l).length=2 by omega];rfl
 ·rw[List.getElem?_append_right (by omega),show l.length*4+3 - (qcells l).length=3 by omega];rfl
theorem set_new(HL:LessC)(base hb:Nat)(v:Value)(mb:Nat)(l:List (Int×Mk))(k:Int)(x:Mk)(hk:(Lit.int .i64 k).wf=true)(hl:l.length+1≤1000000000)(e:idx l k=none)(w:World)(hbase:base≤w.heap.size)(h:Hp w base hb fv20 v mb l):
  Calls Tryz.prog 171 #[.pointer (some ⟨hb,0,none⟩),.int .i64 k,mv x] w fun e w'=>e=.returned (.tuple #[])∧∃ v',Hp w' base hb fv20 v' mb (setAt lt l k x)∧Kept (fun y=>y=hb∨own mb v y) w w'∧Moved w v v':=by
 obtain⟨i0,hi,iz0,iz1,iz2⟩:=info_parts Tryz.info278;have hset:setAt lt l k x=fix lt (l++[(k,x)]) l.length:=by unfold setAt;rw[e]
 rw[hset];have hM:Mb (w.alloc (.cells #[.int .u64 x.n,.int .u64 x.d,.int .i64 x.id] 248)) w.heap.size x.n x.d x.id:=heap_alloc_new _ _;have k1:Kept (fun _=>False) w (w.alloc (.cells #[.int .u64 x.n,.int .u64 x.d,.int .i64 x.id] 248)):=(Kept.refl _ w).alloc _;obtain⟨w1,hw1⟩:∃ w1,w.alloc (.cells #[.int .u64 x.n,.int .u64 x.d,.int .i64 x.id] 248)=w1:=⟨_,rfl⟩;rw[hw1] at hM k1;have h1:=h.kept k1 (fun h=>h) (fun h=>h) (fun _ _ h=>h);have hmi:mi l k=none:=by unfold mi;rw[e];rfl
 obtain⟨a,cap,hv⟩:∃ a cap,v=.slice a l.length cap:=by
  rcases h1.own.shape with ⟨rfl,rfl⟩|⟨g,cap,rfl,-⟩
  ·exact⟨none,0,rfl⟩
  ·exact⟨_,_,rfl⟩
 subst hv;have q1:w1.cell? ⟨hb,1,none⟩=some (.slice a l.length cap):=cell_of h1.blk;have q2:w1.cell? ⟨hb,2,none⟩=some (.map (some mb)):=cell_of h1.blk;obtain⟨ap1,ap2⟩:=h1.apart;have hkA:Kept (fun _=>False) w1 (w1.alloc (.cells #[.int .i64 k,.int .u64 0,.int .u64 0,.int .i64 0] 278)):=(Kept.refl _ w1).alloc _;have h2:=h1.kept hkA (fun h=>h) (fun h=>h) (fun _ _ h=>h);have hI:(w1.alloc (.cells #[.int .i64 k,.int .u64 0,.int .u64 0,.int .i64 0] 278)).heap[w1.heap.size]?=some (.cells #[.int .i64 k,.int .u64 0,.int .u64 0,.int .i64 0] 278 (0,0)):=heap_alloc_new _ _;have hM2:=hM.kept hkA (fun h=>h);have k2:=k1.trans hkA (fun _ _ h=>h);obtain⟨w2,hw2⟩:∃ w2,w1.alloc (.cells #[.int .i64 k,.int .u64 0,.int .u64 0,.int .i64 0] 278)=w2:=⟨_,rfl⟩;rw[hw2] at h2 hI hM2 k2;have hmp1:=h1.mp;have H2:=Lib.hid h2;have H0:=Lib.hid h;have hb2:base≤w2.heap.size:=by have:=k2.size;omega
 clear hM k1 h1 hkA h2 h hset;go_enter Tryz.func171,Tryz.ntmps171
 go_wp2_with (first
  | (at_lookup;refine wpList_mp_look _ rfl _ _ rfl Tryz.underlying3 Tryz.underlying32 Tryz.underlying3 (zeroI _) mb l.length (mi l) rfl hmp1 k rfl hk ?_;rw[hmi])
  | (
   at_builtin
   go_loud (
    refine wpList_append_own_at _ rfl _ _ 274 rfl base 278 i0 (.agg #[.int .i64 0,.int .u64 0,.int .u64 0,.int .i64 0]) 4 32 Tryz.underlying274 hi iz0 iz1 iz2 rfl (by decide) (.slice a l.length cap) l.length (qcells l) rfl H2.out.own ⟨w1.heap.size,0,none⟩ 1 1 [.int .i64 k,.int .u64 0,.int .u64 0,.int .i64 0] rfl rfl (fun j u hj=>by
      have hplain:(⟨w1.heap.size,0,none⟩:Addr).add j=⟨w1.heap.size,j,none⟩:=by unfold Addr.add;split <;> simp_all
      rw[hplain];exact(cell_of hI).trans (by simpa using hj)) (by intro u hu;simp at hu;rcases hu with rfl|rfl|rfl <;> rfl) (by unfold maxLen;omega) (by omega) hb2 ?_
    intro v1 w3 hown3 hgrow _ hloc;obtain⟨g1,cap1,rfl⟩:=grown_shape hown3;have hkg:Kept (fun y=>some y=Value.ownBlock (.slice a l.length cap)) w2 w3:=Kept.of_grown hgrow;have b3:=(hkg.block hb (lt_of H2.out.blk) (fun h=>(ap2 hb h.symm).1 rfl)).trans H2.out.blk;have r1:w3.cell? ⟨hb,1,none⟩=some (.slice a l.length cap):=cell_of b3;have r2:w3.cell? ⟨hb,2,none⟩=some (.map (some mb)):=cell_of b3;have f1:w3.frozen? ⟨hb,1,none⟩=false:=frozen_of b3;have b4:(w3.setCell ⟨hb,1,none⟩ (.slice (some ⟨g1,0,none⟩) (l.length+1) cap1)).heap[hb]?=some (.cells #[fv20,.slice (some ⟨g1,0,none⟩) (l.length+1) cap1,.map (some mb)] 276 (0,0)):=set_same (i:=1) _ b3;have hmp4:=(H2.out.mp.kept hkg (fun h=>(ap2 mb h.symm).2 rfl)).kept (Kept.set1 w3 hb 1 (.slice (some ⟨g1,0,none⟩) (l.length+1) cap1)) (Ne.symm ap1);have hg1b:g1≠hb:=by
     obtain⟨cur,hg'⟩:=row_block hown3;intro h;rw[h,b3] at hg';cases hg'
    have hown4:=row_kept hown3 (Kept.set1 w3 hb 1 (.slice (some ⟨g1,0,none⟩) (l.length+1) cap1)) (fun g' h1 h2=>by cases h1;exact hg1b h2);have hM4:=(hM2.kept hkg (fun h=>by have:=(H0.out.own.lt _ h.symm).2;omega)).kept (Kept.set1 w3 hb 1 (.slice (some ⟨g1,0,none⟩) (l.length+1) cap1)) (fun h=>by have:=lt_of H0.out.blk;omega);have hkw:Kept (fun y=>y=hb∨own mb (.slice a l.length cap) y) w (w3.setCell ⟨hb,1,none⟩ (.slice (some ⟨g1,0,none⟩) (l.length+1) cap1)):=((k2.mono (fun _ _ h=>h.elim)).trans hkg (fun y _ h=>.inr (.inr h))).trans (Kept.set1 w3 hb 1 _) (fun y _ h=>.inl h);have hmv:Moved w (.slice a l.length cap) (.slice (some ⟨g1,0,none⟩) (l.length+1) cap1):=fun g' hg'=>by
     rcases hloc with h|h
     ·exact .inl (h ▸ hg')
     ·right
      rw[h] at hg';have:=Option.some.inj hg';have:=k2.size;omega
    clear hown3 hgrow hloc hkg))
  | (
   at_mapUpdate
   go_loud (
    refine wpList_mp_put _ rfl _ _ _ rfl Tryz.underlying3 Tryz.underlying32 Tryz.underlying3 mb l.length (mi l) rfl hmp4 (by unfold maxLen;omega) k l.length rfl rfl hk (by exact WalkArith.wf_i64 (by omega)) ?_;intro w5 hmp5 hk5;have b5:=(hk5.block hb (lt_of b4) ap1).trans b4;have s1:w5.cell? ⟨hb,1,none⟩=some (.slice (some ⟨g1,0,none⟩) (l.length+1) cap1):=cell_of b5;have hg1m:g1≠mb:=by
     obtain⟨D,⟨es,clock,hmm,-⟩,-⟩:=hmp4;obtain⟨cur,hg'⟩:=row_block hown4;intro h;subst h;rw[hmm] at hg';cases hg'
    have hown5:=row_kept hown4 hk5 (fun g' h1 h2=>by cases h1;exact hg1m h2);have hM5:=hM4.kept hk5 (fun h=>by have:=H0.out.mp.lt;omega);obtain⟨m0,m1,m2⟩:=hM5.cells;obtain⟨t1,u1⟩:=row_cell hown5 (l.length*4+1) (by omega);obtain⟨t2,u2⟩:=row_cell hown5 (l.length*4+2) (by omega);obtain⟨t3,u3⟩:=row_cell hown5 (l.length*4+3) (by omega);rw[(raw_get l k).1] at t1;rw[(raw_get l k).2.1] at t2;rw[(raw_get l k).2.2] at t3;have ht:(l.length:Int) < ((l.length+1):Int):=by omega
    have hown6:=row_store (row_store (row_store hown5 (l.length*4+1) (.int .u64 x.n)) (l.length*4+2) (.int .u64 x.d)) (l.length*4+3) (.int .i64 x.id);rw[raw_new] at hown6;have hk6:Kept (fun y=>y=g1) w5 (((w5.setCell ⟨g1,l.length*4+1,none⟩ (.int .u64 x.n)).setCell ⟨g1,l.length*4+2,none⟩ (.int .u64 x.d)).setCell ⟨g1,l.length*4+3,none⟩ (.int .i64 x.id)):=((Kept.set1 w5 g1 _ _).trans (Kept.set1 _ g1 _ _) (fun _ _ h=>h)).trans (Kept.set1 _ g1 _ _) (fun _ _ h=>h);have hmp6:=hmp5.kept hk6 (Ne.symm hg1m);rw[hmi] at hmp6;rw[show mput (mi l) k l.length=mi (l++[(k,x)]) from(mi_append H0.out.inj (v:=x) e).symm] at hmp6;have hHp:Hp (((w5.setCell ⟨g1,l.length*4+1,none⟩ (.int .u64 x.n)).setCell ⟨g1,l.length*4+2,none⟩ (.int .u64 x.d)).setCell ⟨g1,l.length*4+3,none⟩ (.int .i64 x.id)) base hb fv20 (.slice (some ⟨g1,0,none⟩) (l.length+1) cap1) mb (l++[(k,x)]):=
     ⟨(hk6.block hb (lt_of b5) (Ne.symm hg1b)).trans b5,by unfold OwnQ;rw[List.length_append];exact hown6,by rw[List.length_append];exact hmp6,append_inj H0.out.inj e,fun y hy=>by
      rcases List.mem_append.1 hy with hy|hy
      ·exact H0.out.wf y hy
      ·rw[List.mem_singleton.1 hy];exact hk,by rw[List.length_append];exact hl⟩
    have hHd:Hp (((w5.setCell ⟨g1,l.length*4+1,none⟩ (.int .u64 x.n)).setCell ⟨g1,l.length*4+2,none⟩ (.int .u64 x.d)).setCell ⟨g1,l.length*4+3,none⟩ (.int .i64 x.id)).drew base hb fv20 (.slice (some ⟨g1,0,none⟩) (l.length+1) cap1) mb (l++[(k,x)]):=hHp.kept (F:=fun _=>False) ((Kept.refl _ _).drew) (fun h=>h) (fun h=>h) (fun _ _ h=>h);have hkE:Kept (fun y=>y=hb∨own mb (.slice a l.length cap) y) w (((w5.setCell ⟨g1,l.length*4+1,none⟩ (.int .u64 x.n)).setCell ⟨g1,l.length*4+2,none⟩ (.int .u64 x.d)).setCell ⟨g1,l.length*4+3,none⟩ (.int .i64 x.id)).drew:=
     (hkw.trans hk5 (fun y _ h=>.inr (.inl h))).trans hk6.drew (fun y hy h=>by
      rcases hmv y (by rw[h];rfl) with h3 | h3
      ·exact .inr (.inr h3.symm)
      ·omega)
    have HHp:=Lib.hid hHd;clear hown5 hown6 hmp5 hmp6 hHp hHd hM5 hk6)))
 go_region
 all_goals (go_wp2_with fail)
 all_goals refine(fix_any HL base hb (.slice (some ⟨g1,0,none⟩) (l.length+1) cap1) mb (l++[(k,x)]) l.length (by simp) _ HHp.out).mono ?_
 all_goals rintro e w7 ⟨rfl,h5,k5⟩
 all_goals (go_wp2_with fail)
 all_goals go_returns
 all_goals exact⟨rfl,_,h5,fix_kept hkE k5 hmv,hmv⟩
theorem drop_none(base hb:Nat)(v:Value)(mb:Nat)(l:List (Int×Mk))(k:Int)(hk:(Lit.int .i64 k).wf=true)(e:idx l k=none)(w:World)(h:Hp w base hb fv20 v mb l):
  Calls Tryz.prog 168 #[.pointer (some ⟨hb,0,none⟩),.int .i64 k] w fun e w'=>e=.returned (.bool false)∧w=w':=by
 have q2:w.cell? ⟨hb,2,none⟩=some (.map (some mb)):=cell_of h.blk;have hm:mi l k=none:=by unfold mi;rw[e];rfl
 go_enter Tryz.func168,Tryz.ntmps168
 go_wp2_with (at_lookup;refine wpList_mp_look _ rfl _ _ rfl Tryz.underlying3 Tryz.underlying32 Tryz.underlying3 (zeroI _) mb l.length (mi l) rfl h.mp k rfl hk ?_;rw[hm])
 go_wp2_with fail
 go_ret
 exact⟨rfl,rfl⟩
theorem drop_some(HL:LessC)(base hb:Nat)(v:Value)(mb:Nat)(l:List (Int×Mk))(k:Int)(hk:(Lit.int .i64 k).wf=true)(i:Nat)(e:idx l k=some i)(w:World)(h:Hp w base hb fv20 v mb l):
  Calls Tryz.prog 168 #[.pointer (some ⟨hb,0,none⟩),.int .i64 k] w fun e w'=>e=.returned (.bool true)∧∃ v',Hp w' base hb fv20 v' mb (drop lt l k)∧Kept (fun y=>y=hb∨own mb v y) w w'∧Moved w v v':=by
 obtain⟨hi,hik⟩:=idx_some e;have hdrop:=drop_eq (lt:=lt) e;have q2:w.cell? ⟨hb,2,none⟩=some (.map (some mb)):=cell_of h.blk;have hm:mi l k=some (i:Int):=by unfold mi;rw[e];rfl
 have hmp:=h.mp;obtain⟨ap1,ap2⟩:=h.apart;rcases h.own.shape with ⟨-,rfl⟩|⟨g,cap,rfl,hg1,hg2,hlc,hcm,-,-⟩
 ·simp at hi
 obtain⟨ap2,ap3⟩:=ap2 g rfl;have q1:w.cell? ⟨hb,1,none⟩=some (.slice (some ⟨g,0,none⟩) l.length cap):=cell_of h.blk;obtain⟨n,hn⟩:∃ n,l.length=n+1:=⟨l.length - 1,by omega⟩;have hsw:=swap_any base hb fv20 _ mb l i n hi (by omega) w h;have hkey:(l.getD i default).1=k:=by rw[getElem_of hi] at hik;rw[Option.some.inj hik]
 have hmk:mi (swp l i n) k=some (n:Int):=by
  unfold mi;rw[idx_swp h.inj hi (by omega),if_pos hkey.symm];rfl
 have hmc:=mi_cut h.inj e;have hcut:cut l i=(swp l i n).take n:=by unfold cut;rw[hn];rfl
 rw[hn,show n+1 - 1=n from rfl] at hmc hdrop;have hwfc:=cut_wf hi h.wf;have hinjc:=cut_inj h.inj hi;have hlenc:=length_cut l i;rw[hn] at hlenc;have hlen:=h.len;have hcn:(n:Int)≤(cap:Int):=by omega
 have hin:i≤n:=by omega
 have hnb:n+1≤1000000000:=by omega
 rw[hn] at q1 hlc;have hmpl:=hmp;rw[hn] at hmpl;have HX:=Lib.hid (And.intro hwfc (And.intro hinjc hlenc));have HM:=Lib.hid hmc;have HD:=Lib.hid hdrop;have HC:=Lib.hid hcut;have HN:=Lib.hid hn;have HLe:=Lib.hid hlen;clear hwfc hinjc hlenc hmc hkey hik hdrop hcut h hlen;by_cases hlast:i < n
 all_goals
  go_enter Tryz.func168,Tryz.ntmps168
  go_wp2_with (at_lookup;refine wpList_mp_look _ rfl _ _ rfl Tryz.underlying3 Tryz.underlying32 Tryz.underlying3 (zeroI _) mb (n+1) (mi l) rfl hmpl k rfl hk ?_;rw[hm])
  refine hsw.mono ?_;rintro e w1 ⟨rfl,h1,k1⟩;have b1:=h1.blk;have r1:w1.cell? ⟨hb,1,none⟩=some (.slice (some ⟨g,0,none⟩) (n+1) cap):=by rw[← HN.out];exact cell_of b1
  have r2:w1.cell? ⟨hb,2,none⟩=some (.map (some mb)):=cell_of b1;have f1:w1.frozen? ⟨hb,1,none⟩=false:=frozen_of b1;have b2:(w1.setCell ⟨hb,1,none⟩ (.slice (some ⟨g,0,none⟩) n cap)).heap[hb]?=some (.cells #[fv20,.slice (some ⟨g,0,none⟩) n cap,.map (some mb)] 276 (0,0)):=set_same (i:=1) _ b1;have hks:Kept (fun y=>y=hb) w1 (w1.setCell ⟨hb,1,none⟩ (.slice (some ⟨g,0,none⟩) n cap)):=Kept.set1 w1 hb 1 _;have hmp1:=h1.mp.kept hks (Ne.symm ap1);have hown1:=(h1.own.cut (m:=n) (by rw[swp_length,HN.out];omega)).kept hks (fun g' h1 h2=>by cases h1;exact ap2 h2);rw[← HC.out] at hown1;rw[swp_length,HN.out] at hmp1;have hkw:Kept (fun y=>y=hb∨own mb (.slice (some ⟨g,0,none⟩) l.length cap) y) w (w1.setCell ⟨hb,1,none⟩ (.slice (some ⟨g,0,none⟩) n cap)):=(k1.mono (G:=fun y=>y=hb∨own mb (.slice (some ⟨g,0,none⟩) l.length cap) y) (fun y _ h=>.inr h)).trans hks (fun y _ h=>.inl h);clear hsw q1 q2 hm hmp hmpl h1 k1;go_wp2_with (
        at_delete
        go_loud (
         refine wpList_mp_del _ rfl _ _ rfl Tryz.underlying3 Tryz.underlying32 mb (n+1) (mi (swp l i n)) rfl hmp1 k rfl hk ?_;intro w3 hmp3 hk3;rw[HM.out,hmk] at hmp3))
  have b3:=(hk3.block hb (lt_of b2) ap1).trans b2;have hown3:=hown1.kept hk3 (fun g' h1 h2=>by cases h1;exact ap3 h2);have hHp:Hp w3 base hb fv20 (.slice (some ⟨g,0,none⟩) n cap) mb (cut l i):=
   ⟨b3,hown3,by rw[HX.out.2.2];exact hmp3,HX.out.2.1,HX.out.1,by rw[HX.out.2.2];have:=HLe.out;have:=HN.out;omega⟩
  have hkE:Kept (fun y=>y=hb∨own mb (.slice (some ⟨g,0,none⟩) l.length cap) y) w w3:=hkw.trans hk3 (fun y _ h=>.inr (.inl h));have hmv:Moved w (.slice (some ⟨g,0,none⟩) l.length cap) (.slice (some ⟨g,0,none⟩) n cap):=fun g' hg'=>.inl hg';clear hown1 hmp1 hmp3 hown3 b1 b2 r1 r2 f1
  first
   | (
    have hd:drop lt l k=fix lt (cut l i) i:=by rw[HD.out,if_pos hlast]
    refine(fix_any HL base hb _ mb (cut l i) i (by rw[HX.out.2.2];exact hlast) w3 hHp).mono ?_;rintro e w5 ⟨rfl,h5,k5⟩;go_wp2_with fail
    go_ret
    exact⟨rfl,_,by rw[hd];exact h5,fix_kept hkE k5 hmv,hmv⟩)
   | (
    have hd:drop lt l k=cut l i:=by rw[HD.out,if_neg (by omega)]
    go_ret
    exact⟨rfl,_,by rw[hd];exact hHp,hkE,hmv⟩)
theorem heapset_any(HL:LessC)(base hb:Nat)(v:Value)(mb:Nat)(l:List (Int×Mk))(k:Int)(x:Mk)(hk:(Lit.int .i64 k).wf=true)(hl:l.length+1≤1000000000)(w:World)(hbase:base≤w.heap.size)(h:Hp w base hb fv20 v mb l):
  Calls Tryz.prog 171 #[.pointer (some ⟨hb,0,none⟩),.int .i64 k,mv x] w fun e w'=>e=.returned (.tuple #[])∧∃ v',Hp w' base hb fv20 v' mb (setAt lt l k x)∧Kept (fun y=>y=hb∨own mb v y) w w'∧Moved w v v':=by
 cases e:idx l k with
 | none=>exact set_new HL base hb v mb l k x hk hl e w hbase h
 | some i=>exact(set_there HL base hb v mb l k x hk i e w h).mono fun e w' ⟨h1,h2,h3⟩=>⟨h1,v,h2,h3,Moved.refl _ _⟩
theorem heapdrop_any(HL:LessC)(base hb:Nat)(v:Value)(mb:Nat)(l:List (Int×Mk))(k:Int)(hk:(Lit.int .i64 k).wf=true)(w:World)(h:Hp w base hb fv20 v mb l):
  Calls Tryz.prog 168 #[.pointer (some ⟨hb,0,none⟩),.int .i64 k] w fun e w'=>e=.returned (.bool (idx l k).isSome)∧∃ v',Hp w' base hb fv20 v' mb (drop lt l k)∧Kept (fun y=>y=hb∨own mb v y) w w'∧Moved w v v':=by
 cases e:idx l k with
 | none=>
  have hd:drop lt l k=l:=by unfold drop;rw[e]
  rw[hd];exact(drop_none base hb v mb l k hk e w h).mono fun e w' ⟨h1,h2⟩=>⟨h1,v,h2 ▸ h,h2 ▸ Kept.refl _ _,Moved.refl _ _⟩
 | some i=>exact drop_some HL base hb v mb l k hk i e w h
structure Wc (w:World) (base cb hb:Nat) (v:Value) (mb:Nat) (l:List (Int×Mk)) (c:Nat):Prop where
 blk:w.heap[cb]?=some (.cells #[.pointer (some ⟨hb,0,none⟩),.int .u64 c] 252 (0,0))
 hp:Hp w base hb fv20 v mb l
 cb:base≤cb
 hb:base≤hb
 mb:base≤mb
 sz:base≤w.heap.size
theorem Wc.apart{w:World}{base cb hb:Nat}{v:Value}{mb:Nat}{l:List (Int×Mk)}{c:Nat}(h:Wc w base cb hb v mb l c):cb≠hb∧cb≠mb∧∀ g,v.ownBlock=some g→g≠cb:=by
 refine⟨fun e=>?_,fun e=>?_,fun g hg e=>?_⟩
 ·have h1:=h.blk;have h2:=h.hp.blk;rw[e] at h1;rw[h2] at h1;cases h1
 ·obtain⟨D,⟨es,clock,hm,-⟩,-⟩:=h.hp.mp
  have h1:=h.blk;rw[e,hm] at h1;cases h1
 ·rcases h.hp.own.2 with ⟨h1,-⟩ | ⟨g',cap,cur,h1,-,hg',-⟩
  ·rw[h1] at hg;cases hg
  ·rw[h1] at hg
   have h2:some g'=some g:=hg;cases h2
   have h1:=h.blk;rw[← e,hg'] at h1;cases h1
theorem Wc.next{w w':World}{base cb hb:Nat}{v v':Value}{mb:Nat}{l l':List (Int×Mk)}{c:Nat}(h:Wc w base cb hb v mb l c)(h2:Hp w' base hb fv20 v' mb l')(k:Kept (fun y=>y=hb∨own mb v y) w w'):Wc w' base cb hb v' mb l' c∧Below base w w':=by
 obtain⟨a1,a2,a3⟩:=h.apart;refine⟨⟨(k.block cb (lt_of h.blk) (fun hh=>?_)).trans h.blk,h2,h.cb,h.hb,h.mb,Nat.le_trans h.sz k.size⟩,k.below h.sz (fun x hx hh=>?_)⟩
 ·rcases hh with hh | hh | hh
  ·exact a1 hh
  ·exact a2 hh
  ·exact a3 cb hh.symm rfl
 ·rcases hh with hh | hh | hh
  ·have:=h.hb;omega
  ·have:=h.mb;omega
  ·have:=(h.hp.own.lt x hh.symm).1;omega
theorem Wc.below{w w':World}{base cb hb:Nat}{v:Value}{mb:Nat}{l:List (Int×Mk)}{c:Nat}(h:Wc w base cb hb v mb l c)(k:Below w.heap.size w w'):Wc w' base cb hb v mb l c:=by
 have k2:=Kept.of_below (F:=fun _=>False) k;exact⟨(k2.block cb (lt_of h.blk) (fun h=>h)).trans h.blk,h.hp.kept k2 (fun h=>h) (fun h=>h) (fun _ _ h=>h),h.cb,h.hb,h.mb,Nat.le_trans h.sz k.size⟩
def Beside(w w':World):Prop:=∀ (b:Nat) (cs:Array Value) (t:TypeId),t≠252→t≠276→t≠278→w.heap[b]?=some (Obj.cells cs t (0,0))→w'.heap[b]?=some (Obj.cells cs t (0,0))
def WB(w:World)(base cb:Nat)(l:List (Int×Mk))(c:Nat):Prop:=∃ hb v mb,Wc w base cb hb v mb l c
theorem WB.sz{w:World}{base cb:Nat}{l:List (Int×Mk)}{c:Nat}(h:WB w base cb l c):base≤w.heap.size:=by
 obtain⟨hb,v,mb,h⟩:=h;exact h.sz
theorem cnew_any(w:World):Calls Tryz.prog 166 #[] w fun e w'=>∃ cb,e=.returned (.pointer (some ⟨cb,0,none⟩))∧WB w' w.heap.size cb [] 0∧Below w.heap.size w w':=by
 go_enter Tryz.func166,Tryz.ntmps166
 go_wp2_with fail
 refine(new_any w).mono ?_;rintro e w1 ⟨hb,mb,rfl,h1,h2,h3,h4,h5,hB⟩;have hz:=hB.size;have hn:=heap_alloc_new w1 (.cells #[.pointer (some ⟨hb,0,none⟩),.int .u64 0] 252);have hB2:Below w.heap.size w (w1.alloc (.cells #[.pointer (some ⟨hb,0,none⟩),.int .u64 0] 252)):=hB.alloc hz _;have h6:=h5.kept ((Kept.refl (fun _=>False) w1).alloc (.cells #[.pointer (some ⟨hb,0,none⟩),.int .u64 0] 252)) (fun h=>h) (fun h=>h) (fun _ _ h=>h);go_wp2_with fail
 go_ret
 exact⟨_,rfl,⟨hb,_,mb,hn,h6,hz,h1,h2,by simp;omega⟩,hB2⟩
end Go.Proofs.YtigeldkbfbcpmaaGreat.P09
namespace Go.Proofs.YtigeldkbfbcpmaaGreat.P09
open Go.RowKit Go.Kpt HeapPure RatioPure
theorem fits_of{c d up:Nat}(hd:0 < d)(h:c*d+up < 18446744073709551616):Fits c up d:=by
 refine⟨hd,?_,?_⟩
 ·unfold hi;omega
 ·unfold cy lo;omega
def mk(c up d:Nat)(id:Int)(hd:0 < d)(h:c*d+up < 18446744073709551616)(hs:Sm d):Mk:=⟨c*d+up,d,id,h,hs,hd⟩
def Rb(w:World)(b n d:Nat):Prop:=w.heap[b]?=some (.cells #[.int .u64 n,.int .u64 d] 246 (0,0))
def set2(w:World)(b n d:Nat):World:=(w.setCell ⟨b,0,none⟩ (.int .u64 n)).setCell ⟨b,1,none⟩ (.int .u64 d)
def wn:Option Mk→Nat
 | none=>0
 | some m=>m.n
def wd:Option Mk→Nat
 | none=>0
 | some m=>m.d
def wi:Option Mk→Int
 | none=>0
 | some m=>m.id
theorem kk_wf{w:World}{base hb:Nat}{fv v:Value}{mb:Nat}{l:List (Int×Mk)}(h:Hp w base hb fv v mb l)(hl:0 < l.length):(Lit.int .i64 (kk l 0)).wf=true:=by
 refine h.wf (l.getD 0 default) ?_;rw[List.getD_eq_getElem?_getD,List.getElem?_eq_getElem hl];exact List.getElem_mem hl
end Go.Proofs.YtigeldkbfbcpmaaGreat.P09
