/- A part of the proof: what the functions of the program come to, and what holds at all times. -/
import Derived.Deep.AppendLies
import Derived.Deep.RegionLaw
import Derived.Test.YtigeldkbfbcpmaaGreatM14
set_option linter.unusedVariables false
set_option linter.unusedSectionVars false
set_option linter.unusedSimpArgs false
set_option maxRecDepth 100000
set_option maxHeartbeats 8000000
namespace Go.Proofs.YtigeldkbfbcpmaaGreat.P14
open Go.RowKit Go.Kpt HeapPure
theorem Tryz.info241:(Tryz.prog.info? 241).map (fun i=>(i.zero,i.size,i.bytes))=some (some (.agg #[.int .i64 0,.int .i64 0,.int .i64 0,.int .i64 0,.int .i64 0]),5,40):=by kernel_rfl
theorem idx_ext{l l':List (Ke×Tm)}(hI:Inj l)(hI':Inj l'){x:Ke}(h:∀ n:Nat,(∃ v:Tm,l'[n]?=some (x,v))↔(∃ v:Tm,l[n]?=some (x,v))):idx l' x=idx l x:=by
 cases e:idx l x with
 | none=>
  cases e2:idx l' x with
  | none=>rfl
  | some n=>
   obtain⟨v,hv⟩:=(h n).1 ⟨_,(idx_some e2).2⟩;exact absurd hv (idx_none e n v)
 | some n=>
  obtain⟨v,hv⟩:=(h n).2 ⟨_,(idx_some e).2⟩;exact idx_of hI' hv
theorem mi_set{l:List (Ke×Tm)}(hI:Inj l){i:Nat}{k:Ke}{v:Tm}(h:idx l k=some i):mi (l.set i (k,v))=mi l:=by
 funext x
 unfold mi;congr 1
 obtain⟨hi,hk⟩:=idx_some h;refine idx_ext hI (set_inj hI h) fun n=>?_;rw[List.getElem?_set];by_cases e:i=n
 ·subst e
  rw[if_pos rfl,if_pos hi,hk];constructor <;> rintro⟨u,hu⟩ <;> cases hu <;> exact⟨_,rfl⟩
 ·rw[if_neg e]
theorem mi_append{l:List (Ke×Tm)}(hI:Inj l){k:Ke}{v:Tm}(h:idx l k=none):mi (l++[(k,v)])=gput (mi l) k l.length:=by
 funext x
 unfold mi gput;have hA:=append_inj hI (v:=v) h;by_cases e:x=k
 ·subst e
  rw[if_pos rfl,idx_of (v:=v) hA (i:=l.length) (by simp)];rfl
 ·rw[if_neg e]
  congr 1
  refine idx_ext hI hA fun n=>?_;rw[List.getElem?_append];split
  ·exact Iff.rfl
  ·rename_i hn
   rw[List.getElem?_eq_none (by omega:l.length≤n)];constructor
   ·rintro⟨u,hu⟩
    rw[List.getElem?_singleton] at hu;split at hu
    ·cases hu;exact absurd rfl e
    ·cases hu
   ·rintro⟨u,hu⟩;cases hu
theorem mi_cut{l:List (Ke×Tm)}(hI:Inj l){i:Nat}{k:Ke}(h:idx l k=some i):gdel (mi (swp l i (l.length - 1))) k=mi (cut l i):=by
 obtain⟨hi,hk⟩:=idx_some h;funext x
 unfold mi gdel;have hS:=swp_inj hI hi (show l.length - 1 < l.length by omega);have hC:=cut_inj hI hi;by_cases e:x=k
 ·subst e
  rw[if_pos rfl];cases e2:idx (cut l i) x with
  | none=>rfl
  | some n=>
   have:=(cut_has hI h x _).1 ⟨n,(idx_some e2).2⟩;exact absurd rfl this.1
 ·rw[if_neg e]
  show Option.map _ (idx (swp l i (l.length - 1)) x)=Option.map _ (idx (cut l i) x);congr 1
  refine(idx_ext hS hC fun n=>?_).symm;rw[get_cut l hi,get_swp l hi (by omega)];by_cases h1:n < l.length - 1
  ·rw[if_pos h1,if_neg (by omega:¬ n=l.length - 1)]
  ·rw[if_neg h1]
   by_cases h2:n=l.length - 1
   ·rw[if_pos h2,hk]
    constructor
    ·rintro⟨u,hu⟩;cases hu
    ·rintro⟨u,hu⟩;cases hu;exact absurd rfl e
   ·rw[if_neg h2,if_neg (by omega),List.getElem?_eq_none (by omega)]
theorem cut_wf{l:List (Ke×Tm)}{i:Nat}(hi:i < l.length)(h:∀ x ∈ l,kok x.1):∀ x ∈ cut l i,kok x.1:=by
 intro x hx;obtain⟨n,hn⟩:=List.mem_iff_getElem?.1 hx;rw[get_cut l hi] at hn;split at hn
 ·split at hn
  ·exact h _ (List.mem_of_getElem? hn)
  ·exact h _ (List.mem_of_getElem? hn)
 ·cases hn
theorem new_any(w:World):
  Calls Tryz.prog 66 #[fv17] w fun e w'=>∃ hb mb,e=.returned (.pointer (some ⟨hb,0,none⟩))∧w.heap.size≤hb∧w.heap.size≤mb∧hb < w'.heap.size∧mb < w'.heap.size∧Hp w' w.heap.size hb fv17 (.slice none 0 0) mb []∧Below w.heap.size w w':=by
 have hmm:=@run_makeMap Tryz.prog;have hmade:Gm keyY intE (w.alloc (.map #[] 0)) w.heap.size 0 (fun _=>none):=Gm.made keyY intE w;go_enter Tryz.func66,Tryz.ntmps66
 go_wp2_with fail
 go_ret
 refine⟨_,w.heap.size,rfl,by simp,Nat.le_refl _,by simp,by simp;omega,⟨by simpa using heap_alloc_new (w.alloc (.map #[] 0)) (.cells #[fv17,.slice none 0 0,.map (some w.heap.size)] 206),OwnQ.nil _ _ _,hmade.below ((Below.refl _ _).alloc (Nat.le_refl _) _),Inj.nil,by simp,by simp⟩,by go_grown⟩
def Mb(w:World)(b:Nat)(n d id:Int):Prop:=w.heap[b]?=some (.cells #[.int .i64 n,.int .i64 d,.int .i64 id] 162 (0,0))
theorem Mb.cells{w:World}{b:Nat}{n d id:Int}(h:Mb w b n d id):w.cell? ⟨b,0,none⟩=some (.int .i64 n)∧w.cell? ⟨b,1,none⟩=some (.int .i64 d)∧w.cell? ⟨b,2,none⟩=some (.int .i64 id):=⟨cell_of h,cell_of h,cell_of h⟩
theorem Mb.free{w:World}{b:Nat}{n d id:Int}(h:Mb w b n d id):w.frozen? ⟨b,0,none⟩=false∧w.frozen? ⟨b,1,none⟩=false∧w.frozen? ⟨b,2,none⟩=false:=⟨frozen_of h,frozen_of h,frozen_of h⟩
theorem Mb.kept{F:Nat→Prop}{w w':World}{b:Nat}{n d id:Int}(h:Mb w b n d id)(k:Kept F w w')(hF:¬ F b):Mb w' b n d id:=(k.block b (lt_of h) hF).trans h
def set3(w:World)(b:Nat)(n d id:Int):World:=((w.setCell ⟨b,0,none⟩ (.int .i64 n)).setCell ⟨b,1,none⟩ (.int .i64 d)).setCell ⟨b,2,none⟩ (.int .i64 id)
theorem set3_mb{w:World}{b:Nat}{n d id:Int}(h:Mb w b n d id)(n' d' id':Int):Mb (set3 w b n' d' id') b n' d' id':=set_same (i:=2) _ (set_same (i:=1) _ (set_same (i:=0) _ h))
theorem set3_kept(w:World)(b:Nat)(n d id:Int):Kept (fun x=>x=b) w (set3 w b n d id):=((Kept.set1 w b 0 _).trans (Kept.set1 _ b 1 _) (fun _ _ h=>h)).trans (Kept.set1 _ b 2 _) (fun _ _ h=>h)
def Kb(w:World)(b:Nat)(k:Ke):Prop:=w.heap[b]?=some (.cells #[.int .i64 k.1,.int .i64 k.2] 160 (0,0))
theorem Kb.cells{w:World}{b:Nat}{k:Ke}(h:Kb w b k):w.cell? ⟨b,0,none⟩=some (.int .i64 k.1)∧w.cell? ⟨b,1,none⟩=some (.int .i64 k.2):=⟨cell_of h,cell_of h⟩
theorem Kb.free{w:World}{b:Nat}{k:Ke}(h:Kb w b k):w.frozen? ⟨b,0,none⟩=false∧w.frozen? ⟨b,1,none⟩=false:=⟨frozen_of h,frozen_of h⟩
theorem Kb.kept{F:Nat→Prop}{w w':World}{b:Nat}{k:Ke}(h:Kb w b k)(hk:Kept F w w')(hF:¬ F b):Kb w' b k:=(hk.block b (lt_of h) hF).trans h
def set2(w:World)(b:Nat)(k:Ke):World:=(w.setCell ⟨b,0,none⟩ (.int .i64 k.1)).setCell ⟨b,1,none⟩ (.int .i64 k.2)
theorem set2_kb{w:World}{b:Nat}{k:Ke}(h:Kb w b k)(k':Ke):Kb (set2 w b k') b k':=set_same (i:=1) _ (set_same (i:=0) _ h)
theorem set2_kept(w:World)(b:Nat)(k:Ke):Kept (fun x=>x=b) w (set2 w b k):=(Kept.set1 w b 0 _).trans (Kept.set1 _ b 1 _) (fun _ _ h=>h)
theorem min_none(base hb:Nat)(v:Value)(mb:Nat)(w:World)(h:Hp w base hb fv17 v mb []):
  Calls Tryz.prog 121 #[.pointer (some ⟨hb,0,none⟩)] w fun e w'=>e=.returned (.tuple #[kv (0,0),.agg #[.int .i64 0,.int .i64 0,.int .i64 0],.bool false])∧Below w.heap.size w w':=by
 have hA:Kb (w.alloc (.cells #[.int .i64 0,.int .i64 0] 160)) w.heap.size (0,0):=heap_alloc_new _ _;have k1:Kept (fun _=>False) w (w.alloc (.cells #[.int .i64 0,.int .i64 0] 160)):=(Kept.refl _ w).alloc _;have hz1:w.heap.size < (w.alloc (.cells #[.int .i64 0,.int .i64 0] 160)).heap.size:=by simp
 obtain⟨w1,hw1⟩:∃ w1,w.alloc (.cells #[.int .i64 0,.int .i64 0] 160)=w1:=⟨_,rfl⟩;rw[hw1] at hA k1 hz1;have hM:Mb (w1.alloc (.cells #[.int .i64 0,.int .i64 0,.int .i64 0] 162)) w1.heap.size 0 0 0:=heap_alloc_new _ _;have k2':Kept (fun _=>False) w1 (w1.alloc (.cells #[.int .i64 0,.int .i64 0,.int .i64 0] 162)):=(Kept.refl _ w1).alloc _;have hz2:w1.heap.size < (w1.alloc (.cells #[.int .i64 0,.int .i64 0,.int .i64 0] 162)).heap.size:=by simp
 obtain⟨w2,hw2⟩:∃ w2,w1.alloc (.cells #[.int .i64 0,.int .i64 0,.int .i64 0] 162)=w2:=⟨_,rfl⟩;rw[hw2] at hM k2' hz2;have k2:=k1.trans k2' (fun _ _ h=>h);have hA2:=hA.kept k2' (fun h=>h);have hblk:=(k2.block hb (lt_of h.blk) (fun h=>h)).trans h.blk;have hN:(w2.alloc (.cells #[.int .i64 0,.int .i64 0,.int .i64 0,.int .i64 0,.int .i64 0] 241)).heap[w2.heap.size]?=some (.cells #[.int .i64 0,.int .i64 0,.int .i64 0,.int .i64 0,.int .i64 0] 241 (0,0)):=heap_alloc_new _ _;have k3':Kept (fun _=>False) w2 (w2.alloc (.cells #[.int .i64 0,.int .i64 0,.int .i64 0,.int .i64 0,.int .i64 0] 241)):=(Kept.refl _ w2).alloc _;obtain⟨w3,hw3⟩:∃ w3,w2.alloc (.cells #[.int .i64 0,.int .i64 0,.int .i64 0,.int .i64 0,.int .i64 0] 241)=w3:=⟨_,rfl⟩;rw[hw3] at hN k3';have k3:=k2.trans k3' (fun _ _ h=>h);have hA3:=hA2.kept k3' (fun h=>h);have hM3:=hM.kept k3' (fun h=>h);obtain⟨a0,a1⟩:=hA3.cells;obtain⟨d0,d1⟩:=hA3.free;obtain⟨b0,b1,b2⟩:=hM3.cells;obtain⟨f0,f1,f2⟩:=hM3.free;have n0:w3.cell? ⟨w2.heap.size,0,none⟩=some (.int .i64 0):=cell_of hN;have n1:w3.cell? ⟨w2.heap.size,1,none⟩=some (.int .i64 0):=cell_of hN;have n2:w3.cell? ⟨w2.heap.size,2,none⟩=some (.int .i64 0):=cell_of hN;have n3:w3.cell? ⟨w2.heap.size,3,none⟩=some (.int .i64 0):=cell_of hN;have n4:w3.cell? ⟨w2.heap.size,4,none⟩=some (.int .i64 0):=cell_of hN;have hne1:w.heap.size≠w1.heap.size:=by omega
 have hsh:v=.slice none 0 0∨∃ g cap,v=.slice (some ⟨g,0,none⟩) 0 cap:=by
  rcases h.own.shape with ⟨rfl,-⟩|⟨g,cap,rfl,-⟩
  ·exact .inl rfl
  ·exact .inr ⟨g,cap,rfl⟩
 have ea6:Kb (set3 (set2 w3 w.heap.size (0,0)) w1.heap.size 0 0 0).drew w.heap.size (0,0):=(set2_kb hA3 (0,0)).kept ((set3_kept _ w1.heap.size 0 0 0).drew) hne1;have eb6:Mb (set3 (set2 w3 w.heap.size (0,0)) w1.heap.size 0 0 0).drew w1.heap.size 0 0 0:=set3_mb (hM3.kept (set2_kept w3 w.heap.size (0,0)) (Ne.symm hne1)) 0 0 0;have k6:Kept (fun x=>x=w.heap.size∨x=w1.heap.size) w3 (set3 (set2 w3 w.heap.size (0,0)) w1.heap.size 0 0 0).drew:=((set2_kept w3 w.heap.size (0,0)).mono (fun _ _ h=>.inl h)).trans ((set3_kept _ w1.heap.size 0 0 0).drew) (fun _ _ h=>.inr h);have hB6:Below w.heap.size w (set3 (set2 w3 w.heap.size (0,0)) w1.heap.size 0 0 0).drew:=(k3.trans k6 (G:=fun x=>x=w.heap.size∨x=w1.heap.size) (F:=fun _=>False) (fun x hx h=>by omega)).below (Nat.le_refl _) (fun _ _ h=>h);clear hA k1 hz1 hz2 hN hA2 k2 k2' k3' h k3 k6 hM hA3 hM3;rcases hsh with rfl|⟨g,cap,rfl⟩
 all_goals
  have q1:=cell_of (j:=1) hblk;simp at q1;clear hblk;go_enter Tryz.func121,Tryz.ntmps121
  go_wp2_with fail
  go_region
  all_goals (go_wp2_with fail)
  all_goals change bodyPost _ _ _ _ _ (set3 (set2 w3 w.heap.size (0,0)) w1.heap.size 0 0 0).drew
  all_goals generalize (set3 (set2 w3 w.heap.size (0,0)) w1.heap.size 0 0 0).drew=w6 at *
  all_goals clear a0 a1 d0 d1 b0 b1 b2 f0 f1 f2
  all_goals obtain⟨a0,a1⟩:=ea6.cells
  all_goals obtain⟨b0,b1,b2⟩:=eb6.cells
  all_goals refine bodyPost_ret (by simp[results,Tryz.results121,go_sem,a0,a1,b0,b1,b2];try rfl) rfl ?_
  all_goals exact⟨rfl,hB6⟩
theorem min_some(base hb:Nat)(v:Value)(mb:Nat)(l:List (Ke×Tm))(hl:0 < l.length)(w:World)(h:Hp w base hb fv17 v mb l):
  Calls Tryz.prog 121 #[.pointer (some ⟨hb,0,none⟩)] w fun e w'=>e=.returned (.tuple #[kv (kk l 0),mv (vv l 0),.bool true])∧Below w.heap.size w w':=by
 have hA:Kb (w.alloc (.cells #[.int .i64 0,.int .i64 0] 160)) w.heap.size (0,0):=heap_alloc_new _ _;have k1:Kept (fun _=>False) w (w.alloc (.cells #[.int .i64 0,.int .i64 0] 160)):=(Kept.refl _ w).alloc _;have hz1:w.heap.size < (w.alloc (.cells #[.int .i64 0,.int .i64 0] 160)).heap.size:=by simp
 obtain⟨w1,hw1⟩:∃ w1,w.alloc (.cells #[.int .i64 0,.int .i64 0] 160)=w1:=⟨_,rfl⟩;rw[hw1] at hA k1 hz1;have hM:Mb (w1.alloc (.cells #[.int .i64 0,.int .i64 0,.int .i64 0] 162)) w1.heap.size 0 0 0:=heap_alloc_new _ _;have k2':Kept (fun _=>False) w1 (w1.alloc (.cells #[.int .i64 0,.int .i64 0,.int .i64 0] 162)):=(Kept.refl _ w1).alloc _;obtain⟨w2,hw2⟩:∃ w2,w1.alloc (.cells #[.int .i64 0,.int .i64 0,.int .i64 0] 162)=w2:=⟨_,rfl⟩;rw[hw2] at hM k2';have k2:=k1.trans k2' (fun _ _ h=>h);have hA2:=hA.kept k2' (fun h=>h);have h2:=h.kept k2 (fun h=>h) (fun h=>h) (fun _ _ h=>h);have hgl:=h.own.lt;rcases h2.own.shape with ⟨-,rfl⟩|⟨g,cap,rfl,hg1,hg2,hlc,hcm,-,hcl⟩
 ·simp at hl
 have hgw:g < w.heap.size:=(hgl g rfl).2;have q1:w2.cell? ⟨hb,1,none⟩=some (.slice (some ⟨g,0,none⟩) l.length cap):=cell_of h2.blk;obtain⟨c0,c1,c2,c3,c4⟩:=hcl 0 hl;simp only[Nat.zero_mul,Nat.zero_add] at c0 c1 c2 c3 c4;have hlen:(0:Int) < (l.length:Int):=by omega
 have hne:((l.length:Int) == 0)=false:=beq_eq_false_iff_ne.2 (by omega);have e0:kk l 0=(l.getD 0 default).1:=rfl;have e1:vv l 0=(l.getD 0 default).2:=rfl;rw[← e0] at c0 c1;rw[← e1] at c2 c3 c4;obtain⟨a0,a1⟩:=hA2.cells;obtain⟨d0,d1⟩:=hA2.free;obtain⟨b0,b1,b2⟩:=hM.cells;obtain⟨f0,f1,f2⟩:=hM.free;have hga:g≠w.heap.size:=by omega
 have hgb:g≠w1.heap.size:=by omega
 have hhl:=lt_of h.blk;have hha:hb≠w.heap.size:=by omega
 have hhb:hb≠w1.heap.size:=by omega
 have hne1:w.heap.size≠w1.heap.size:=by omega
 generalize kk l 0=a at *;obtain⟨m,hm⟩:∃ m,vv l 0=m:=⟨_,rfl⟩;rw[hm] at c2 c3 c4 ⊢;have ea6:Kb (set3 (set2 w2 w.heap.size a) w1.heap.size m.at_ m.kd m.id).drew w.heap.size a:=(set2_kb hA2 a).kept ((set3_kept _ w1.heap.size m.at_ m.kd m.id).drew) hne1;have eb6:Mb (set3 (set2 w2 w.heap.size a) w1.heap.size m.at_ m.kd m.id).drew w1.heap.size m.at_ m.kd m.id:=set3_mb (hM.kept (set2_kept w2 w.heap.size a) (Ne.symm hne1)) m.at_ m.kd m.id;have k6:Kept (fun x=>x=w.heap.size∨x=w1.heap.size) w2 (set3 (set2 w2 w.heap.size a) w1.heap.size m.at_ m.kd m.id).drew:=((set2_kept w2 w.heap.size a).mono (fun _ _ h=>.inl h)).trans ((set3_kept _ w1.heap.size m.at_ m.kd m.id).drew) (fun _ _ h=>.inr h);have hB6:Below w.heap.size w (set3 (set2 w2 w.heap.size a) w1.heap.size m.at_ m.kd m.id).drew:=(k2.trans k6 (G:=fun x=>x=w.heap.size∨x=w1.heap.size) (F:=fun _=>False) (fun x hx h=>by omega)).below (Nat.le_refl _) (fun _ _ h=>h);clear e0 e1 hcl h h2 hA hA2 hM k1 k2 k2' k6 hm hgl hz1;go_enter Tryz.func121,Tryz.ntmps121
 go_wp2_with fail
 go_region
 all_goals (go_wp2_with fail)
 all_goals change bodyPost _ _ _ _ _ (set3 (set2 w2 w.heap.size a) w1.heap.size m.at_ m.kd m.id).drew
 all_goals generalize (set3 (set2 w2 w.heap.size a) w1.heap.size m.at_ m.kd m.id).drew=w6 at *
 all_goals clear a0 a1 d0 d1 b0 b1 b2 f0 f1 f2
 all_goals obtain⟨a0,a1⟩:=ea6.cells
 all_goals obtain⟨b0,b1,b2⟩:=eb6.cells
 all_goals refine bodyPost_ret (by simp[results,Tryz.results121,go_sem,a0,a1,b0,b1,b2];try rfl) rfl ?_
 all_goals exact⟨rfl,hB6⟩
theorem ki_run{w:World}{mb c:Nat}{m:Ke→Option Int}(h:Gm keyY intE w mb c m)(k:Ke)(hk:kok k):
  (Instr.lookup 203 (.map (some mb)) (.agg #[.int .i64 k.1,.int .i64 k.2]) true).run Tryz.prog w=.ok (.tuple #[.int .i64 ((m k).getD 0),.bool (m k).isSome]) w:=
 h.look_ok Tryz.underlying203 (0:Int) (by kernel_rfl) k hk
def gv:Option Tm→Value
 | none=>.agg #[.int .i64 0,.int .i64 0,.int .i64 0]
 | some m=>mv m
def Moved(w:World)(v v':Value):Prop:=∀ g,v'.ownBlock=some g→v.ownBlock=some g∨w.heap.size≤g
theorem Moved.refl(w:World)(v:Value):Moved w v v:=fun g h=>.inl h
theorem fix_kept{w u u':World}{hb mb:Nat}{v v':Value}(h1:Kept (fun x=>x=hb∨own mb v x) w u)(h2:Kept (own mb v') u u')(hm:Moved w v v'):Kept (fun x=>x=hb∨own mb v x) w u':=
 h1.trans h2 fun x hx h=>by
  rcases h with h|h
  ·exact .inr (.inl h)
  ·rcases hm x h.symm with h3 | h3
   ·exact .inr (.inr h3.symm)
   ·omega
theorem set_there(HL:LessC)(base hb:Nat)(v:Value)(mb:Nat)(l:List (Ke×Tm))(k:Ke)(x:Tm)(hk:kok k)(i:Nat)(e:idx l k=some i)(w:World)(h:Hp w base hb fv17 v mb l):
  Calls Tryz.prog 149 #[.pointer (some ⟨hb,0,none⟩),kv k,mv x] w fun e w'=>e=.returned (.tuple #[])∧Hp w' base hb fv17 v mb (setAt lt l k x)∧Kept (fun y=>y=hb∨own mb v y) w w':=by
 obtain⟨hi,hik⟩:=idx_some e;have hset:setAt lt l k x=fix lt (l.set i (k,x)) i:=by unfold setAt;rw[e]
 rw[hset];have hA0:Kb (w.alloc (.cells #[.int .i64 k.1,.int .i64 k.2] 160)) w.heap.size k:=heap_alloc_new _ _;have k0:Kept (fun _=>False) w (w.alloc (.cells #[.int .i64 k.1,.int .i64 k.2] 160)):=(Kept.refl _ w).alloc _;obtain⟨w0,hw0⟩:∃ w1,w.alloc (.cells #[.int .i64 k.1,.int .i64 k.2] 160)=w1:=⟨_,rfl⟩;rw[hw0] at hA0 k0;have hM:Mb (w0.alloc (.cells #[.int .i64 x.at_,.int .i64 x.kd,.int .i64 x.id] 162)) w0.heap.size x.at_ x.kd x.id:=heap_alloc_new _ _;have k0':Kept (fun _=>False) w0 (w0.alloc (.cells #[.int .i64 x.at_,.int .i64 x.kd,.int .i64 x.id] 162)):=(Kept.refl _ w0).alloc _;obtain⟨w1',hw1⟩:∃ w1,w0.alloc (.cells #[.int .i64 x.at_,.int .i64 x.kd,.int .i64 x.id] 162)=w1:=⟨_,rfl⟩;rw[hw1] at hM k0';have k1':=k0.trans k0' (fun _ _ h=>h);have hA1:=hA0.kept k0' (fun h=>h);have h1':=h.kept k1' (fun h=>h) (fun h=>h) (fun _ _ h=>h);obtain⟨a0,a1⟩:=hA1.cells;have hm:mi l k=some (i:Int):=by unfold mi;rw[e];rfl
 have hlk:=fun n=>ki_run (h1'.mp.kept (F:=fun _=>False) ((Kept.refl _ w1').drewN n) (fun h=>h)) k hk;rw[hm] at hlk;have q2:w1'.cell? ⟨hb,2,none⟩=some (.map (some mb)):=cell_of h1'.blk;have HH:=Lib.hid h1';have HM:=Lib.hid hM;have HK:=Lib.hid k1';clear h1' hM k1' hA1 hA0 k0 k0';go_enter Tryz.func149,Tryz.ntmps149
 go_wp2_with fail
 go_quiet (fail)
 have kD:Kept (fun _=>False) w1' (w1'.drewN nq):=(Kept.refl _ w1').drewN nq;have h1:=HH.out.kept kD (fun h=>h) (fun h=>h) (fun _ _ h=>h);have hM:=HM.out.kept kD (fun h=>h);have k1:=HK.out.trans kD (fun _ _ h=>h);clear HH HM HK kD hlk a0 a1 q2;generalize w1'.drewN nq=w1 at *;obtain⟨b0,b1,b2⟩:=hM.cells;have q1:w1.cell? ⟨hb,1,none⟩=some v:=cell_of h1.blk;have q2:w1.cell? ⟨hb,2,none⟩=some (.map (some mb)):=cell_of h1.blk;have hmp:=h1.mp;obtain⟨ap1,ap2⟩:=h1.apart;rcases h1.own.shape with ⟨-,rfl⟩|⟨g,cap,rfl,hg1,hg2,hlc,hcm,hfz,hcl⟩
 ·simp at hi
 obtain⟨ap2,ap3⟩:=ap2 g rfl;obtain⟨-,-,c1,c2,c3⟩:=hcl i hi;have f1:=hfz (i*5+2);have f2:=hfz (i*5+3);have f3:=hfz (i*5+4);have hi':(i:Int) < (l.length:Int):=by omega
 have hkey:(l.getD i default).1=k:=by rw[getElem_of hi] at hik;rw[Option.some.inj hik]
 have hown2:=h1.own.setV i hi x;rw[hkey] at hown2;have hk2:Kept (fun y=>y=g) w1 (((w1.setCell ⟨g,i*5+2,none⟩ (.int .i64 x.at_)).setCell ⟨g,i*5+3,none⟩ (.int .i64 x.kd)).setCell ⟨g,i*5+4,none⟩ (.int .i64 x.id)):=((Kept.set1 w1 g _ _).trans (Kept.set1 _ g _ _) (fun _ _ h=>h)).trans (Kept.set1 _ g _ _) (fun _ _ h=>h);have hmp2:=hmp.kept hk2 (Ne.symm ap3);rw[← mi_set h.inj (v:=x) e] at hmp2;have hHp:Hp (((w1.setCell ⟨g,i*5+2,none⟩ (.int .i64 x.at_)).setCell ⟨g,i*5+3,none⟩ (.int .i64 x.kd)).setCell ⟨g,i*5+4,none⟩ (.int .i64 x.id)).drew base hb fv17 (.slice (some ⟨g,0,none⟩) l.length cap) mb (l.set i (k,x)):=
  ((⟨(hk2.block hb (lt_of h1.blk) (Ne.symm ap2)).trans h1.blk,hown2,by rw[List.length_set];exact hmp2,set_inj h.inj e,fun y hy=>by
   rcases List.mem_or_eq_of_mem_set hy with hy|hy
   ·exact h.wf y hy
   ·rw[hy];exact hk,by rw[List.length_set];exact h.len⟩:Hp _ base hb fv17 (.slice (some ⟨g,0,none⟩) l.length cap) mb (l.set i (k,x)))).kept (F:=fun _=>False) ((Kept.refl _ _).drew) (fun h=>h) (fun h=>h) (fun _ _ h=>h)
 have hk3:=(k1.mono (G:=fun y=>y=g) (fun _ _ h=>h.elim)).trans hk2.drew (fun _ _ h=>h);have hfx:=fix_any HL base hb _ mb (l.set i (k,x)) i (by rw[List.length_set];exact hi) _ hHp;have hlen:l.length≤1000000000:=h.len;clear hown2 hmp2 hHp hcl hfz hkey hset hk2 h1 h k1;go_wp2_with fail
 go_region
 all_goals (go_wp2_with fail)
 all_goals refine hfx.mono ?_
 all_goals rintro e w2 ⟨rfl,h2,k2⟩
 all_goals (go_wp2_with fail)
 all_goals go_returns
 all_goals exact⟨rfl,h2,fix_kept (hk3.mono (fun y _ hy=>.inr (.inr (by rw[hy];rfl)))) k2 (Moved.refl _ _)⟩
section
variable {w w':World} {base s n cap g:Nat} {e:TypeId} {v:Value} {raw:List Value}
theorem row_kept{F:Nat→Prop}(h:w.ownsRow base e s v n raw)(hk:Kept F w w')(hF:∀ g,v.ownBlock=some g→¬ F g):w'.ownsRow base e s v n raw:=by
 refine⟨h.1,?_⟩;rcases h.2 with h1|⟨g,cap,cur,rfl,hb,hg,hr⟩
 ·exact .inl h1
 ·exact .inr ⟨g,cap,cur,rfl,hb,(hk.block g (lt_of hg) (hF g rfl)).trans hg,hr⟩
theorem row_cell(h:w.ownsRow base e s (.slice (some ⟨g,0,none⟩) n cap) n raw)(i:Nat)(hi:i < n*s):w.cell? ⟨g,i,none⟩=raw[i]?∧w.frozen? ⟨g,i,none⟩=false:=by
 rcases h.2 with ⟨h1,_⟩|⟨g',cap',cur,h1,hb,hg,hle,hm,hs,ht⟩
 ·cases h1
 ·cases h1
  refine⟨?_,frozen_of hg⟩;rw[cell_of hg,← ht,List.getElem?_take,if_pos hi];simp
theorem row_block(h:w.ownsRow base e s (.slice (some ⟨g,0,none⟩) n cap) n raw):∃ cur,w.heap[g]?=some (.cells cur e (0,0)):=by
 rcases h.2 with ⟨h1,_⟩|⟨g',cap',cur,h1,hb,hg,_⟩
 ·cases h1
 ·cases h1;exact⟨cur,hg⟩
end
abbrev zraw(k:Ke):List Value:=[.int .i64 k.1,.int .i64 k.2,.int .i64 0,.int .i64 0,.int .i64 0]
theorem raw_new(l:List (Ke×Tm))(k:Ke)(x:Tm):(((qcells l++zraw k).set (l.length*5+2) (.int .i64 x.at_)).set (l.length*5+3) (.int .i64 x.kd)).set (l.length*5+4) (.int .i64 x.id)=qcells (l++[(k,x)]):=by
 have hl:=qcells_length l;rw[qcells_append];rw[List.set_append_right _ _ (by omega),List.set_append_right _ _ (by omega),List.set_append_right _ _ (by omega)];rw[show l.length*5+2 - (qcells l).length=2 by omega,show l.length*5+3 - (qcells l).length=3 by omega,show l.length*5+4 - (qcells l).length=4 by omega];rfl
theorem raw_get(l:List (Ke×Tm))(k:Ke):(qcells l++zraw k)[l.length*5+2]?=some (.int .i64 0)∧(qcells l++zraw k)[l.length*5+3]?=some (.int .i64 0)∧(qcells l++zraw k)[l.length*5+4]?=some (.int .i64 0):=by
 have hl:=qcells_length l;refine⟨?_,?_,?_⟩
 ·rw[List.getElem?_append_right (by omega),show l.length*5+2 - (qcells l).length=2 by omega];rfl
 ·rw[List.getElem?_append_right (by omega),show l.length*5+3 - (qcells l).length=3 by omega];rfl
 ·rw[List.getElem?_append_right (by omega),show l.length*5+4 - (qcells l).length=4 by omega];rfl
theorem set_new(HL:LessC)(base hb:Nat)(v:Value)(mb:Nat)(l:List (Ke×Tm))(k:Ke)(x:Tm)(hk:kok k)(hl:l.length+1≤1000000000)(e:idx l k=none)(w:World)(hbase:base≤w.heap.size)(h:Hp w base hb fv17 v mb l):
  Calls Tryz.prog 149 #[.pointer (some ⟨hb,0,none⟩),kv k,mv x] w fun e w'=>e=.returned (.tuple #[])∧∃ v',Hp w' base hb fv17 v' mb (setAt lt l k x)∧Kept (fun y=>y=hb∨own mb v y) w w'∧Moved w v v':=by
 obtain⟨i0,hi,iz0,iz1,iz2⟩:=info_parts Tryz.info241;have hset:setAt lt l k x=fix lt (l++[(k,x)]) l.length:=by unfold setAt;rw[e]
 rw[hset];have hmi:mi l k=none:=by unfold mi;rw[e];rfl
 have hA0:Kb (w.alloc (.cells #[.int .i64 k.1,.int .i64 k.2] 160)) w.heap.size k:=heap_alloc_new _ _;have k0:Kept (fun _=>False) w (w.alloc (.cells #[.int .i64 k.1,.int .i64 k.2] 160)):=(Kept.refl _ w).alloc _;obtain⟨w0,hw0⟩:∃ w1,w.alloc (.cells #[.int .i64 k.1,.int .i64 k.2] 160)=w1:=⟨_,rfl⟩;rw[hw0] at hA0 k0;have hM0:Mb (w0.alloc (.cells #[.int .i64 x.at_,.int .i64 x.kd,.int .i64 x.id] 162)) w0.heap.size x.at_ x.kd x.id:=heap_alloc_new _ _;have k0':Kept (fun _=>False) w0 (w0.alloc (.cells #[.int .i64 x.at_,.int .i64 x.kd,.int .i64 x.id] 162)):=(Kept.refl _ w0).alloc _;obtain⟨w1',hw1⟩:∃ w1,w0.alloc (.cells #[.int .i64 x.at_,.int .i64 x.kd,.int .i64 x.id] 162)=w1:=⟨_,rfl⟩;rw[hw1] at hM0 k0';have k1':=k0.trans k0' (fun _ _ h=>h);have hA1:=hA0.kept k0' (fun h=>h);have h1':=h.kept k1' (fun h=>h) (fun h=>h) (fun _ _ h=>h);obtain⟨a0,a1⟩:=hA1.cells;have hlk:=fun n=>ki_run (h1'.mp.kept (F:=fun _=>False) ((Kept.refl _ w1').drewN n) (fun h=>h)) k hk;rw[hmi] at hlk;have q2:w1'.cell? ⟨hb,2,none⟩=some (.map (some mb)):=cell_of h1'.blk;have HH:=Lib.hid h1';have HM:=Lib.hid hM0;have HA:=Lib.hid hA1;have HK:=Lib.hid k1';have H0:=Lib.hid h;have hsz0:w.heap.size≤w0.heap.size:=k0.size;clear h1' hM0 k1' hA1 hA0 k0 k0' h hset;go_enter Tryz.func149,Tryz.ntmps149
 go_wp2_with fail
 go_quiet (fail)
 have kD:Kept (fun _=>False) w1' (w1'.drewN nq):=(Kept.refl _ w1').drewN nq;have h1:=HH.out.kept kD (fun h=>h) (fun h=>h) (fun _ _ h=>h);have hM:=HM.out.kept kD (fun h=>h);have hA:=HA.out.kept kD (fun h=>h);have k1:=HK.out.trans kD (fun _ _ h=>h);clear HH HM HA HK kD hlk a0 a1 q2;generalize w1'.drewN nq=w1 at *;obtain⟨a,cap,hv⟩:∃ a cap,v=.slice a l.length cap:=by
  rcases h1.own.shape with ⟨rfl,rfl⟩|⟨g,cap,rfl,-⟩
  ·exact⟨none,0,rfl⟩
  ·exact⟨_,_,rfl⟩
 subst hv;have q1:w1.cell? ⟨hb,1,none⟩=some (.slice a l.length cap):=cell_of h1.blk;have q2:w1.cell? ⟨hb,2,none⟩=some (.map (some mb)):=cell_of h1.blk;obtain⟨a0,a1⟩:=hA.cells;obtain⟨ap1,ap2⟩:=h1.apart
 have hz1:=k1.size;have hn0:hb≠w1.heap.size:=by have:=lt_of h1.blk;omega
 have hn1:w.heap.size≠w1.heap.size:=by have:=lt_of hA;omega
 have hkA:Kept (fun _=>False) w1 (w1.alloc (.cells #[.int .i64 k.1,.int .i64 k.2,.int .i64 0,.int .i64 0,.int .i64 0] 241)).drew:=((Kept.refl _ w1).alloc _).drew;have h2:=h1.kept hkA (fun h=>h) (fun h=>h) (fun _ _ h=>h);have hI:(w1.alloc (.cells #[.int .i64 k.1,.int .i64 k.2,.int .i64 0,.int .i64 0,.int .i64 0] 241)).drew.heap[w1.heap.size]?=some (.cells #[.int .i64 k.1,.int .i64 k.2,.int .i64 0,.int .i64 0,.int .i64 0] 241 (0,0)):=heap_alloc_new _ _;have hM2:=hM.kept hkA (fun h=>h);have hA2:=hA.kept hkA (fun h=>h);have k2:=k1.trans hkA (fun _ _ h=>h);have hb2:base≤(w1.alloc (.cells #[.int .i64 k.1,.int .i64 k.2,.int .i64 0,.int .i64 0,.int .i64 0] 241)).drew.heap.size:=by have:=k2.size;omega
 have hnews:∀ j u,([.int .i64 k.1,.int .i64 k.2,.int .i64 0,.int .i64 0,.int .i64 0]:List Value)[j]?=some u→(w1.alloc (.cells #[.int .i64 k.1,.int .i64 k.2,.int .i64 0,.int .i64 0,.int .i64 0] 241)).drew.cell? ((⟨w1.heap.size,0,none⟩:Addr).add j)=some u:=by
  intro j u hj;have hplain:(⟨w1.heap.size,0,none⟩:Addr).add j=⟨w1.heap.size,j,none⟩:=by unfold Addr.add;split <;> simp_all
  rw[hplain];exact(cell_of hI).trans (by simpa using hj)
 have hone:∀ u ∈ ([.int .i64 k.1,.int .i64 k.2,.int .i64 0,.int .i64 0,.int .i64 0]:List Value),u.oneCell'=true:=by intro u hu;simp at hu;rcases hu with rfl|rfl|rfl <;> rfl
 have hml:l.length+1≤maxLen:=by unfold maxLen;omega
 have hby:(l.length+1)*40≤140737488355328:=by omega
 have qa:(w1.alloc (.cells #[.int .i64 k.1,.int .i64 k.2,.int .i64 0,.int .i64 0,.int .i64 0] 241)).cell? ⟨hb,1,none⟩=some (.slice a l.length cap):=cell_of h2.blk;have H2:=Lib.hid h2;have HM2:=Lib.hid hM2;have HA2:=Lib.hid hA2;have HN:=Lib.hid hnews;have HB2:=Lib.hid hb2;have K2:=Lib.hid k2;clear h2 hI hM2 hA2 k2 hnews hb2 hkA h1 hM hA k1;go_wp2_with fail
 go_region_law ((refine step_append_lies _ (by rfl) _ _ 204 (by rfl) base 241 i0 (.agg #[.int .i64 0,.int .i64 0,.int .i64 0,.int .i64 0,.int .i64 0]) 5 40 Tryz.underlying204 hi iz0 iz1 iz2 rfl (by decide) (.slice a l.length cap) l.length (qcells l) (by rfl) H2.out.own ⟨w1.heap.size,0,none⟩ 1 1 [.int .i64 k.1,.int .i64 k.2,.int .i64 0,.int .i64 0,.int .i64 0] (by rfl) rfl HN.out hone (by decide) hml hby HB2.out _ rfl ?_;intro g1 cap1 w3 hown3 hgrow hloc hlt3;have hkg:Kept (fun y=>some y=Value.ownBlock (.slice a l.length cap)) _ w3:=Kept.of_grown hgrow;have b3:=(hkg.block hb (lt_of H2.out.blk) (fun h=>(ap2 hb h.symm).1 rfl)).trans H2.out.blk;have r1:w3.cell? ⟨hb,1,none⟩=some (.slice a l.length cap):=cell_of b3;have r2:w3.cell? ⟨hb,2,none⟩=some (.map (some mb)):=cell_of b3;have f1:w3.frozen? ⟨hb,1,none⟩=false:=frozen_of b3))
 all_goals
  have b4:(w3.setCell ⟨hb,1,none⟩ (.slice (some ⟨g1,0,none⟩) (l.length+1) cap1)).heap[hb]?=some (.cells #[fv17,.slice (some ⟨g1,0,none⟩) (l.length+1) cap1,.map (some mb)] 206 (0,0)):=set_same (i:=1) _ b3;have hks:=Kept.set1 w3 hb 1 (.slice (some ⟨g1,0,none⟩) (l.length+1) cap1);have hmp4:=(H2.out.mp.kept hkg (fun h=>(ap2 mb h.symm).2 rfl)).kept hks (Ne.symm ap1);have hg1b:g1≠hb:=by
   obtain⟨cur,hg'⟩:=row_block hown3;intro h;rw[h,b3] at hg';cases hg'
  have hown4:=row_kept hown3 hks (fun g' h1 h2=>by cases h1;exact hg1b h2);have hM4:=(HM2.out.kept hkg (fun h=>by have:=(H0.out.own.lt _ h.symm).2;omega)).kept hks (fun h=>by have:=lt_of H0.out.blk;omega);have hA4:=(HA2.out.kept hkg (fun h=>by have:=(H0.out.own.lt _ h.symm).2;omega)).kept hks (fun h=>by have:=lt_of H0.out.blk;omega);have hkw:Kept (fun y=>y=hb∨own mb (.slice a l.length cap) y) w (w3.setCell ⟨hb,1,none⟩ (.slice (some ⟨g1,0,none⟩) (l.length+1) cap1)):=((K2.out.mono (fun _ _ h=>h.elim)).trans hkg (fun y _ h=>.inr (.inr h))).trans hks (fun y _ h=>.inl h);have hmv:Moved w (.slice a l.length cap) (.slice (some ⟨g1,0,none⟩) (l.length+1) cap1):=fun g' hg'=>by
   rcases hloc with h|h
   ·exact .inl (h.trans (by rw[← hg'];rfl))
   ·right
    have h3:g1=g':=Option.some.inj hg';have:=K2.out.size;omega
  clear hown3 hgrow hloc hkg hks r1 r2 f1 b3 q1 q2 qa a0 a1;generalize w3.setCell ⟨hb,1,none⟩ (.slice (some ⟨g1,0,none⟩) (l.length+1) cap1)=w4 at *;have r2:w4.cell? ⟨hb,2,none⟩=some (.map (some mb)):=cell_of b4;obtain⟨a0,a1⟩:=hA4.cells;have hDm:Kept (fun _=>False) w4 w4.drew:=(Kept.refl _ w4).drew;obtain⟨D,ho,hT⟩:=hmp4.kept hDm (fun h=>h);obtain⟨w5,hrun5,r5a,r5b⟩:=ho.update keyY.keyed Tryz.underlying203 (by unfold maxLen;omega) (keyY.of k hk) (intE.R_val (l.length:Int));have hmp5:=gm_put ho hT k hk (l.length:Int) r5a;have hrun5:(Instr.mapUpdate 203 (.map (some mb)) (.agg #[.int .i64 k.1,.int .i64 k.2]) (.int .i64 (l.length:Int))).run Tryz.prog w4.drew=.ok () w5:=hrun5;go_wp2_with fail
  go_region
  have hk5':Kept (fun y=>y=mb) w4.drew w5:=Kept.of_grown1 r5b;have hk5:Kept (fun y=>y=mb) w4 w5:=(hDm.mono (fun _ _ h=>h.elim)).trans hk5' (fun _ _ h=>h);have b5:=(hk5.block hb (lt_of b4) ap1).trans b4;have hg1m:g1≠mb:=by
   obtain⟨D',⟨es,clock,hmm,-⟩,-⟩:=hmp4;obtain⟨cur,hg'⟩:=row_block hown4;intro h;rw[h,hmm] at hg';cases hg'
  have hown5:=row_kept hown4 hk5 (fun g' h1 h2=>by cases h1;exact hg1m h2);have hM5:=hM4.kept hk5 (fun h=>by have:=H0.out.mp.lt;omega);clear hrun5 r5a r5b hDm ho hT r2 a0 a1 hA4 hM4 hown4 hmp4;have s1:w5.cell? ⟨hb,1,none⟩=some (.slice (some ⟨g1,0,none⟩) (l.length+1) cap1):=cell_of b5;obtain⟨m0,m1,m2⟩:=hM5.cells;obtain⟨t1,u1⟩:=row_cell hown5 (l.length*5+2) (by omega);obtain⟨t2,u2⟩:=row_cell hown5 (l.length*5+3) (by omega);obtain⟨t3,u3⟩:=row_cell hown5 (l.length*5+4) (by omega);rw[(raw_get l k).1] at t1;rw[(raw_get l k).2.1] at t2;rw[(raw_get l k).2.2] at t3;have ht:(l.length:Int) < ((l.length+1):Int):=by omega
  have hown6:=row_store (row_store (row_store hown5 (l.length*5+2) (.int .i64 x.at_)) (l.length*5+3) (.int .i64 x.kd)) (l.length*5+4) (.int .i64 x.id);rw[raw_new] at hown6;have hk6:Kept (fun y=>y=g1) w5 (((w5.setCell ⟨g1,l.length*5+2,none⟩ (.int .i64 x.at_)).setCell ⟨g1,l.length*5+3,none⟩ (.int .i64 x.kd)).setCell ⟨g1,l.length*5+4,none⟩ (.int .i64 x.id)):=((Kept.set1 w5 g1 _ _).trans (Kept.set1 _ g1 _ _) (fun _ _ h=>h)).trans (Kept.set1 _ g1 _ _) (fun _ _ h=>h);have hmp6:=hmp5.kept hk6 (Ne.symm hg1m);rw[hmi] at hmp6;rw[show gput (mi l) k (l.length:Int)=mi (l++[(k,x)]) from(mi_append H0.out.inj (v:=x) e).symm] at hmp6;have hHp:Hp (((w5.setCell ⟨g1,l.length*5+2,none⟩ (.int .i64 x.at_)).setCell ⟨g1,l.length*5+3,none⟩ (.int .i64 x.kd)).setCell ⟨g1,l.length*5+4,none⟩ (.int .i64 x.id)) base hb fv17 (.slice (some ⟨g1,0,none⟩) (l.length+1) cap1) mb (l++[(k,x)]):=
   ⟨(hk6.block hb (lt_of b5) (Ne.symm hg1b)).trans b5,by unfold OwnQ;rw[List.length_append];exact hown6,by rw[List.length_append];exact hmp6,append_inj H0.out.inj e,fun y hy=>by
    rcases List.mem_append.1 hy with hy|hy
    ·exact H0.out.wf y hy
    ·rw[List.mem_singleton.1 hy];exact hk,by rw[List.length_append];exact hl⟩
  have hHd:Hp (((w5.setCell ⟨g1,l.length*5+2,none⟩ (.int .i64 x.at_)).setCell ⟨g1,l.length*5+3,none⟩ (.int .i64 x.kd)).setCell ⟨g1,l.length*5+4,none⟩ (.int .i64 x.id)).drew base hb fv17 (.slice (some ⟨g1,0,none⟩) (l.length+1) cap1) mb (l++[(k,x)]):=hHp.kept (F:=fun _=>False) ((Kept.refl _ _).drew) (fun h=>h) (fun h=>h) (fun _ _ h=>h);have hkE:Kept (fun y=>y=hb∨own mb (.slice a l.length cap) y) w (((w5.setCell ⟨g1,l.length*5+2,none⟩ (.int .i64 x.at_)).setCell ⟨g1,l.length*5+3,none⟩ (.int .i64 x.kd)).setCell ⟨g1,l.length*5+4,none⟩ (.int .i64 x.id)).drew:=
   (hkw.trans hk5 (fun y _ h=>.inr (.inl h))).trans hk6.drew (fun y hy h=>by
    rcases hmv y (by rw[h];rfl) with h3 | h3
    ·exact .inr (.inr h3.symm)
    ·omega)
  have HHp:=Lib.hid hHd;clear hown5 hown6 hmp5 hmp6 hHp hHd hM5 hk6 hk5 hk5' b4 b5;go_wp2_with fail
  go_region
  all_goals (go_wp2_with fail)
  all_goals refine(fix_any HL base hb (.slice (some ⟨g1,0,none⟩) (l.length+1) cap1) mb (l++[(k,x)]) l.length (by simp) _ HHp.out).mono ?_
  all_goals rintro e w7 ⟨rfl,h5,k5⟩
  all_goals (go_wp2_with fail)
  all_goals go_returns
  all_goals exact⟨rfl,_,h5,fix_kept hkE k5 hmv,hmv⟩
end Go.Proofs.YtigeldkbfbcpmaaGreat.P14
