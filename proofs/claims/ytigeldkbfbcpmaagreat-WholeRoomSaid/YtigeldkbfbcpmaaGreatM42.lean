/- A part of the proof: what the functions of the program come to, and what holds at all times. -/
import Derived.Deep.CutRange
import Derived.Deep.RegionWith
import Derived.Test.YtigeldkbfbcpmaaGreatM31
set_option linter.unusedVariables false
set_option linter.unusedSectionVars false
set_option linter.unusedSimpArgs false
set_option maxRecDepth 100000
set_option maxHeartbeats 8000000
namespace Go.Proofs.YtigeldkbfbcpmaaGreat.P16
open Go.RowKit Go.Kpt WirePure
def cpyK(k:Int)(f:Evt)(l:List (Fin 10)):Evt:=fun i=>if i=0 then k else if i ∈ l then f i else 0
theorem cpyK_eq(f:Evt)(l:List (Fin 10)):cpyK (f 0) f l=cpy f l:=by
 funext i
 by_cases h:i=0
 ·subst h;simp[cpyK,cpy]
 ·simp[cpyK,cpy,h]
theorem sl_at{w:World}{p:Nat→Prop}{a:Option Addr}{zs:List Int}(h:Sl .i64 w p a zs)(h0:0 < zs.length):∃ b off,a=some ⟨b,off,none⟩∧p b∧∀ i,i < zs.length→w.cell? ⟨b,off+i,none⟩=some (.int .i64 (zs.getD i 0)):=by
 obtain⟨b,off,rfl,hb,hc⟩:=h 0 h0;refine⟨b,off,rfl,hb,fun i hi=>?_⟩;obtain⟨b2,off2,h1,h2,h3⟩:=h i hi;cases h1
 exact h3
theorem with_any(f:Evt)(a:Option Addr)(cap n:Nat)(p:Nat→Prop)(w:World)(hk:kOK (f 0))(hsl:Sl .i64 w p a ((parts (f 0)).map f))(hn:n=(parts (f 0)).length)(hp:∀ x,p x→x < w.heap.size):
  Calls Tryz.prog 41 #[.int .i64 (f 0),.slice a n cap] w fun e w'=>e=.returned (.agg (evc (cpy f (parts (f 0)))))∧Below w.heap.size w w':=by
 rw[← cpyK_eq];have hrb:Ev (w.alloc (.cells (evc noev) 28)) w.heap.size noev:=Ev.new _ _;have hB:Below w.heap.size w (w.alloc (.cells (evc noev) 28)):=by go_grown
 have hsl1:Sl .i64 (w.alloc (.cells (evc noev) 28)) p a ((parts (f 0)).map f):=hsl.kept ((Kept.refl (fun _=>False) w).alloc _) (fun _ _ h=>h);have hz:w.heap.size < (w.alloc (.cells (evc noev) 28)).heap.size:=by simp
 obtain⟨w1,hw1⟩:∃ w1,w.alloc (.cells (evc noev) 28)=w1:=⟨_,rfl⟩;rw[hw1] at hrb hB hsl1 hz;have heb:Ev (w1.alloc (.cells (evc (ev0 (f 0))) 28)) w1.heap.size (ev0 (f 0)):=Ev.new _ _;have hrb2:Ev (w1.alloc (.cells (evc (ev0 (f 0))) 28)) w.heap.size noev:=hrb.kept ((Kept.refl (fun _=>False) w1).alloc _) (fun h=>h);have hB2:Below w.heap.size w (w1.alloc (.cells (evc (ev0 (f 0))) 28)):=hB.alloc (by omega) _;have hsl2:Sl .i64 (w1.alloc (.cells (evc (ev0 (f 0))) 28)) p a ((parts (f 0)).map f):=hsl1.kept ((Kept.refl (fun _=>False) w1).alloc _) (fun _ _ h=>h);obtain⟨w2,hw2⟩:∃ w2,w1.alloc (.cells (evc (ev0 (f 0))) 28)=w2:=⟨_,rfl⟩;rw[hw2] at heb hrb2 hB2 hsl2;clear hrb hB hsl1 hsl;have hpe:∀ x,p x→x≠w1.heap.size∧x≠w.heap.size:=fun x hx=>by have:=hp x hx;omega
 obtain⟨a0,a1,a2,a3,a4,a5,a6,a7,a8,a9⟩:=heb.ten;obtain⟨b0,b1,b2,b3,b4,b5,b6,b7,b8,b9⟩:=hrb2.ten;have hfe:=heb.free;have hfr:=hrb2.free;have hne:w.heap.size≠w1.heap.size:=by omega
 have hne2:w1.heap.size≠w.heap.size:=by omega
 have hall:=parts_cases (f 0);simp only[evc,noev,ev0,upd] at hw1 a0 a1 a2 a3 a4 a5 a6 a7 a8 a9 b0 b1 b2 b3 b4 b5 b6 b7 b8 b9;simp at a0 a1 a2 a3 a4 a5 a6 a7 a8 a9;generalize hps:parts (f 0)=ps at *;have h49:=hk;unfold kOK at h49;clear hk;generalize hfk:f 0=k at *;have HW:=Lib.hid hw2;clear hw2;have HA:=Lib.hid hall;have HE:=Lib.hid heb;have HP:=Lib.hid hpe;have HS:=Lib.hid hsl2;have HZ:=Lib.hid hz;clear hall heb hpe hsl2 hz hps hfk hp;go_enter Tryz.func41,Tryz.ntmps41
 by_cases k0:k=0
 ·subst k0
  obtain rfl:ps=[]:=by rcases HA.out with h | h | h | h | h <;> first | exact h.2 | omega
  obtain rfl:n=0:=hn;have hu:ev0 0=cpyK 0 f []:=by funext j;exact fin10 (P:=fun j=>(ev0 0) j=cpyK 0 f [] j) j rfl rfl rfl rfl rfl rfl rfl rfl rfl rfl
  have hW:Ev w2 w1.heap.size (cpyK 0 f []):=hu ▸ (HE.out);have hWk:Kept (fun x=>x=w1.heap.size) w2 w2:=Kept.refl (fun x=>x=w1.heap.size) w2;have hWr:Ev w2 w.heap.size noev:=hrb2.kept hWk hne;have hB4:Below w.heap.size w w2:=hB2.trans (hWk.below hB2.size (by intro x hx h;have:=HZ.out;omega));have hz4:w.heap.size≤(w2).heap.size:=hB4.size;go_upto_region 2 with fail
  change Code.wp _ _ _ _ (w1.alloc (.cells (evc (ev0 0)) 28));rw[HW.out];go_upto_region 20 with fail
  change Code.wp _ _ _ _ w2;generalize w2=w3 at *;clear hfe hfr a0 a1 a2 a3 a4 a5 a6 a7 a8 a9 b0 b1 b2 b3 b4 b5 b6 b7 b8 b9 hWk;obtain⟨a0,a1,a2,a3,a4,a5,a6,a7,a8,a9⟩:=hW.ten;obtain⟨b0,b1,b2,b3,b4,b5,b6,b7,b8,b9⟩:=hWr.ten;have hfe:=hW.free;have hfr:=hWr.free;have ev6:Ev (set10 w3 w.heap.size (cpyK 0 f [])) w.heap.size (cpyK 0 f []):=set10_ev hWr _;have hB3:Below w.heap.size w (set10 w3 w.heap.size (cpyK 0 f [])):=hB4.trans ((set10_kept w3 w.heap.size (cpyK 0 f [])).below hz4 (by intro x hx h;omega));clear hW hWr hB4 hB2;generalize hgg:cpyK 0 f []=g at *;have HG:=Lib.hid hgg;clear hgg;go_wp2_with fail
  change bodyPost _ _ _ _ _ (set10 w3 w.heap.size g);generalize set10 w3 w.heap.size g=w6 at *;clear hfe hfr a0 a1 a2 a3 a4 a5 a6 a7 a8 a9 b0 b1 b2 b3 b4 b5 b6 b7 b8 b9;obtain⟨a0,a1,a2,a3,a4,a5,a6,a7,a8,a9⟩:=ev6.ten;refine bodyPost_ret (by simp[results,Tryz.results41,go_sem,a0,a1,a2,a3,a4,a5,a6,a7,a8,a9];try rfl) rfl ?_;exact⟨by rw[HG.out];rfl,hB3⟩
 by_cases k1:k=1
 ·subst k1
  obtain rfl:ps=[1,2,3,4]:=by rcases HA.out with h | h | h | h | h <;> first | exact h.2 | omega
  obtain rfl:n=4:=hn;obtain⟨b,off,rfl,hb,hc⟩:=sl_at HS.out (by simp);have hb1:=(HP.out b hb).1;have hb2:=(HP.out b hb).2;have s0:w2.cell? ⟨b,off,none⟩=some (.int .i64 (f 1)):=hc 0 (by simp);have s1:w2.cell? ⟨b,off+1,none⟩=some (.int .i64 (f 2)):=hc 1 (by simp);have s2:w2.cell? ⟨b,off+2,none⟩=some (.int .i64 (f 3)):=hc 2 (by simp);have s3:w2.cell? ⟨b,off+3,none⟩=some (.int .i64 (f 4)):=hc 3 (by simp);have hu:upd (upd (upd (upd (ev0 1) 1 (f 1)) 2 (f 2)) 3 (f 3)) 4 (f 4)=cpyK 1 f [1,2,3,4]:=by funext j;exact fin10 (P:=fun j=>(upd (upd (upd (upd (ev0 1) 1 (f 1)) 2 (f 2)) 3 (f 3)) 4 (f 4)) j=cpyK 1 f [1,2,3,4] j) j rfl rfl rfl rfl rfl rfl rfl rfl rfl rfl
  have hW:Ev ((((w2.setCell ⟨w1.heap.size,1,none⟩ (.int .i64 (f 1))).setCell ⟨w1.heap.size,2,none⟩ (.int .i64 (f 2))).setCell ⟨w1.heap.size,3,none⟩ (.int .i64 (f 3))).setCell ⟨w1.heap.size,4,none⟩ (.int .i64 (f 4))) w1.heap.size (cpyK 1 f [1,2,3,4]):=hu ▸ (((((HE.out).set 1 (f 1)).set 2 (f 2)).set 3 (f 3)).set 4 (f 4));have hWk:Kept (fun x=>x=w1.heap.size) w2 ((((w2.setCell ⟨w1.heap.size,1,none⟩ (.int .i64 (f 1))).setCell ⟨w1.heap.size,2,none⟩ (.int .i64 (f 2))).setCell ⟨w1.heap.size,3,none⟩ (.int .i64 (f 3))).setCell ⟨w1.heap.size,4,none⟩ (.int .i64 (f 4))):=((((Kept.refl (fun x=>x=w1.heap.size) w2).trans (Kept.set1 _ w1.heap.size 1 (.int .i64 (f 1))) (fun _ _ h=>h)).trans (Kept.set1 _ w1.heap.size 2 (.int .i64 (f 2))) (fun _ _ h=>h)).trans (Kept.set1 _ w1.heap.size 3 (.int .i64 (f 3))) (fun _ _ h=>h)).trans (Kept.set1 _ w1.heap.size 4 (.int .i64 (f 4))) (fun _ _ h=>h);have hWr:Ev ((((w2.setCell ⟨w1.heap.size,1,none⟩ (.int .i64 (f 1))).setCell ⟨w1.heap.size,2,none⟩ (.int .i64 (f 2))).setCell ⟨w1.heap.size,3,none⟩ (.int .i64 (f 3))).setCell ⟨w1.heap.size,4,none⟩ (.int .i64 (f 4))) w.heap.size noev:=hrb2.kept hWk hne;have hB4:Below w.heap.size w ((((w2.setCell ⟨w1.heap.size,1,none⟩ (.int .i64 (f 1))).setCell ⟨w1.heap.size,2,none⟩ (.int .i64 (f 2))).setCell ⟨w1.heap.size,3,none⟩ (.int .i64 (f 3))).setCell ⟨w1.heap.size,4,none⟩ (.int .i64 (f 4))):=hB2.trans (hWk.below hB2.size (by intro x hx h;have:=HZ.out;omega));have hz4:w.heap.size≤(((((w2.setCell ⟨w1.heap.size,1,none⟩ (.int .i64 (f 1))).setCell ⟨w1.heap.size,2,none⟩ (.int .i64 (f 2))).setCell ⟨w1.heap.size,3,none⟩ (.int .i64 (f 3))).setCell ⟨w1.heap.size,4,none⟩ (.int .i64 (f 4)))).heap.size:=hB4.size;go_upto_region 2 with fail
  change Code.wp _ _ _ _ (w1.alloc (.cells (evc (ev0 1)) 28));rw[HW.out];go_upto_region 20 with fail
  change Code.wp _ _ _ _ ((((w2.setCell ⟨w1.heap.size,1,none⟩ (.int .i64 (f 1))).setCell ⟨w1.heap.size,2,none⟩ (.int .i64 (f 2))).setCell ⟨w1.heap.size,3,none⟩ (.int .i64 (f 3))).setCell ⟨w1.heap.size,4,none⟩ (.int .i64 (f 4)));generalize ((((w2.setCell ⟨w1.heap.size,1,none⟩ (.int .i64 (f 1))).setCell ⟨w1.heap.size,2,none⟩ (.int .i64 (f 2))).setCell ⟨w1.heap.size,3,none⟩ (.int .i64 (f 3))).setCell ⟨w1.heap.size,4,none⟩ (.int .i64 (f 4)))=w3 at *;clear hfe hfr a0 a1 a2 a3 a4 a5 a6 a7 a8 a9 b0 b1 b2 b3 b4 b5 b6 b7 b8 b9 hWk;obtain⟨a0,a1,a2,a3,a4,a5,a6,a7,a8,a9⟩:=hW.ten;obtain⟨b0,b1,b2,b3,b4,b5,b6,b7,b8,b9⟩:=hWr.ten;have hfe:=hW.free;have hfr:=hWr.free;have ev6:Ev (set10 w3 w.heap.size (cpyK 1 f [1,2,3,4])) w.heap.size (cpyK 1 f [1,2,3,4]):=set10_ev hWr _;have hB3:Below w.heap.size w (set10 w3 w.heap.size (cpyK 1 f [1,2,3,4])):=hB4.trans ((set10_kept w3 w.heap.size (cpyK 1 f [1,2,3,4])).below hz4 (by intro x hx h;omega));clear hW hWr hB4 hB2;generalize hgg:cpyK 1 f [1,2,3,4]=g at *;have HG:=Lib.hid hgg;clear hgg;go_wp2_with fail
  change bodyPost _ _ _ _ _ (set10 w3 w.heap.size g);generalize set10 w3 w.heap.size g=w6 at *;clear hfe hfr a0 a1 a2 a3 a4 a5 a6 a7 a8 a9 b0 b1 b2 b3 b4 b5 b6 b7 b8 b9;obtain⟨a0,a1,a2,a3,a4,a5,a6,a7,a8,a9⟩:=ev6.ten;refine bodyPost_ret (by simp[results,Tryz.results41,go_sem,a0,a1,a2,a3,a4,a5,a6,a7,a8,a9];try rfl) rfl ?_;exact⟨by rw[HG.out];rfl,hB3⟩
 by_cases k2:k=2
 ·subst k2
  obtain rfl:ps=[1,5,6,7,8,9]:=by rcases HA.out with h | h | h | h | h <;> first | exact h.2 | omega
  obtain rfl:n=6:=hn;obtain⟨b,off,rfl,hb,hc⟩:=sl_at HS.out (by simp);have hb1:=(HP.out b hb).1;have hb2:=(HP.out b hb).2;have s0:w2.cell? ⟨b,off,none⟩=some (.int .i64 (f 1)):=hc 0 (by simp);have s1:w2.cell? ⟨b,off+1,none⟩=some (.int .i64 (f 5)):=hc 1 (by simp);have s2:w2.cell? ⟨b,off+2,none⟩=some (.int .i64 (f 6)):=hc 2 (by simp);have s3:w2.cell? ⟨b,off+3,none⟩=some (.int .i64 (f 7)):=hc 3 (by simp);have s4:w2.cell? ⟨b,off+4,none⟩=some (.int .i64 (f 8)):=hc 4 (by simp);have s5:w2.cell? ⟨b,off+5,none⟩=some (.int .i64 (f 9)):=hc 5 (by simp);have hu:upd (upd (upd (upd (upd (upd (ev0 2) 1 (f 1)) 5 (f 5)) 6 (f 6)) 7 (f 7)) 8 (f 8)) 9 (f 9)=cpyK 2 f [1,5,6,7,8,9]:=by funext j;exact fin10 (P:=fun j=>(upd (upd (upd (upd (upd (upd (ev0 2) 1 (f 1)) 5 (f 5)) 6 (f 6)) 7 (f 7)) 8 (f 8)) 9 (f 9)) j=cpyK 2 f [1,5,6,7,8,9] j) j rfl rfl rfl rfl rfl rfl rfl rfl rfl rfl
  have hW:Ev ((((((w2.setCell ⟨w1.heap.size,1,none⟩ (.int .i64 (f 1))).setCell ⟨w1.heap.size,5,none⟩ (.int .i64 (f 5))).setCell ⟨w1.heap.size,6,none⟩ (.int .i64 (f 6))).setCell ⟨w1.heap.size,7,none⟩ (.int .i64 (f 7))).setCell ⟨w1.heap.size,8,none⟩ (.int .i64 (f 8))).setCell ⟨w1.heap.size,9,none⟩ (.int .i64 (f 9))) w1.heap.size (cpyK 2 f [1,5,6,7,8,9]):=hu ▸ (((((((HE.out).set 1 (f 1)).set 5 (f 5)).set 6 (f 6)).set 7 (f 7)).set 8 (f 8)).set 9 (f 9));have hWk:Kept (fun x=>x=w1.heap.size) w2 ((((((w2.setCell ⟨w1.heap.size,1,none⟩ (.int .i64 (f 1))).setCell ⟨w1.heap.size,5,none⟩ (.int .i64 (f 5))).setCell ⟨w1.heap.size,6,none⟩ (.int .i64 (f 6))).setCell ⟨w1.heap.size,7,none⟩ (.int .i64 (f 7))).setCell ⟨w1.heap.size,8,none⟩ (.int .i64 (f 8))).setCell ⟨w1.heap.size,9,none⟩ (.int .i64 (f 9))):=((((((Kept.refl (fun x=>x=w1.heap.size) w2).trans (Kept.set1 _ w1.heap.size 1 (.int .i64 (f 1))) (fun _ _ h=>h)).trans (Kept.set1 _ w1.heap.size 5 (.int .i64 (f 5))) (fun _ _ h=>h)).trans (Kept.set1 _ w1.heap.size 6 (.int .i64 (f 6))) (fun _ _ h=>h)).trans (Kept.set1 _ w1.heap.size 7 (.int .i64 (f 7))) (fun _ _ h=>h)).trans (Kept.set1 _ w1.heap.size 8 (.int .i64 (f 8))) (fun _ _ h=>h)).trans (Kept.set1 _ w1.heap.size 9 (.int .i64 (f 9))) (fun _ _ h=>h);have hWr:Ev ((((((w2.setCell ⟨w1.heap.size,1,none⟩ (.int .i64 (f 1))).setCell ⟨w1.heap.size,5,none⟩ (.int .i64 (f 5))).setCell ⟨w1.heap.size,6,none⟩ (.int .i64 (f 6))).setCell ⟨w1.heap.size,7,none⟩ (.int .i64 (f 7))).setCell ⟨w1.heap.size,8,none⟩ (.int .i64 (f 8))).setCell ⟨w1.heap.size,9,none⟩ (.int .i64 (f 9))) w.heap.size noev:=hrb2.kept hWk hne;have hB4:Below w.heap.size w ((((((w2.setCell ⟨w1.heap.size,1,none⟩ (.int .i64 (f 1))).setCell ⟨w1.heap.size,5,none⟩ (.int .i64 (f 5))).setCell ⟨w1.heap.size,6,none⟩ (.int .i64 (f 6))).setCell ⟨w1.heap.size,7,none⟩ (.int .i64 (f 7))).setCell ⟨w1.heap.size,8,none⟩ (.int .i64 (f 8))).setCell ⟨w1.heap.size,9,none⟩ (.int .i64 (f 9))):=hB2.trans (hWk.below hB2.size (by intro x hx h;have:=HZ.out;omega));have hz4:w.heap.size≤(((((((w2.setCell ⟨w1.heap.size,1,none⟩ (.int .i64 (f 1))).setCell ⟨w1.heap.size,5,none⟩ (.int .i64 (f 5))).setCell ⟨w1.heap.size,6,none⟩ (.int .i64 (f 6))).setCell ⟨w1.heap.size,7,none⟩ (.int .i64 (f 7))).setCell ⟨w1.heap.size,8,none⟩ (.int .i64 (f 8))).setCell ⟨w1.heap.size,9,none⟩ (.int .i64 (f 9)))).heap.size:=hB4.size;go_upto_region 2 with fail
  change Code.wp _ _ _ _ (w1.alloc (.cells (evc (ev0 2)) 28));rw[HW.out];go_upto_region 20 with fail
  change Code.wp _ _ _ _ ((((((w2.setCell ⟨w1.heap.size,1,none⟩ (.int .i64 (f 1))).setCell ⟨w1.heap.size,5,none⟩ (.int .i64 (f 5))).setCell ⟨w1.heap.size,6,none⟩ (.int .i64 (f 6))).setCell ⟨w1.heap.size,7,none⟩ (.int .i64 (f 7))).setCell ⟨w1.heap.size,8,none⟩ (.int .i64 (f 8))).setCell ⟨w1.heap.size,9,none⟩ (.int .i64 (f 9)));generalize ((((((w2.setCell ⟨w1.heap.size,1,none⟩ (.int .i64 (f 1))).setCell ⟨w1.heap.size,5,none⟩ (.int .i64 (f 5))).setCell ⟨w1.heap.size,6,none⟩ (.int .i64 (f 6))).setCell ⟨w1.heap.size,7,none⟩ (.int .i64 (f 7))).setCell ⟨w1.heap.size,8,none⟩ (.int .i64 (f 8))).setCell ⟨w1.heap.size,9,none⟩ (.int .i64 (f 9)))=w3 at *;clear hfe hfr a0 a1 a2 a3 a4 a5 a6 a7 a8 a9 b0 b1 b2 b3 b4 b5 b6 b7 b8 b9 hWk;obtain⟨a0,a1,a2,a3,a4,a5,a6,a7,a8,a9⟩:=hW.ten;obtain⟨b0,b1,b2,b3,b4,b5,b6,b7,b8,b9⟩:=hWr.ten;have hfe:=hW.free;have hfr:=hWr.free;have ev6:Ev (set10 w3 w.heap.size (cpyK 2 f [1,5,6,7,8,9])) w.heap.size (cpyK 2 f [1,5,6,7,8,9]):=set10_ev hWr _;have hB3:Below w.heap.size w (set10 w3 w.heap.size (cpyK 2 f [1,5,6,7,8,9])):=hB4.trans ((set10_kept w3 w.heap.size (cpyK 2 f [1,5,6,7,8,9])).below hz4 (by intro x hx h;omega));clear hW hWr hB4 hB2;generalize hgg:cpyK 2 f [1,5,6,7,8,9]=g at *;have HG:=Lib.hid hgg;clear hgg;go_wp2_with fail
  change bodyPost _ _ _ _ _ (set10 w3 w.heap.size g);generalize set10 w3 w.heap.size g=w6 at *;clear hfe hfr a0 a1 a2 a3 a4 a5 a6 a7 a8 a9 b0 b1 b2 b3 b4 b5 b6 b7 b8 b9;obtain⟨a0,a1,a2,a3,a4,a5,a6,a7,a8,a9⟩:=ev6.ten;refine bodyPost_ret (by simp[results,Tryz.results41,go_sem,a0,a1,a2,a3,a4,a5,a6,a7,a8,a9];try rfl) rfl ?_;exact⟨by rw[HG.out];rfl,hB3⟩
 by_cases k3:k=3
 ·subst k3
  obtain rfl:ps=[1,3]:=by rcases HA.out with h | h | h | h | h <;> first | exact h.2 | omega
  obtain rfl:n=2:=hn;obtain⟨b,off,rfl,hb,hc⟩:=sl_at HS.out (by simp);have hb1:=(HP.out b hb).1;have hb2:=(HP.out b hb).2;have s0:w2.cell? ⟨b,off,none⟩=some (.int .i64 (f 1)):=hc 0 (by simp);have s1:w2.cell? ⟨b,off+1,none⟩=some (.int .i64 (f 3)):=hc 1 (by simp);have hu:upd (upd (ev0 3) 1 (f 1)) 3 (f 3)=cpyK 3 f [1,3]:=by funext j;exact fin10 (P:=fun j=>(upd (upd (ev0 3) 1 (f 1)) 3 (f 3)) j=cpyK 3 f [1,3] j) j rfl rfl rfl rfl rfl rfl rfl rfl rfl rfl
  have hW:Ev ((w2.setCell ⟨w1.heap.size,1,none⟩ (.int .i64 (f 1))).setCell ⟨w1.heap.size,3,none⟩ (.int .i64 (f 3))) w1.heap.size (cpyK 3 f [1,3]):=hu ▸ (((HE.out).set 1 (f 1)).set 3 (f 3));have hWk:Kept (fun x=>x=w1.heap.size) w2 ((w2.setCell ⟨w1.heap.size,1,none⟩ (.int .i64 (f 1))).setCell ⟨w1.heap.size,3,none⟩ (.int .i64 (f 3))):=((Kept.refl (fun x=>x=w1.heap.size) w2).trans (Kept.set1 _ w1.heap.size 1 (.int .i64 (f 1))) (fun _ _ h=>h)).trans (Kept.set1 _ w1.heap.size 3 (.int .i64 (f 3))) (fun _ _ h=>h);have hWr:Ev ((w2.setCell ⟨w1.heap.size,1,none⟩ (.int .i64 (f 1))).setCell ⟨w1.heap.size,3,none⟩ (.int .i64 (f 3))) w.heap.size noev:=hrb2.kept hWk hne;have hB4:Below w.heap.size w ((w2.setCell ⟨w1.heap.size,1,none⟩ (.int .i64 (f 1))).setCell ⟨w1.heap.size,3,none⟩ (.int .i64 (f 3))):=hB2.trans (hWk.below hB2.size (by intro x hx h;have:=HZ.out;omega));have hz4:w.heap.size≤(((w2.setCell ⟨w1.heap.size,1,none⟩ (.int .i64 (f 1))).setCell ⟨w1.heap.size,3,none⟩ (.int .i64 (f 3)))).heap.size:=hB4.size;go_upto_region 2 with fail
  change Code.wp _ _ _ _ (w1.alloc (.cells (evc (ev0 3)) 28));rw[HW.out];go_upto_region 20 with fail
  change Code.wp _ _ _ _ ((w2.setCell ⟨w1.heap.size,1,none⟩ (.int .i64 (f 1))).setCell ⟨w1.heap.size,3,none⟩ (.int .i64 (f 3)));generalize ((w2.setCell ⟨w1.heap.size,1,none⟩ (.int .i64 (f 1))).setCell ⟨w1.heap.size,3,none⟩ (.int .i64 (f 3)))=w3 at *;clear hfe hfr a0 a1 a2 a3 a4 a5 a6 a7 a8 a9 b0 b1 b2 b3 b4 b5 b6 b7 b8 b9 hWk;obtain⟨a0,a1,a2,a3,a4,a5,a6,a7,a8,a9⟩:=hW.ten;obtain⟨b0,b1,b2,b3,b4,b5,b6,b7,b8,b9⟩:=hWr.ten;have hfe:=hW.free;have hfr:=hWr.free;have ev6:Ev (set10 w3 w.heap.size (cpyK 3 f [1,3])) w.heap.size (cpyK 3 f [1,3]):=set10_ev hWr _;have hB3:Below w.heap.size w (set10 w3 w.heap.size (cpyK 3 f [1,3])):=hB4.trans ((set10_kept w3 w.heap.size (cpyK 3 f [1,3])).below hz4 (by intro x hx h;omega));clear hW hWr hB4 hB2;generalize hgg:cpyK 3 f [1,3]=g at *;have HG:=Lib.hid hgg;clear hgg;go_wp2_with fail
  change bodyPost _ _ _ _ _ (set10 w3 w.heap.size g);generalize set10 w3 w.heap.size g=w6 at *;clear hfe hfr a0 a1 a2 a3 a4 a5 a6 a7 a8 a9 b0 b1 b2 b3 b4 b5 b6 b7 b8 b9;obtain⟨a0,a1,a2,a3,a4,a5,a6,a7,a8,a9⟩:=ev6.ten;refine bodyPost_ret (by simp[results,Tryz.results41,go_sem,a0,a1,a2,a3,a4,a5,a6,a7,a8,a9];try rfl) rfl ?_;exact⟨by rw[HG.out];rfl,hB3⟩
 obtain rfl:ps=[1]:=by rcases HA.out with h | h | h | h | h <;> first | exact h.2 | omega
 obtain rfl:n=1:=hn;obtain⟨b,off,rfl,hb,hc⟩:=sl_at HS.out (by simp);have hb1:=(HP.out b hb).1;have hb2:=(HP.out b hb).2;have s0:w2.cell? ⟨b,off,none⟩=some (.int .i64 (f 1)):=hc 0 (by simp);have hu:upd (ev0 k) 1 (f 1)=cpyK k f [1]:=by funext j;exact fin10 (P:=fun j=>(upd (ev0 k) 1 (f 1)) j=cpyK k f [1] j) j rfl rfl rfl rfl rfl rfl rfl rfl rfl rfl
 have hW:Ev (w2.setCell ⟨w1.heap.size,1,none⟩ (.int .i64 (f 1))) w1.heap.size (cpyK k f [1]):=hu ▸ ((HE.out).set 1 (f 1));have hWk:Kept (fun x=>x=w1.heap.size) w2 (w2.setCell ⟨w1.heap.size,1,none⟩ (.int .i64 (f 1))):=(Kept.refl (fun x=>x=w1.heap.size) w2).trans (Kept.set1 _ w1.heap.size 1 (.int .i64 (f 1))) (fun _ _ h=>h);have hWr:Ev (w2.setCell ⟨w1.heap.size,1,none⟩ (.int .i64 (f 1))) w.heap.size noev:=hrb2.kept hWk hne;have hB4:Below w.heap.size w (w2.setCell ⟨w1.heap.size,1,none⟩ (.int .i64 (f 1))):=hB2.trans (hWk.below hB2.size (by intro x hx h;have:=HZ.out;omega));have hz4:w.heap.size≤((w2.setCell ⟨w1.heap.size,1,none⟩ (.int .i64 (f 1)))).heap.size:=hB4.size;go_upto_region 2 with fail
 change Code.wp _ _ _ _ (w1.alloc (.cells (evc (ev0 k)) 28));rw[HW.out];go_upto_region 20 with fail
 change Code.wp _ _ _ _ (w2.setCell ⟨w1.heap.size,1,none⟩ (.int .i64 (f 1)));generalize (w2.setCell ⟨w1.heap.size,1,none⟩ (.int .i64 (f 1)))=w3 at *;clear hfe hfr a0 a1 a2 a3 a4 a5 a6 a7 a8 a9 b0 b1 b2 b3 b4 b5 b6 b7 b8 b9 hWk;obtain⟨a0,a1,a2,a3,a4,a5,a6,a7,a8,a9⟩:=hW.ten;obtain⟨b0,b1,b2,b3,b4,b5,b6,b7,b8,b9⟩:=hWr.ten;have hfe:=hW.free;have hfr:=hWr.free;have ev6:Ev (set10 w3 w.heap.size (cpyK k f [1])) w.heap.size (cpyK k f [1]):=set10_ev hWr _;have hB3:Below w.heap.size w (set10 w3 w.heap.size (cpyK k f [1])):=hB4.trans ((set10_kept w3 w.heap.size (cpyK k f [1])).below hz4 (by intro x hx h;omega));clear hW hWr hB4 hB2;generalize hgg:cpyK k f [1]=g at *;have HG:=Lib.hid hgg;clear hgg;go_wp2_with fail
 change bodyPost _ _ _ _ _ (set10 w3 w.heap.size g);generalize set10 w3 w.heap.size g=w6 at *;clear hfe hfr a0 a1 a2 a3 a4 a5 a6 a7 a8 a9 b0 b1 b2 b3 b4 b5 b6 b7 b8 b9;obtain⟨a0,a1,a2,a3,a4,a5,a6,a7,a8,a9⟩:=ev6.ten;refine bodyPost_ret (by simp[results,Tryz.results41,go_sem,a0,a1,a2,a3,a4,a5,a6,a7,a8,a9];try rfl) rfl ?_;exact⟨by rw[HG.out];rfl,hB3⟩
theorem nums_ok{f:Evt}(h:kOK (f 0)):nums f=(parts (f 0)).map f:=by
 unfold nums nparts;rw[if_pos (show 0≤f 0∧f 0≤9 from h)]
theorem map_getD(l:List (Fin 10))(f:Evt)(i:Nat)(h:i < l.length):(l.map f).getD i 0=f (l.getD i 0):=by
 simp[List.getD_eq_getElem?_getD,h]
theorem lright_any(f:Evt)(w:World):Calls Tryz.prog 24 #[.agg (evc f)] w fun e w'=>e=.returned (.bool (decide (right f)))∧Below w.heap.size w w':=by
 obtain⟨R,hR⟩:∃ R,decide (right f)=R:=⟨_,rfl⟩;rw[hR];have HR:=Lib.hid hR;clear hR;have hE:=Ev.new w f;have hB:Below w.heap.size w (w.alloc (.cells (evc f) 28)):=by go_grown
 have hz:w.heap.size < (w.alloc (.cells (evc f) 28)).heap.size:=by simp
 obtain⟨w1,hw1⟩:∃ w1,w.alloc (.cells (evc f) 28)=w1:=⟨_,rfl⟩;rw[hw1] at hE hB hz;obtain⟨a0,a1,a2,a3,a4,a5,a6,a7,a8,a9⟩:=hE.ten;have hnum:=numbers_any f w1;simp only[evc] at hnum;go_enter Tryz.func24,Tryz.ntmps24
 go_wp2_with fail
 refine hnum.mono ?_;clear hnum hw1;rintro e w2 ⟨v,rfl,hown,hB2⟩;have hE2:Ev w2 w.heap.size f:=hE.kept (Kept.of_below (F:=fun _=>False) hB2) (fun h=>h);have hB3:Below w.heap.size w w2:=hB.trans (hB2.mono (by omega));clear a0 a1 a2 a3 a4 a5 a6 a7 a8 a9 hE hB;obtain⟨a0,a1,a2,a3,a4,a5,a6,a7,a8,a9⟩:=hE2.ten;by_cases hk:kOK (f 0)
 ·have hkb:kB (f 0)=true:=decide_eq_true hk
  rw[hkb];rw[nums_ok hk] at hown;obtain⟨a,cap,rfl,hle,hmx,hsl⟩:=hown.sl;rw[List.length_map] at hle ⊢;have hwith:=with_any f a cap (parts (f 0)).length _ w2.drew hk hsl rfl (fun x hx=>hx.2);have hn6:=parts_len (f 0);have hdec:R=(decide (cpy f (parts (f 0))=f) && decide (∀ j ∈ parts (f 0),0≤f j∧f j≤2147483647)):=by
   rw[← HR.out,Bool.eq_iff_iff];simp only[decide_eq_true_eq,Bool.and_eq_true];rw[cpy_eq];unfold right;unfold kOK at hk;constructor
   ·rintro⟨_,h2,h3⟩;exact⟨h3,h2⟩
   ·rintro⟨h3,h2⟩;exact⟨hk,h2,h3⟩
  have HD:=Lib.hid hdec;clear hdec HR;generalize parts (f 0)=ps at *;generalize hgg:cpy f ps=g at *;obtain⟨n,hn⟩:∃ n,ps.length=n:=⟨_,rfl⟩;rw[hn] at hwith hn6 hle ⊢;have heq:=neq_ev g f;have hgd:=guard_ev;simp only[evc] at heq hwith;have HS:=Lib.hid hsl;have HK:=Lib.hid (show ∀ w3,Below w2.drew.heap.size w2.drew w3→Ev w3 w.heap.size f from fun w3 h=>(show Ev w2.drew w.heap.size f from hE2).kept (Kept.of_below (F:=fun _=>False) h) (fun h=>h));have HB:=Lib.hid (show ∀ w3,Below w2.drew.heap.size w2.drew w3→Below w.heap.size w w3 from fun w3 h=>hB3.drew.trans (h.mono hB3.size));clear hown hsl hgg hE2;by_cases hgf:g=f
  ·have dgf:decide (g=f)=true:=decide_eq_true hgf
   clear hgf;go_wp2_with fail
   go_region_with (go_at_call 41;refine hwith.mono ?_;rintro e w3 ⟨rfl,hB4⟩;obtain⟨b0,b1,b2,b3,b4,b5,b6,b7,b8,b9⟩:=(HK.out _ hB4).ten)
   all_goals (go_wp2_with fail)
   ·have hB4:Below w2.drew.heap.size w2.drew w3:=by assumption
    have hB5:=HB.out _ hB4;have hsl3:Sl .i64 w3 (fun x=>w1.heap.size≤x∧x < w2.heap.size) a (ps.map f):=(show Sl .i64 w2.drew (fun x=>w1.heap.size≤x∧x < w2.heap.size) a (ps.map f) from HS.out).kept (Kept.of_below (F:=fun _=>False) hB4) (fun _ _ h=>h);clear a0 a1 a2 a3 a4 a5 a6 a7 a8 a9 heq hgd hwith;go_loop [24] (fun x=>∃ i:Nat,x=.int .i64 i∧i≤n∧Hid (∀ j ∈ ps.take i,0≤f j∧f j≤2147483647)) (fun x=>n - (intOf x).toNat)
    case atStart=>exact⟨0,rfl,by omega,Lib.hid (by simp)⟩
    case round=>
     obtain⟨i,rfl,hi,HP⟩:=hrel;by_cases hin:i < n
     ·obtain⟨b,off,rfl,hb,hc⟩:=hsl3 i (by rw[List.length_map];omega)
      rw[map_getD ps f i (by omega)] at hc;have hj:ps.getD i 0 ∈ ps:=getD_mem ps i (by omega) 0;have ht:=take_snoc ps i (by omega) 0;have hPo:=HP.out;generalize ps.getD i 0=j at *;by_cases hlo:f j < 0
      ·have hr:R=false:=by
        rw[HD.out];simp only[Bool.and_eq_false_iff,decide_eq_false_iff_not];exact .inr (fun h=>by have:=h j hj;omega)
       subst hr;clear hPo HP;go_wp2_with fail
       go_returns
       exact⟨rfl,hB5⟩
      ·by_cases hhi:2147483647 < f j
       ·have hr:R=false:=by
         rw[HD.out];simp only[Bool.and_eq_false_iff,decide_eq_false_iff_not];exact .inr (fun h=>by have:=h j hj;omega)
        subst hr;clear hPo HP;go_wp2_with fail
        go_returns
        exact⟨rfl,hB5⟩
       ·have HP2:Hid (∀ j ∈ ps.take (i+1),0≤f j∧f j≤2147483647):=Lib.hid (by
         rw[ht];intro x hx;rcases List.mem_append.1 hx with hx|hx
         ·exact hPo x hx
         ·obtain rfl:x=j:=by simpa using hx
          omega)
        clear hPo HP ht;go_wp2_with fail
        go_round
        case rel=>exact⟨i+1,rfl,by omega,HP2⟩
        case measure=>simp[intOf];omega
     ·obtain rfl:i=n:=by omega
      rw[List.take_of_length_le (by omega)] at HP;have hr:R=true:=by
       rw[HD.out,dgf,Bool.true_and];exact decide_eq_true HP.out
      subst hr;go_wp2_with fail
      go_returns
      exact⟨rfl,hB5⟩
   ·have hB4:Below w2.drew.heap.size w2.drew w3:=by assumption
    have hB5:=HB.out _ hB4;have hsl3:Sl .i64 w3 (fun x=>w1.heap.size≤x∧x < w2.heap.size) a (ps.map f):=(show Sl .i64 w2.drew (fun x=>w1.heap.size≤x∧x < w2.heap.size) a (ps.map f) from HS.out).kept (Kept.of_below (F:=fun _=>False) hB4) (fun _ _ h=>h);clear a0 a1 a2 a3 a4 a5 a6 a7 a8 a9 heq hgd hwith;go_loop [24] (fun x=>∃ i:Nat,x=.int .i64 i∧i≤n∧Hid (∀ j ∈ ps.take i,0≤f j∧f j≤2147483647)) (fun x=>n - (intOf x).toNat)
    case atStart=>exact⟨0,rfl,by omega,Lib.hid (by simp)⟩
    case round=>
     obtain⟨i,rfl,hi,HP⟩:=hrel;by_cases hin:i < n
     ·obtain⟨b,off,rfl,hb,hc⟩:=hsl3 i (by rw[List.length_map];omega)
      rw[map_getD ps f i (by omega)] at hc;have hj:ps.getD i 0 ∈ ps:=getD_mem ps i (by omega) 0;have ht:=take_snoc ps i (by omega) 0;have hPo:=HP.out;generalize ps.getD i 0=j at *;by_cases hlo:f j < 0
      ·have hr:R=false:=by
        rw[HD.out];simp only[Bool.and_eq_false_iff,decide_eq_false_iff_not];exact .inr (fun h=>by have:=h j hj;omega)
       subst hr;clear hPo HP;go_wp2_with fail
       go_returns
       exact⟨rfl,hB5⟩
      ·by_cases hhi:2147483647 < f j
       ·have hr:R=false:=by
         rw[HD.out];simp only[Bool.and_eq_false_iff,decide_eq_false_iff_not];exact .inr (fun h=>by have:=h j hj;omega)
        subst hr;clear hPo HP;go_wp2_with fail
        go_returns
        exact⟨rfl,hB5⟩
       ·have HP2:Hid (∀ j ∈ ps.take (i+1),0≤f j∧f j≤2147483647):=Lib.hid (by
         rw[ht];intro x hx;rcases List.mem_append.1 hx with hx|hx
         ·exact hPo x hx
         ·obtain rfl:x=j:=by simpa using hx
          omega)
        clear hPo HP ht;go_wp2_with fail
        go_round
        case rel=>exact⟨i+1,rfl,by omega,HP2⟩
        case measure=>simp[intOf];omega
     ·obtain rfl:i=n:=by omega
      rw[List.take_of_length_le (by omega)] at HP;have hr:R=true:=by
       rw[HD.out,dgf,Bool.true_and];exact decide_eq_true HP.out
      subst hr;go_wp2_with fail
      go_returns
      exact⟨rfl,hB5⟩
   ·have hB4:Below w2.drew.heap.size w2.drew w3:=by assumption
    have hB5:=HB.out _ hB4;have hsl3:Sl .i64 w3 (fun x=>w1.heap.size≤x∧x < w2.heap.size) a (ps.map f):=(show Sl .i64 w2.drew (fun x=>w1.heap.size≤x∧x < w2.heap.size) a (ps.map f) from HS.out).kept (Kept.of_below (F:=fun _=>False) hB4) (fun _ _ h=>h);clear a0 a1 a2 a3 a4 a5 a6 a7 a8 a9 heq hgd hwith;go_loop [24] (fun x=>∃ i:Nat,x=.int .i64 i∧i≤n∧Hid (∀ j ∈ ps.take i,0≤f j∧f j≤2147483647)) (fun x=>n - (intOf x).toNat)
    case atStart=>exact⟨0,rfl,by omega,Lib.hid (by simp)⟩
    case round=>
     obtain⟨i,rfl,hi,HP⟩:=hrel;by_cases hin:i < n
     ·obtain⟨b,off,rfl,hb,hc⟩:=hsl3 i (by rw[List.length_map];omega)
      rw[map_getD ps f i (by omega)] at hc;have hj:ps.getD i 0 ∈ ps:=getD_mem ps i (by omega) 0;have ht:=take_snoc ps i (by omega) 0;have hPo:=HP.out;generalize ps.getD i 0=j at *;by_cases hlo:f j < 0
      ·have hr:R=false:=by
        rw[HD.out];simp only[Bool.and_eq_false_iff,decide_eq_false_iff_not];exact .inr (fun h=>by have:=h j hj;omega)
       subst hr;clear hPo HP;go_wp2_with fail
       go_returns
       exact⟨rfl,hB5⟩
      ·by_cases hhi:2147483647 < f j
       ·have hr:R=false:=by
         rw[HD.out];simp only[Bool.and_eq_false_iff,decide_eq_false_iff_not];exact .inr (fun h=>by have:=h j hj;omega)
        subst hr;clear hPo HP;go_wp2_with fail
        go_returns
        exact⟨rfl,hB5⟩
       ·have HP2:Hid (∀ j ∈ ps.take (i+1),0≤f j∧f j≤2147483647):=Lib.hid (by
         rw[ht];intro x hx;rcases List.mem_append.1 hx with hx|hx
         ·exact hPo x hx
         ·obtain rfl:x=j:=by simpa using hx
          omega)
        clear hPo HP ht;go_wp2_with fail
        go_round
        case rel=>exact⟨i+1,rfl,by omega,HP2⟩
        case measure=>simp[intOf];omega
     ·obtain rfl:i=n:=by omega
      rw[List.take_of_length_le (by omega)] at HP;have hr:R=true:=by
       rw[HD.out,dgf,Bool.true_and];exact decide_eq_true HP.out
      subst hr;go_wp2_with fail
      go_returns
      exact⟨rfl,hB5⟩
  ·have dgf:decide (g=f)=false:=decide_eq_false hgf
   have hr:R=false:=by rw[HD.out,dgf,Bool.false_and]
   subst hr;clear hgf;go_wp2_with fail
   go_region_with (go_at_call 41;refine hwith.mono ?_;rintro e w3 ⟨rfl,hB4⟩;obtain⟨b0,b1,b2,b3,b4,b5,b6,b7,b8,b9⟩:=(HK.out _ hB4).ten)
   all_goals (go_wp2_with fail)
   all_goals go_returns
   all_goals exact⟨rfl,HB.out _ (by assumption)⟩
 ·have hkb:kB (f 0)=false:=decide_eq_false hk
  rw[hkb];have hr:R=false:=by
   rw[← HR.out];exact decide_eq_false fun h=>hk h.1
  subst hr;go_wp2_with fail
  go_quiet (fail)
  go_wp2_with fail
  go_returns
  exact⟨rfl,below_drewN hB3 _⟩
theorem Ev.drew{w:World}{b:Nat}{f:Evt}(h:Ev w b f):Ev w.drew b f:=h
theorem get_any(a:Option Addr)(cap:Nat)(zs:List Nat)(p:Nat→Prop)(w:World)(hsl:Sl .u8 w p a (ib zs))(hp:∀ x,p x→x < w.heap.size)(hcap:zs.length≤cap)(hz:zs.length≤100000)(hcb:∀ c ∈ zs,c < 256)
  (f:Evt) (n e:Nat) (hR:getE zs=(f,n,e)):
  Calls Tryz.prog 20 #[.slice a zs.length cap] w fun x w'=>x=.returned (.tuple #[.agg (evc f),.int .i64 n,.int .i64 e])∧Below w.heap.size w w':=by
 obtain⟨y,hy⟩:∃ y,getR zs=y:=⟨_,rfl⟩;obtain⟨f0,n0,e0⟩:=y;have hR2:f=(if e0=0 then f0 else noev)∧n=(if e0=0 then n0 else 0)∧e=e0:=by
  unfold getE at hR;rw[hy] at hR;dsimp only at hR;split at hR <;> rename_i h0
  ·simp at hR;rw[if_pos h0,if_pos h0];exact⟨hR.1.symm,hR.2.1.symm,by omega⟩
  ·simp at hR;rw[if_neg h0,if_neg h0];exact⟨hR.1.symm,by omega,by omega⟩
 obtain⟨rfl,hn,rfl⟩:=hR2;have hB0:Below w.heap.size w (w.alloc (.cells (evc noev) 28)):=by go_grown
 have hEz:Ev (w.alloc (.cells (evc noev) 28)) w.heap.size noev:=Ev.new _ _;have hsl1:Sl .u8 (w.alloc (.cells (evc noev) 28)) p a (ib zs):=hsl.kept ((Kept.refl (fun _=>False) w).alloc _) (fun _ _ h=>h);have hzz:(w.alloc (.cells (evc noev) 28)).heap.size=w.heap.size+1:=by simp
 clear hsl hR;go_enter Tryz.func20,Tryz.ntmps20
 go_wp2_with fail
 change Calls _ _ _ (w.alloc (.cells (evc noev) 28)) _;generalize w.alloc (.cells (evc noev) 28)=w1 at *;refine(read_any a zs.length cap w1).mono ?_;rintro e1 w2 ⟨rfl,hrd,hB2,hz2⟩;have hk2:=Kept.of_below (F:=fun _=>False) hB2;have hEz2:=hEz.kept hk2 (fun h=>h);have hsl2:=hsl1.kept hk2 (fun _ _ h=>h);have hB3:Below w.heap.size w w2:=hB0.trans (hB2.mono (by omega));have hr1:w.heap.size < w1.heap.size:=by omega
 have hr2:w1.heap.size < w2.heap.size:=by omega
 clear hzz hz2;generalize hr:w1.heap.size=r at *;clear hr;clear hB0 hEz hsl1 hB2 hk2;go_wp2_with fail
 have hone:=one_any r a cap zs p w2 hrd hsl2 (fun x hx=>by have:=hp x hx;omega) hcap hz hcb f0 n0 e hy;generalize hgg:(if e=0 then f0 else noev)=g at *;simp only[evc] at hone;refine hone.mono ?_;clear hone;rintro e1 w3 ⟨rfl,hrd3,hk3⟩;have hEz3:=hEz2.kept hk3 (by omega);have hB4:Below w.heap.size w w3:=hB3.trans (hk3.below (by omega) (by intro x hx h;omega));have hz3:=hk3.size;have hE5:Ev (w3.alloc (.cells (evc g) 28)) w3.heap.size g:=Ev.new _ _;have hEz5:Ev (w3.alloc (.cells (evc g) 28)) w.heap.size noev:=hEz3.kept ((Kept.refl (fun _=>False) w3).alloc _) (fun h=>h);have hrd5:Rd (w3.alloc (.cells (evc g) 28)) r a zs.length cap n0 e:=hrd3.kept ((Kept.refl (fun _=>False) w3).alloc _) (fun h=>h);have hB5:Below w.heap.size w (w3.alloc (.cells (evc g) 28)):=hB4.alloc (by omega) _;have q5:w.heap.size≠w3.heap.size:=by omega
 obtain⟨w5,hw5⟩:∃ w5,w3.alloc (.cells (evc g) 28)=w5:=⟨_,rfl⟩;rw[hw5] at hE5 hEz5 hrd5 hB5;clear hEz2 hsl2 hrd hB3 hk3 hrd3 hEz3 hB4;obtain⟨a0,a1,a2,a3,a4,a5,a6,a7,a8,a9⟩:=hE5.ten;obtain⟨b0,b1,b2,b3,b4,b5,b6,b7,b8,b9⟩:=hEz5.ten;have hfz:=hEz5.free;by_cases he:e=0
 ·subst he
  obtain rfl:n=n0:=by simpa using hn
  obtain rfl:f0=g:=by simpa using hgg
  have hat:=at_any r a zs.length cap n 0 w5.drew hrd5;clear hn hgg;simp only[evc] at hw5;go_upto_region 3 with fail
  clear hw5;go_wp2_with fail
  go_region_with (go_at_call 35;refine hat.mono ?_;rintro e w6 ⟨rfl,rfl⟩)
  all_goals (go_wp2_with fail)
  all_goals
   change bodyPost _ _ _ _ _ (set10 w5 w.heap.size f0).drew;have ev6:Ev (set10 w5 w.heap.size f0).drew w.heap.size f0:=(set10_ev hEz5 f0).drew;have k6:Kept (fun x=>x=w.heap.size) w5 (set10 w5 w.heap.size f0).drew:=(set10_kept w5 w.heap.size f0).drew;generalize (set10 w5 w.heap.size f0).drew=w6 at *;clear hEz5 hfz a0 a1 a2 a3 a4 a5 a6 a7 a8 a9 b0 b1 b2 b3 b4 b5 b6 b7 b8 b9;obtain⟨a0,a1,a2,a3,a4,a5,a6,a7,a8,a9⟩:=ev6.ten;refine bodyPost_ret (by simp[results,Tryz.results20,go_sem,a0,a1,a2,a3,a4,a5,a6,a7,a8,a9];try rfl) rfl ?_;exact⟨rfl,hB5.trans (k6.below (by have:=hB5.size;omega) (by intro x hx h;omega))⟩
 ·have e1:((e:Int) != 0)=true:=by simp;omega
  obtain rfl:n=0:=by rw[if_neg he] at hn;exact hn
  obtain rfl:g=noev:=by rw[if_neg he] at hgg;exact hgg.symm
  clear hn hgg;simp only[evc] at hw5;go_upto_region 3 with fail
  clear hw5;go_wp2_with fail
  change bodyPost _ _ _ _ _ (set10 w5 w.heap.size noev);have ev6:=set10_ev hEz5 noev;have k6:=set10_kept w5 w.heap.size noev;generalize set10 w5 w.heap.size noev=w6 at *;clear hEz5 hfz a0 a1 a2 a3 a4 a5 a6 a7 a8 a9 b0 b1 b2 b3 b4 b5 b6 b7 b8 b9;obtain⟨a0,a1,a2,a3,a4,a5,a6,a7,a8,a9⟩:=ev6.ten;refine bodyPost_ret (by simp[results,Tryz.results20,go_sem,a0,a1,a2,a3,a4,a5,a6,a7,a8,a9];try rfl) rfl ?_;exact⟨rfl,hB5.trans (k6.below (by have:=hB5.size;omega) (by intro x hx h;omega))⟩
end Go.Proofs.YtigeldkbfbcpmaaGreat.P16
