/- A part of the proof: what the functions of the program come to, and what holds at all times. -/
import Derived.Test.YtigeldkbfbcpmaaGreatRows
import Derived.BigRegion
import Derived.BigQuiet
import Derived.Handy
import Derived.Test.YtigeldkbfbcpmaaGreatM03
import Derived.Test.YtigeldkbfbcpmaaGreatM01
set_option linter.unusedVariables false
set_option linter.unusedSectionVars false
set_option linter.unusedSimpArgs false
set_option maxRecDepth 100000
set_option maxHeartbeats 8000000
namespace Go.Proofs.YtigeldkbfbcpmaaGreat
open Go.RowKit Go.Kpt
def tri:Nat→Int
 | 0=>0
 | k+1=>tri k+(k:Int)
def sqr:Nat→Int
 | 0=>0
 | k+1=>sqr k+(k:Int)*(k:Int)
def sy(l:List Int):Nat→Int
 | 0=>0
 | k+1=>sy l k+clamp (l.getD k 0)
def sxy(l:List Int):Nat→Int
 | 0=>0
 | k+1=>sxy l k+(k:Int)*clamp (l.getD k 0)
def castNext(l:List Int):Int:=
 if l.length=0 then 0 else if l.length=1 then sy l 1
 else
  let n:Int:=l.length
  let d:=n*sqr l.length - tri l.length*tri l.length
  let u:=sy l l.length*d+(n*sxy l l.length - tri l.length*sy l l.length)*(n*n - tri l.length)
  if u < 0 then 0 else clamp (u / (n*d))
theorem sy_bd(l:List Int):∀ k,0≤sy l k∧sy l k≤1099511627776*(k:Int):=by
 intro k
 induction k with
 | zero=>simp[sy]
 | succ k ih=>have:=clamp_bd (l.getD k 0);simp only[sy];push_cast;omega
theorem sxy_bd(l:List Int):∀ k,k≤8→0≤sxy l k∧sxy l k≤8796093022208*(k:Int):=by
 intro k
 induction k with
 | zero=>intro _;simp[sxy]
 | succ k ih=>
  intro hk;have h1:=ih (by omega);have h2:=clamp_bd (l.getD k 0);have h3:(k:Int)*clamp (l.getD k 0)≤8*1099511627776:=Int.mul_le_mul (by omega) h2.2 h2.1 (by omega);have h4:0≤(k:Int)*clamp (l.getD k 0):=Int.mul_nonneg (by omega) h2.1;simp only[sxy];push_cast;omega
theorem castNext_bd(l:List Int):0≤castNext l∧castNext l≤1099511627776:=by
 unfold castNext;split
 ·omega
 ·split
  ·have:=sy_bd l 1;omega
  ·dsimp only
   split
   ·omega
   ·exact clamp_bd _
theorem next_any(base:Nat)(v:Value)(l:List Int)(hl:l.length≤8)(w:World)(h:OwnI w base 2 .i64 v l):
  Calls Tryz.prog 108 #[v] w fun e w'=>e=.returned (.int .i64 (castNext l))∧Below w.heap.size w w':=by
 obtain⟨r,hr⟩:∃ r,castNext l=r:=⟨_,rfl⟩;rw[hr];rcases h.shape with ⟨rfl,rfl⟩|⟨g,cap,rfl,hg1,hg2,hlc,hcm,hcell⟩
 ·obtain rfl:0=r:=hr
  clear h;go_enter Tryz.func108,Tryz.ntmps108
  go_wp2_with fail
  go_rounds 1
  go_wp2_with fail
  go_ret
  exact⟨rfl,Below.refl _ _⟩
 obtain⟨n,hn⟩:∃ n,l.length=n:=⟨_,rfl⟩;unfold castNext at hr;rw[hn] at hr hl hlc hcell ⊢;have hn8:¬ (8:Int) < n:=by omega
 have HR:=Lib.hid hr;clear hr h;go_enter Tryz.func108,Tryz.ntmps108
 go_wp2_with fail
 go_loopw [26,4,5,6,7] (fun x a b c d wr=>∃ (k:Nat),x=.int .i64 k∧k≤n∧a=.int .i64 (tri k)∧b=.int .i64 (sy l k)∧c=.int .i64 (sqr k)∧d=.int .i64 (sxy l k)∧wr=w) (fun x _ _ _ _ _=>n - (intOf x).toNat)
 case atStart=>exact⟨0,rfl,by omega,rfl,rfl,rfl,rfl,rfl⟩
 case round=>
  obtain⟨k,rfl,hk,rfl,rfl,rfl,rfl,rfl⟩:=hrel;have b1:=sy_bd l k;have b2:=sxy_bd l k (by omega);by_cases hlt:k < n
  ·have hc:=hcell k hlt
   have e1:tri (k+1)=tri k+(k:Int):=rfl;have e2:sqr (k+1)=sqr k+(k:Int)*(k:Int):=rfl;have e3:sy l (k+1)=sy l k+clamp (l.getD k 0):=rfl;have e4:sxy l (k+1)=sxy l k+(k:Int)*clamp (l.getD k 0):=rfl;have hcl:=clamp_bd (l.getD k 0);have hct:=fun W=>clamp_any (l.getD k 0) W;have b3:0≤tri k∧tri k≤100∧0≤sqr k∧sqr k≤1000:=by
    rcases (show k=0∨k=1∨k=2∨k=3∨k=4∨k=5∨k=6∨k=7 by omega) with rfl|rfl|rfl|rfl|rfl|rfl|rfl|rfl <;> decide
   have b4:(k:Int)*(k:Int)≤8*8:=Int.mul_le_mul (by omega) (by omega) (by omega) (by omega);have b5:0≤(k:Int)*(k:Int):=Int.mul_nonneg (by omega) (by omega);have b6:(k:Int)*clamp (l.getD k 0)≤8*1099511627776:=Int.mul_le_mul (by omega) hcl.2 hcl.1 (by omega);have b7:0≤(k:Int)*clamp (l.getD k 0):=Int.mul_nonneg (by omega) hcl.1;have j1:(k:Int) < (n:Int):=by omega
   clear hcell HR;generalize clamp (l.getD k 0)=C at *;generalize l.getD k 0=X at *;generalize sy l k=S at *;generalize sxy l k=Z at *;generalize tri k=T at *;generalize sqr k=Q at *;obtain⟨KK,hKK⟩:∃ KK,(k:Int)*(k:Int)=KK:=⟨_,rfl⟩;obtain⟨KC,hKC⟩:∃ KC,(k:Int)*C=KC:=⟨_,rfl⟩;rw[hKK] at e2 b4 b5;rw[hKC] at e4 b6 b7;go_wp2_with fail
   refine(hct _).mono ?_;rintro e w1 ⟨rfl,rfl⟩;clear hct;go_wp2_with fail
   go_roundw
   case rel=>exact⟨k+1,by go_num,by omega,by rw[e1],by rw[e3],by rw[e2],by rw[e4],trivial⟩
   case measure=>simp[intOf];omega
  ·obtain rfl:k=n:=by omega
   have hr:=HR.out;clear HR hcell;generalize sy l=Sy at *;generalize sxy l=Sx at *;rcases (show k=0∨k=1∨k=2∨k=3∨k=4∨k=5∨k=6∨k=7∨k=8 by omega) with rfl|rfl|rfl|rfl|rfl|rfl|rfl|rfl|rfl
   ·rw[if_pos rfl] at hr
    subst hr;go_wp2_with fail
    go_ret
    exact⟨rfl,Below.refl _ _⟩
   ·rw[if_neg (by decide),if_pos rfl] at hr
    generalize Sy 1=S at *;subst hr;go_wp2_with fail
    go_ret
    exact⟨rfl,Below.refl _ _⟩
   ·rw[if_neg (by decide),if_neg (by decide)] at hr
    rw[show tri 2=1 from rfl,show sqr 2=1 from rfl] at hr;rw[show tri 2=1 from rfl,show sqr 2=1 from rfl];generalize Sy 2=S at *;generalize Sx 2=Z at *;have hr:(if S*1+(2*Z - 1*S)*3 < 0 then (0:Int) else clamp ((S*1+(2*Z - 1*S)*3) / 2))=r:=hr;simp only[Int.mul_one,Int.one_mul] at hr;obtain⟨U,hU⟩:∃ U,S+(2*Z - S)*3=U:=⟨_,rfl⟩;have hUb:-4611686018427387904≤U∧U≤4611686018427387904:=by omega
    rw[hU] at hr;by_cases hu:U < 0
    ·rw[if_pos hu] at hr
     subst hr;go_wp2_with fail
     go_ret
     exact⟨rfl,Below.refl _ _⟩
    ·rw[if_neg hu] at hr
     have hct:=fun W=>clamp_any (U / 2) W;rw[hr] at hct;have htd:Int.tdiv U 2=U / 2:=Int.tdiv_eq_ediv_of_nonneg (by omega);clear hr;go_wp2_with fail
     refine(hct _).mono ?_;rintro e w1 ⟨rfl,rfl⟩;go_wp2_with fail
     go_ret
     exact⟨rfl,Below.refl _ _⟩
   ·rw[if_neg (by decide),if_neg (by decide)] at hr
    rw[show tri 3=3 from rfl,show sqr 3=5 from rfl] at hr;rw[show tri 3=3 from rfl,show sqr 3=5 from rfl];generalize Sy 3=S at *;generalize Sx 3=Z at *;have hr:(if S*6+(3*Z - 3*S)*6 < 0 then (0:Int) else clamp ((S*6+(3*Z - 3*S)*6) / 18))=r:=hr;obtain⟨U,hU⟩:∃ U,S*6+(3*Z - 3*S)*6=U:=⟨_,rfl⟩;have hUb:-4611686018427387904≤U∧U≤4611686018427387904:=by omega
    rw[hU] at hr;by_cases hu:U < 0
    ·rw[if_pos hu] at hr
     subst hr;go_wp2_with fail
     go_ret
     exact⟨rfl,Below.refl _ _⟩
    ·rw[if_neg hu] at hr
     have hct:=fun W=>clamp_any (U / 18) W;rw[hr] at hct;have htd:Int.tdiv U 18=U / 18:=Int.tdiv_eq_ediv_of_nonneg (by omega);clear hr;go_wp2_with fail
     refine(hct _).mono ?_;rintro e w1 ⟨rfl,rfl⟩;go_wp2_with fail
     go_ret
     exact⟨rfl,Below.refl _ _⟩
   ·rw[if_neg (by decide),if_neg (by decide)] at hr
    rw[show tri 4=6 from rfl,show sqr 4=14 from rfl] at hr;rw[show tri 4=6 from rfl,show sqr 4=14 from rfl];generalize Sy 4=S at *;generalize Sx 4=Z at *;have hr:(if S*20+(4*Z - 6*S)*10 < 0 then (0:Int) else clamp ((S*20+(4*Z - 6*S)*10) / 80))=r:=hr;obtain⟨U,hU⟩:∃ U,S*20+(4*Z - 6*S)*10=U:=⟨_,rfl⟩;have hUb:-4611686018427387904≤U∧U≤4611686018427387904:=by omega
    rw[hU] at hr;by_cases hu:U < 0
    ·rw[if_pos hu] at hr
     subst hr;go_wp2_with fail
     go_ret
     exact⟨rfl,Below.refl _ _⟩
    ·rw[if_neg hu] at hr
     have hct:=fun W=>clamp_any (U / 80) W;rw[hr] at hct;have htd:Int.tdiv U 80=U / 80:=Int.tdiv_eq_ediv_of_nonneg (by omega);clear hr;go_wp2_with fail
     refine(hct _).mono ?_;rintro e w1 ⟨rfl,rfl⟩;go_wp2_with fail
     go_ret
     exact⟨rfl,Below.refl _ _⟩
   ·rw[if_neg (by decide),if_neg (by decide)] at hr
    rw[show tri 5=10 from rfl,show sqr 5=30 from rfl] at hr;rw[show tri 5=10 from rfl,show sqr 5=30 from rfl];generalize Sy 5=S at *;generalize Sx 5=Z at *;have hr:(if S*50+(5*Z - 10*S)*15 < 0 then (0:Int) else clamp ((S*50+(5*Z - 10*S)*15) / 250))=r:=hr;obtain⟨U,hU⟩:∃ U,S*50+(5*Z - 10*S)*15=U:=⟨_,rfl⟩;have hUb:-4611686018427387904≤U∧U≤4611686018427387904:=by omega
    rw[hU] at hr;by_cases hu:U < 0
    ·rw[if_pos hu] at hr
     subst hr;go_wp2_with fail
     go_ret
     exact⟨rfl,Below.refl _ _⟩
    ·rw[if_neg hu] at hr
     have hct:=fun W=>clamp_any (U / 250) W;rw[hr] at hct;have htd:Int.tdiv U 250=U / 250:=Int.tdiv_eq_ediv_of_nonneg (by omega);clear hr;go_wp2_with fail
     refine(hct _).mono ?_;rintro e w1 ⟨rfl,rfl⟩;go_wp2_with fail
     go_ret
     exact⟨rfl,Below.refl _ _⟩
   ·rw[if_neg (by decide),if_neg (by decide)] at hr
    rw[show tri 6=15 from rfl,show sqr 6=55 from rfl] at hr;rw[show tri 6=15 from rfl,show sqr 6=55 from rfl];generalize Sy 6=S at *;generalize Sx 6=Z at *;have hr:(if S*105+(6*Z - 15*S)*21 < 0 then (0:Int) else clamp ((S*105+(6*Z - 15*S)*21) / 630))=r:=hr;obtain⟨U,hU⟩:∃ U,S*105+(6*Z - 15*S)*21=U:=⟨_,rfl⟩;have hUb:-4611686018427387904≤U∧U≤4611686018427387904:=by omega
    rw[hU] at hr;by_cases hu:U < 0
    ·rw[if_pos hu] at hr
     subst hr;go_wp2_with fail
     go_ret
     exact⟨rfl,Below.refl _ _⟩
    ·rw[if_neg hu] at hr
     have hct:=fun W=>clamp_any (U / 630) W;rw[hr] at hct;have htd:Int.tdiv U 630=U / 630:=Int.tdiv_eq_ediv_of_nonneg (by omega);clear hr;go_wp2_with fail
     refine(hct _).mono ?_;rintro e w1 ⟨rfl,rfl⟩;go_wp2_with fail
     go_ret
     exact⟨rfl,Below.refl _ _⟩
   ·rw[if_neg (by decide),if_neg (by decide)] at hr
    rw[show tri 7=21 from rfl,show sqr 7=91 from rfl] at hr;rw[show tri 7=21 from rfl,show sqr 7=91 from rfl];generalize Sy 7=S at *;generalize Sx 7=Z at *;have hr:(if S*196+(7*Z - 21*S)*28 < 0 then (0:Int) else clamp ((S*196+(7*Z - 21*S)*28) / 1372))=r:=hr;obtain⟨U,hU⟩:∃ U,S*196+(7*Z - 21*S)*28=U:=⟨_,rfl⟩;have hUb:-4611686018427387904≤U∧U≤4611686018427387904:=by omega
    rw[hU] at hr;by_cases hu:U < 0
    ·rw[if_pos hu] at hr
     subst hr;go_wp2_with fail
     go_ret
     exact⟨rfl,Below.refl _ _⟩
    ·rw[if_neg hu] at hr
     have hct:=fun W=>clamp_any (U / 1372) W;rw[hr] at hct;have htd:Int.tdiv U 1372=U / 1372:=Int.tdiv_eq_ediv_of_nonneg (by omega);clear hr;go_wp2_with fail
     refine(hct _).mono ?_;rintro e w1 ⟨rfl,rfl⟩;go_wp2_with fail
     go_ret
     exact⟨rfl,Below.refl _ _⟩
   ·rw[if_neg (by decide),if_neg (by decide)] at hr
    rw[show tri 8=28 from rfl,show sqr 8=140 from rfl] at hr;rw[show tri 8=28 from rfl,show sqr 8=140 from rfl];generalize Sy 8=S at *;generalize Sx 8=Z at *;have hr:(if S*336+(8*Z - 28*S)*36 < 0 then (0:Int) else clamp ((S*336+(8*Z - 28*S)*36) / 2688))=r:=hr;obtain⟨U,hU⟩:∃ U,S*336+(8*Z - 28*S)*36=U:=⟨_,rfl⟩;have hUb:-4611686018427387904≤U∧U≤4611686018427387904:=by omega
    rw[hU] at hr;by_cases hu:U < 0
    ·rw[if_pos hu] at hr
     subst hr;go_wp2_with fail
     go_ret
     exact⟨rfl,Below.refl _ _⟩
    ·rw[if_neg hu] at hr
     have hct:=fun W=>clamp_any (U / 2688) W;rw[hr] at hct;have htd:Int.tdiv U 2688=U / 2688:=Int.tdiv_eq_ediv_of_nonneg (by omega);clear hr;go_wp2_with fail
     refine(hct _).mono ?_;rintro e w1 ⟨rfl,rfl⟩;go_wp2_with fail
     go_ret
     exact⟨rfl,Below.refl _ _⟩
end Go.Proofs.YtigeldkbfbcpmaaGreat
namespace Go.Proofs.YtigeldkbfbcpmaaGreat.P05
open Go.RowKit Go.Kpt RingPure
theorem Tryz.info2:(Tryz.prog.info? 2).map (fun i=>(i.zero,i.size,i.bytes))=some (some (.int .i64 0),1,8):=by kernel_rfl
def ringCells(l:List Int)(n:Nat):Array Value:=(l.map (Value.int .i64)++[Value.int .i64 n]).toArray
def Rg(w:World)(b:Nat)(h:List Int):Prop:=∃ l n,Rep l n h∧w.heap[b]?=some (.cells (ringCells l n) 222 (0,0))
theorem Rg.kept{F:Nat→Prop}{w w':World}{b:Nat}{h:List Int}(r:Rg w b h)(k:Kept F w w')(hF:¬ F b):Rg w' b h:=by
 obtain⟨l,n,r1,e⟩:=r;exact⟨l,n,r1,(k.block b (lt_of e) hF).trans e⟩
theorem Rg.drewN{w:World}{b:Nat}{h:List Int}(r:Rg w b h)(n:Nat):Rg (w.drewN n) b h:=r
theorem cells_at{l:List Int}(n:Nat)(h8:l.length=8)(j:Nat)(hj:j < 8):(ringCells l n)[j]?=some (.int .i64 (l.getD j 0)):=by
 unfold ringCells;simp[List.getElem?_append,h8,hj]
theorem cells_n{l:List Int}(n:Nat)(h8:l.length=8):(ringCells l n)[8]?=some (.int .i64 n):=by
 unfold ringCells;simp[h8]
theorem cells_set{l:List Int}(n:Nat)(h8:l.length=8)(j:Nat)(hj:j < 8)(x:Int):(ringCells l n).setIfInBounds j (.int .i64 x)=ringCells (l.set j x) n:=by
 unfold ringCells;simp[h8,hj]
theorem cells_setn{l:List Int}(n m:Nat)(h8:l.length=8):(ringCells l n).setIfInBounds 8 (.int .i64 m)=ringCells l m:=by
 unfold ringCells;simp[h8]
theorem new_any(w:World):Calls Tryz.prog 77 #[] w fun e w'=>e=.returned (.pointer (some ⟨w.heap.size,0,none⟩))∧Rg w' w.heap.size []∧Below w.heap.size w w'∧w'.heap.size=w.heap.size+1:=by
 go_enter Tryz.func77,Tryz.ntmps77
 go_wp2
 go_ret
 exact⟨rfl,⟨_,0,Rep.nil,heap_alloc_new _ _⟩,(Below.refl _ _).alloc (Nat.le_refl _) _,by simp⟩
theorem len_any(b:Nat)(h:List Int)(w:World)(r:Rg w b h):Calls Tryz.prog 151 #[.pointer (some ⟨b,0,none⟩)] w fun e w'=>e=.returned (.int .i64 (lastl h).length)∧w=w':=by
 obtain⟨l,n,r1,e⟩:=r;have c8:w.cell? ⟨b,8,none⟩=some (.int .i64 n):=(cell_of e).trans (cells_n n r1.len);have hc:=r1.count;have HC:=Lib.hid hc;have hn:=r1.lt;clear hc e;by_cases h8:n < 8
 ·go_enter Tryz.func151,Tryz.ntmps151
  go_wp2
  go_ret
  exact⟨by rw[← HC.out,if_pos h8];rfl,rfl⟩
 ·have h9:(8:Int)≤n:=by omega
  by_cases h10:n=8
  ·subst h10
   go_enter Tryz.func151,Tryz.ntmps151
   go_wp2
   go_ret
   exact⟨by rw[← HC.out,if_neg h8];rfl,rfl⟩
  ·have h11:(8:Int) < n:=by omega
   go_enter Tryz.func151,Tryz.ntmps151
   go_wp2
   go_ret
   exact⟨by rw[← HC.out,if_neg h8];rfl,rfl⟩
theorem Rg.of{w:World}{b:Nat}{h:List Int}{x:Int}{l:List Int}{n:Nat}(r1:Rep l n h)(e:w.heap[b]?=some (.cells (ringCells l n) 222 (0,0)))(m:Nat)(hm:m=if n+1=16 then 8 else n+1):
  Rg ((w.setCell ⟨b,n % 8,none⟩ (.int .i64 x)).setCell ⟨b,8,none⟩ (.int .i64 m)) b (h++[x]):=by
 refine⟨l.set (n % 8) x,m,by rw[hm];exact r1.push x,?_⟩;rw[set_same _ (set_same _ e),cells_set n r1.len _ (by omega),cells_setn n m (by rw[List.length_set];exact r1.len)]
theorem Kept.two(w:World)(b i j:Nat)(u v:Value):Kept (fun x=>x=b) w ((w.setCell ⟨b,i,none⟩ u).setCell ⟨b,j,none⟩ v):=
 (Kept.set1 w b i u).trans (Kept.set1 _ b j v) (fun _ _ h=>h)
theorem push_any(b:Nat)(h:List Int)(x:Int)(w:World)(r:Rg w b h):Calls Tryz.prog 139 #[.pointer (some ⟨b,0,none⟩),.int .i64 x] w fun e w'=>e=.returned (.tuple #[])∧Rg w' b (h++[x])∧Kept (fun y=>y=b) w w':=by
 obtain⟨l,n,r1,e⟩:=r;have c8:w.cell? ⟨b,8,none⟩=some (.int .i64 n):=(cell_of e).trans (cells_n n r1.len);have f8:w.frozen? ⟨b,8,none⟩=false:=frozen_of e;have ck:w.cell? ⟨b,n % 8,none⟩=some (.int .i64 (l.getD (n % 8) 0)):=(cell_of e).trans (cells_at n r1.len _ (by omega));have fk:w.frozen? ⟨b,n % 8,none⟩=false:=frozen_of e;have hn:=r1.lt;by_cases h15:n=15
 ·subst h15
  have HR:Hid (Rg (((w.setCell ⟨b,7,none⟩ (.int .i64 x)).setCell ⟨b,8,none⟩ (.int .i64 16)).setCell ⟨b,8,none⟩ (.int .i64 8)) b (h++[x])):=by
   refine⟨l.set 7 x,8,r1.push x,?_⟩;rw[set_same _ (set_same _ (set_same _ e)),cells_set 15 r1.len 7 (by omega)];have h1:=cells_setn (l:=l.set 7 x) 15 16 (by rw[List.length_set];exact r1.len);have h2:=cells_setn (l:=l.set 7 x) 16 8 (by rw[List.length_set];exact r1.len);have e1:(ringCells (l.set 7 x) 15).setIfInBounds 8 (.int .i64 16)=ringCells (l.set 7 x) 16:=h1;have e2:(ringCells (l.set 7 x) 16).setIfInBounds 8 (.int .i64 8)=ringCells (l.set 7 x) 8:=h2;rw[e1,e2]
  clear e r1;go_enter Tryz.func139,Tryz.ntmps139
  go_wp2
  go_region
  all_goals
   go_wp2
   go_end0
   exact⟨rfl,HR.out,((Kept.two _ _ _ _ _ _).trans (Kept.set1 _ _ _ _) (fun _ _ h=>h)).drew⟩
 ·have HR:Hid (Rg _ _ _):=Rg.of (x:=x) r1 e (n+1) (by rw[if_neg (by omega)])
  clear e r1;go_enter Tryz.func139,Tryz.ntmps139
  go_wp2
  go_region
  all_goals
   go_wp2
   go_end0
   exact⟨rfl,HR.out,(Kept.two _ _ _ _ _ _).drew⟩
theorem list_any(b:Nat)(h:List Int)(w:World)(r:Rg w b h):Calls Tryz.prog 109 #[.pointer (some ⟨b,0,none⟩)] w fun e w'=>∃ v,e=.returned v∧OwnI w' w.heap.size 2 .i64 v (lastl h)∧Below w.heap.size w w':=by
 have hlen:=len_any b h;have r0:=r;obtain⟨l,n,r1,e⟩:=r;have c8:w.cell? ⟨b,8,none⟩=some (.int .i64 n):=(cell_of e).trans (cells_n n r1.len);have hn:=r1.lt;obtain⟨hle,hle8⟩:=r1.told';have HT:=Lib.hid r1.told;have HC:Hid (∀ j,j < 8→w.cell? ⟨b,j,none⟩=some (.int .i64 (l.getD j 0))):=fun j hj=>(cell_of e).trans (cells_at n r1.len j hj);have hbw:b < w.heap.size:=lt_of e;obtain⟨i0,hi,hz0,hz1,hz2⟩:=info_parts Tryz.info2;clear e r1;go_enter Tryz.func109,Tryz.ntmps109
 go_wp2_with fail
 go_quiet ((go_at_call 151;exact Calls.quiet_of_same ((hlen _ (r0.drewN _)).mono fun e w' ⟨h1,h2⟩=>⟨h1,h2.symm⟩)))
 go_wp2_with fail
 generalize hm:(lastl h).length=m at *;obtain⟨q,hq1,hq2⟩:∃ q,q+m≤n∧n≤q+m:=⟨n - m,by omega,by omega⟩;have HM:=Lib.hid hm;clear hm hlen;go_loopw [3,4] (fun v i wr=>∃ k:Nat,k≤m∧i=.int .i64 ((q:Int)+(k:Int))∧OwnI wr w.heap.size 2 .i64 v ((lastl h).take k)∧Below w.heap.size w wr) (fun _ i _=>16 - (intOf i).toNat)
 case atStart=>exact⟨0,by omega,congrArg (Value.int .i64) (by omega),OwnI.nil _ _ _ _,⟨rfl,rfl,rfl,Nat.le_refl _,fun _ _=>rfl⟩⟩
 case round=>
  obtain⟨k,hk,rfl,hown,hB⟩:=hrel;have d8:=arg_cell hB c8;by_cases hlt:k < m
  ·have hcell:=arg_cell hB (HC.out ((q+k) % 8) (by omega))
   have ht:l.getD ((q+k) % 8) 0=(lastl h).getD k 0:=by have:=HT.out k hlt;rwa [show n - m+k=q+k by omega] at this
   rw[ht] at hcell;have hs:(lastl h).take (k+1)=(lastl h).take k++[(lastl h).getD k 0]:=by
    have hlt':k < (lastl h).length:=by rw[HM.out];exact hlt
    rw[List.take_succ_eq_append_getElem hlt',List.getD_eq_getElem?_getD,List.getElem?_eq_getElem hlt'];rfl
   have hl':((lastl h).take k).length=k:=by rw[List.length_take,HM.out];omega
   have HS:=Lib.hid hs;have HL:=Lib.hid hl';clear ht hs hl';generalize (lastl h).getD k 0=x at *;have hkl:((lastl h).take k).length≤8:=by rw[HL.out];omega
   generalize hxs:(lastl h).take k=xs at *;have HX:=Lib.hid hxs;clear hxs;go_wp2_with (at_builtin;refine wpList_append_own_at _ rfl _ _ 198 rfl w.heap.size 2 i0 (.int .i64 0) 1 8 Tryz.underlying198 hi hz0 hz1 hz2 rfl (by decide) _ _ _ rfl (hown.alloc _) ⟨wr.heap.size,0,none⟩ 1 1 [.int .i64 x] rfl rfl (cell_one_new _ _ _) (ints_oneCell .i64 [x]) (by unfold maxLen;omega) (by omega) (by have:=hB.size;simp;omega) ?_;intro v' w1 hown' hgrow hnil hloc)
   have hkw:=Kept.of_grown hgrow;have hx':=OwnI.snoc hown';have hlt8:=hown.lt;have hBw:=(hB.alloc hB.size (.cells #[.int .i64 x] 2)).trans (hkw.below (B:=w.heap.size) (by simp;have:=hB.size;omega) (fun y hy e=>by have:=(hlt8 y e.symm).1;omega));clear hown' hgrow hnil hloc hkw hown hB d8 hcell;go_wp2_with fail
   go_roundw
   case rel=>exact⟨k+1,by omega,congrArg (Value.int .i64) (by omega),by rw[HS.out];exact hx',hBw⟩
   case measure=>simp[intOf];omega
  ·obtain rfl:k=m:=by omega
   have hs:(lastl h).take k=lastl h:=List.take_of_length_le (by rw[HM.out];exact Nat.le_refl _);rw[hs] at hown;clear hs;go_wp2_with fail
   go_ret
   exact⟨_,rfl,hown,hB⟩
end Go.Proofs.YtigeldkbfbcpmaaGreat.P05
namespace Go.Proofs.YtigeldkbfbcpmaaGreat
open Go.RowKit Go.Kpt RingPure
structure Win where
 how:Nat
 pre:Nat
 fin:Nat
def Win.val(x:Win):Value:=.agg #[.int .i64 x.how,.int .i64 x.pre,.int .i64 x.fin]
def fixedW:Win:=⟨0,0,10⟩
def aheadW(x:Nat):Win:=⟨2,x*85 / 100,max (fracUp x 115 100) (x*85 / 100+1)⟩
def win(h:Hst)(l:List Int):Win:=
 if h.inn+h.over < 4 then fixedW
 else if h.inn+h.over < 2*h.over then aheadW (castNext (lastl l)).toNat
 else if spread h=false then fixedW
 else ⟨1,cutFrom h 5 240 0*9 / 10,fracUp (cutFrom h 99 240 0+1) 11 10⟩
theorem fracUp_le(n up down:Nat)(h:0 < down):n*up≤fracUp n up down*down:=by
 unfold fracUp;generalize n*up=M;have h1:=Nat.div_add_mod M down;have h2:=Nat.mod_lt M h;have h3:(M / down+1)*down=down*(M / down)+down:=by rw[Nat.add_mul,Nat.one_mul,Nat.mul_comm]
 have h4:(M / down+0)*down=down*(M / down):=by rw[Nat.add_zero,Nat.mul_comm]
 split
 ·rw[h3];omega
 ·rw[h4];omega
theorem fracUp_bd(n up down:Nat)(h:0 < down):fracUp n up down≤n*up+1:=by
 unfold fracUp;have:=Nat.div_le_self (n*up) down;split <;> omega
theorem cut_mono_aux(h:Hst)(hb:∀ i,i < 240→0≤h.bins i)(h0:0≤h.inn):∀ n i,n+i=240→cutFrom h 5 n i≤cutFrom h 99 n i:=by
 intro n
 induction n with
 | zero=>intro i _;rw[cutFrom_zero,cutFrom_zero];exact Nat.le_refl _
 | succ n ih=>
  intro i hi;rw[cutFrom_succ,cutFrom_succ];have hge:∀ m j,i+1≤j→m+j=240→i≤cutFrom h 99 m j:=by
   intro m
   induction m with
   | zero=>intro j _ hj;rw[cutFrom_zero];omega
   | succ m ihm=>
    intro j h1 h2;rw[cutFrom_succ];split
    ·omega
    ·exact ihm (j+1) (by omega) (by omega)
  by_cases c:0 < bsum h.bins (i+1)∧5*h.inn≤bsum h.bins (i+1)*100
  ·rw[if_pos c]
   split
   ·exact Nat.le_refl _
   ·exact hge n (i+1) (Nat.le_refl _) (by omega)
  ·rw[if_neg c,if_neg (fun c'=>c ⟨c'.1,by omega⟩)]
   exact ih (i+1) (by omega)
theorem win_bd(h:Hst)(l:List Int)(n:Nat)(g:HGood h n):(win h l).pre < (win h l).fin∧(win h l).fin≤140000000000000:=by
 unfold win;split
 ·exact⟨by decide,by decide⟩
 ·split
  ·have:=castNext_bd (lastl l)
   have hx:(castNext (lastl l)).toNat≤1099511627776:=by omega
   generalize (castNext (lastl l)).toNat=x at *;have:=fracUp_bd x 115 100 (by omega);show x*85 / 100 < max (fracUp x 115 100) (x*85 / 100+1)∧max (fracUp x 115 100) (x*85 / 100+1)≤_;have:=Nat.div_le_self (x*85) 100;omega
  ·split
   ·exact⟨by decide,by decide⟩
   ·have h1:=cut_mono_aux h (fun i hi=>(g.bins i hi).1) g.inn 240 0 (by omega)
    have h2:=cutFrom_le h 99 240 0 (by omega);have h3:=fracUp_le (cutFrom h 99 240 0+1) 11 10 (by omega);have h4:=fracUp_bd (cutFrom h 99 240 0+1) 11 10 (by omega);show cutFrom h 5 240 0*9 / 10 < fracUp (cutFrom h 99 240 0+1) 11 10∧fracUp (cutFrom h 99 240 0+1) 11 10≤_;omega
attribute [irreducible] win
theorem set3_block{w:World}{b:Nat}{x y z a0 a1 a2:Value}{T:TypeId}(h:w.heap[b]?=some (.cells #[x,y,z] T (0,0))):
  (((w.setCell ⟨b,0,none⟩ a0).setCell ⟨b,1,none⟩ a1).setCell ⟨b,2,none⟩ a2).heap[b]?=some (.cells #[a0,a1,a2] T (0,0)):=
 set_same (i:=2) a2 (set_same (i:=1) a1 (set_same (i:=0) a0 h))
theorem set3_kept(w:World)(b:Nat)(a0 a1 a2:Value):Kept (fun y=>y=b) w (((w.setCell ⟨b,0,none⟩ a0).setCell ⟨b,1,none⟩ a1).setCell ⟨b,2,none⟩ a2):=
 Kept.hset (Kept.hset (Kept.hset (Kept.refl _ w) 0 a0) 1 a1) 2 a2
theorem fixed_any(w:World):Calls Tryz.prog 106 #[] w fun e w'=>e=.returned fixedW.val∧Below w.heap.size w w':=by
 go_enter Tryz.func106,Tryz.ntmps106
 go_wp2_with fail
 refine bodyPost_ret (by simp[results,Tryz.results106,go_sem];try rfl) rfl ?_;exact⟨rfl,by go_grown⟩
theorem ahead_any(x:Nat)(hx:x≤1099511627776)(w:World):Calls Tryz.prog 107 #[.int .i64 x] w fun e w'=>e=.returned (aheadW x).val∧Below w.heap.size w w':=by
 have hf:=fun W=>frac_any x 85 100 (by omega) (by omega) (by omega) (by omega) (by omega) W;have hu:=fun W=>fracUp_any x 115 100 (by omega) (by omega) (by omega) (by omega) (by omega) W;have hub:=fracUp_bd x 115 100 (by omega);have hfb:=Nat.div_le_self (x*85) 100;unfold aheadW;generalize fracUp x 115 100=U at *;generalize x*85 / 100=F at *;have hmx:((max U (F+1):Nat):Int)=max (U:Int) ((F:Int)+1):=by omega
 obtain⟨M,hM⟩:∃ M,max U (F+1)=M:=⟨_,rfl⟩;have HM:=Lib.hid hM;rw[hM] at hmx ⊢;clear hM;obtain⟨rb,hrb⟩:∃ rb,w.heap.size=rb:=⟨_,rfl⟩;have hb0:(w.alloc (.cells #[.int .i64 0,.int .i64 0,.int .i64 0] 59)).heap[rb]?=some (.cells #[.int .i64 0,.int .i64 0,.int .i64 0] 59 (0,0)):=by rw[← hrb];exact heap_alloc_new _ _
 have hB0:Below rb w (w.alloc (.cells #[.int .i64 0,.int .i64 0,.int .i64 0] 59)):=by rw[← hrb];exact(Below.refl _ _).alloc (Nat.le_refl _) _
 have HX:=Lib.hid hrb;go_enter Tryz.func107,Tryz.ntmps107
 go_wp2_with fail
 try simp only[hrb]
 obtain⟨w0,hw0⟩:∃ w0,w.alloc (.cells #[.int .i64 0,.int .i64 0,.int .i64 0] 59)=w0:=⟨_,rfl⟩;rw[hw0] at hb0 hB0
 try simp only[hw0]
 clear hw0 hrb;refine(hf _).mono ?_;rintro e w1 ⟨rfl,k1⟩;have hb1:=(k1.block rb (lt_of hb0)).trans hb0;have hB1:=hB0.trans (k1.mono (by have:=lt_of hb0;omega));clear hf hb0 hB0 k1;go_wp2_with fail
 refine(hu _).mono ?_;rintro e w2 ⟨rfl,k2⟩;have hb2:=(k2.block rb (lt_of hb1)).trans hb1;have hB2:=hB1.trans (k2.mono (by have:=lt_of hb1;omega));clear hu hb1 hB1 k2;have y0:w2.cell? ⟨rb,0,none⟩=some (.int .i64 0):=cell_of hb2;have y1:w2.cell? ⟨rb,1,none⟩=some (.int .i64 0):=cell_of hb2;have y2:w2.cell? ⟨rb,2,none⟩=some (.int .i64 0):=cell_of hb2;have f0:∀ j,w2.frozen? ⟨rb,j,none⟩=false:=fun j=>frozen_of hb2;rcases Nat.lt_or_ge U (F+1) with hc|hc
 case' inl=>have hmm:max (U:Int) ((F:Int)+1)=(F:Int)+1:=by omega
 case' inr=>have hmm:max (U:Int) ((F:Int)+1)=(U:Int):=by omega
 all_goals
  rw[hmm] at hmx;have hb3:=set3_block (a0:=.int .i64 2) (a1:=.int .i64 F) (a2:=.int .i64 M) hb2;have hB3:=hB2.trans ((set3_kept w2 rb (.int .i64 2) (.int .i64 F) (.int .i64 M)).below (B:=rb) (by have:=lt_of hb2;omega) (fun x hx hh=>by omega));rw[hmx] at hb3 hB3;go_wp2_with fail
  generalize (((w2.setCell ⟨rb,0,none⟩ _).setCell ⟨rb,1,none⟩ _).setCell ⟨rb,2,none⟩ _)=W3 at *;have z0:=cell_of (j:=0) hb3;have z1:=cell_of (j:=1) hb3;have z2:=cell_of (j:=2) hb3;rw[← hmx] at z2;refine bodyPost_ret (by simp[results,Tryz.results107,go_sem,z0,z1,z2];try rfl) rfl ?_;exact⟨rfl,by rw[HX.out];exact hB3⟩
theorem list_row(b:Nat)(h:List Int)(w:World)(r:P05.Rg w b h):Calls Tryz.prog 109 #[.pointer (some ⟨b,0,none⟩)] w fun e w'=>∃ v,e=.returned v∧OwnI w' w.heap.size 2 .i64 v (lastl h)∧Below w.heap.size w w':=P05.list_any b h w r
theorem of_any(hb rb0:Nat)(h:Hst)(n:Nat)(g:HGood h n)(hn:n≤4096)(l:List Int)(w:World)(q:Hh w hb h)(r:P05.Rg w rb0 l):
  Calls Tryz.prog 59 #[.pointer (some ⟨hb,0,none⟩),.pointer (some ⟨rb0,0,none⟩)] w fun e w'=>e=.returned (win h l).val∧Below w.heap.size w w':=by
 have gi:=g.inn;have go_:=g.over;have gs:=g.sum;obtain⟨x,hx⟩:∃ x,win h l=x:=⟨_,rfl⟩;rw[hx];unfold win at hx;have cin:=fun W (hW:Hh W hb h)=>hin_any hb h W hW;have cov:=fun W (hW:Hh W hb h)=>hover_any hb h W hW;have cfx:∀ W,Calls Tryz.prog 106 #[] W fun e w'=>e=.returned (.agg #[.int .i64 0,.int .i64 0,.int .i64 10])∧Below W.heap.size W w':=fun W=>fixed_any W;have csp:=fun W (hW:Hh W hb h)=>spread_any hb h n g hn W hW;have cls:=fun W (hW:P05.Rg W rb0 l)=>list_row rb0 l W hW;have hll:(lastl l).length≤8:=by rw[lastl_length];split <;> omega
 have cnx:=fun b v W (hW:OwnI W b 2 .i64 v (lastl l))=>next_any b v (lastl l) hll W hW;have hcn:=castNext_bd (lastl l);obtain⟨c,hc⟩:∃ c:Nat,castNext (lastl l)=c:=⟨(castNext (lastl l)).toNat,by omega⟩;rw[hc] at hx hcn cnx;rw[Int.toNat_natCast] at hx;have cah:=fun W=>ahead_any c (by omega) W;have hcut:=fun (h0:0 < h.inn)=>And.intro (fun W (hW:Hh W hb h)=>cut_any hb h n g hn 5 (.inl rfl) W hW h0) (fun W (hW:Hh W hb h)=>cut_any hb h n g hn 99 (.inr rfl) W hW h0);have hb1:=cutFrom_le h 5 240 0 (by omega);have hb2:=cutFrom_le h 99 240 0 (by omega);obtain⟨k1,hk1⟩:∃ k,cutFrom h ((5:Nat):Int) 240 0=k:=⟨_,rfl⟩;obtain⟨k2,hk2⟩:∃ k,cutFrom h ((99:Nat):Int) 240 0=k:=⟨_,rfl⟩;have hk1':cutFrom h 5 240 0=k1:=hk1;have hk2':cutFrom h 99 240 0=k2:=hk2;rw[hk1'] at hx hb1;rw[hk2'] at hx hb2;rw[hk1,hk2] at hcut;have hsp:spread h=true→0 < h.inn:=fun hs=>by
  unfold spread at hs;simp at hs;exact hs.1
 obtain⟨rb,hrb⟩:∃ rb,w.heap.size=rb:=⟨_,rfl⟩;have b0:(w.alloc (.cells #[.int .i64 0,.int .i64 0,.int .i64 0] 59)).heap[rb]?=some (.cells #[.int .i64 0,.int .i64 0,.int .i64 0] 59 (0,0)):=by rw[← hrb];exact heap_alloc_new _ _
 have B0:Below rb w (w.alloc (.cells #[.int .i64 0,.int .i64 0,.int .i64 0] 59)):=by rw[← hrb];exact(Below.refl _ _).alloc (Nat.le_refl _) _
 have q0:Hh (w.alloc (.cells #[.int .i64 0,.int .i64 0,.int .i64 0] 59)) hb h:=q.kept (F:=fun _=>False) ((Kept.refl _ w).alloc _) (fun h=>h);have r0:P05.Rg (w.alloc (.cells #[.int .i64 0,.int .i64 0,.int .i64 0] 59)) rb0 l:=r.kept (F:=fun _=>False) ((Kept.refl _ w).alloc _) (fun h=>h);have HX:=Lib.hid hrb;clear q r;have hways:(h.inn+h.over < 4∧x=fixedW)∨(4≤h.inn+h.over∧h.inn+h.over < 2*h.over∧x=aheadW c)∨(4≤h.inn+h.over∧2*h.over≤h.inn+h.over∧spread h=false∧x=fixedW)∨(4≤h.inn+h.over∧2*h.over≤h.inn+h.over∧spread h=true∧x=⟨1,k1*9 / 10,fracUp (k2+1) 11 10⟩):=by
  rw[← hx];by_cases a1:h.inn+h.over < 4
  ·left;exact⟨a1,if_pos a1⟩
  ·rw[if_neg a1]
   by_cases a2:h.inn+h.over < 2*h.over
   ·right;left;exact⟨by omega,a2,if_pos a2⟩
   ·rw[if_neg a2]
    cases a3:spread h
    ·right;right;left;exact⟨by omega,by omega,rfl,if_pos rfl⟩
    ·right;right;right;exact⟨by omega,by omega,rfl,if_neg (by simp)⟩
 have hbound:h.inn+h.over≤4096:=by omega
 clear hx gs g;have hIn:=h.inn;generalize h.inn=I at *;generalize h.over=O at *;rcases hways with ⟨a1,rfl⟩|⟨a1,a2,rfl⟩|⟨a1,a2,a3,rfl⟩|⟨a1,a2,a3,rfl⟩
 ·have c1:I+O < 4:=a1
  go_enter Tryz.func59,Tryz.ntmps59
  go_wp2_with fail
  try simp only[hrb]
  obtain⟨w0,hw0⟩:∃ w0,w.alloc (.cells #[.int .i64 0,.int .i64 0,.int .i64 0] 59)=w0:=⟨_,rfl⟩;rw[hw0] at b0 B0 q0 r0
  try simp only[hw0]
  clear hw0 hrb;refine(cin _ q0).mono ?_;rintro e v0 ⟨rfl,rfl⟩;go_wp2_with fail
  refine(cov _ q0).mono ?_;rintro e v0' ⟨rfl,rfl⟩;go_wp2_with fail
  refine(cfx _).mono ?_;rintro e v1 ⟨rfl,k1⟩;have q1:=q0.kept (Kept.of_below (F:=fun _=>False) k1) (fun h=>h);have r1:=r0.kept (Kept.of_below (F:=fun _=>False) k1) (fun h=>h);have b1:=(k1.block rb (lt_of b0)).trans b0;have B1:=B0.trans (k1.mono (by have:=lt_of b0;omega));clear q0 r0 b0 B0 k1;have y0:v1.cell? ⟨rb,0,none⟩=some (.int .i64 0):=cell_of b1;have y1:v1.cell? ⟨rb,1,none⟩=some (.int .i64 0):=cell_of b1;have y2:v1.cell? ⟨rb,2,none⟩=some (.int .i64 0):=cell_of b1;have f0:∀ j,v1.frozen? ⟨rb,j,none⟩=false:=fun j=>frozen_of b1;have hb3:=set3_block (a0:=.int .i64 0) (a1:=.int .i64 0) (a2:=.int .i64 10) b1;have hB3:=B1.trans ((set3_kept v1 rb (.int .i64 0) (.int .i64 0) (.int .i64 10)).below (B:=rb) (by have:=lt_of b1;omega) (fun x hx hh=>by omega));go_wp2_with fail
  generalize (((v1.setCell ⟨rb,0,none⟩ _).setCell ⟨rb,1,none⟩ _).setCell ⟨rb,2,none⟩ _)=W3 at *;have z0:=cell_of (j:=0) hb3;have z1:=cell_of (j:=1) hb3;have z2:=cell_of (j:=2) hb3;refine bodyPost_ret (by simp[results,Tryz.results59,go_sem,z0,z1,z2];try rfl) rfl ?_;exact⟨rfl,by rw[HX.out];exact hB3⟩
 ·have c1:¬ I+O < 4:=by omega
  unfold aheadW at cah ⊢;generalize c*85 / 100=F at *;generalize max (fracUp c 115 100) (F+1)=M at *;have cah:∀ W,Calls Tryz.prog 107 #[.int .i64 c] W fun e w'=>e=.returned (.agg #[.int .i64 2,.int .i64 F,.int .i64 M])∧Below W.heap.size W w':=cah;go_enter Tryz.func59,Tryz.ntmps59
  go_wp2_with fail
  try simp only[hrb]
  obtain⟨w0,hw0⟩:∃ w0,w.alloc (.cells #[.int .i64 0,.int .i64 0,.int .i64 0] 59)=w0:=⟨_,rfl⟩;rw[hw0] at b0 B0 q0 r0
  try simp only[hw0]
  clear hw0 hrb;refine(cin _ q0).mono ?_;rintro e v0 ⟨rfl,rfl⟩;go_wp2_with fail
  refine(cov _ q0).mono ?_;rintro e v0' ⟨rfl,rfl⟩;go_wp2_with fail
  refine(cov _ q0).mono ?_;rintro e vs ⟨rfl,rfl⟩;go_wp2_with fail
  refine(cls _ r0).mono ?_;rintro e v1 ⟨lv,rfl,hown,k1'⟩;have b1:=(k1'.block rb (lt_of b0)).trans b0;have B1:=B0.trans (k1'.mono (by have:=lt_of b0;omega));clear q0 r0 b0 B0 k1';go_wp2_with fail
  refine(cnx _ _ _ hown).mono ?_;rintro e v2 ⟨rfl,k1'⟩;have b2:=(k1'.block rb (lt_of b1)).trans b1;have B2:=B1.trans (k1'.mono (by have:=lt_of b1;omega));clear hown b1 B1 k1';go_wp2_with fail
  refine(cah _).mono ?_;rintro e v3 ⟨rfl,k1'⟩;have b3:=(k1'.block rb (lt_of b2)).trans b2;have B3:=B2.trans (k1'.mono (by have:=lt_of b2;omega));clear b2 B2 k1';have y0:v3.cell? ⟨rb,0,none⟩=some (.int .i64 0):=cell_of b3;have y1:v3.cell? ⟨rb,1,none⟩=some (.int .i64 0):=cell_of b3;have y2:v3.cell? ⟨rb,2,none⟩=some (.int .i64 0):=cell_of b3;have f0:∀ j,v3.frozen? ⟨rb,j,none⟩=false:=fun j=>frozen_of b3;have hb3:=set3_block (a0:=.int .i64 2) (a1:=.int .i64 F) (a2:=.int .i64 M) b3;have hB3:=B3.trans ((set3_kept v3 rb (.int .i64 2) (.int .i64 F) (.int .i64 M)).below (B:=rb) (by have:=lt_of b3;omega) (fun x hx hh=>by omega));go_wp2_with fail
  generalize (((v3.setCell ⟨rb,0,none⟩ _).setCell ⟨rb,1,none⟩ _).setCell ⟨rb,2,none⟩ _)=W3 at *;have z0:=cell_of (j:=0) hb3;have z1:=cell_of (j:=1) hb3;have z2:=cell_of (j:=2) hb3;refine bodyPost_ret (by simp[results,Tryz.results59,go_sem,z0,z1,z2];try rfl) rfl ?_;exact⟨rfl,by rw[HX.out];exact hB3⟩
 ·have c1:¬ I+O < 4:=by omega
  have c2:¬ I+O < 2*O:=by omega
  rw[a3] at csp;go_enter Tryz.func59,Tryz.ntmps59
  go_wp2_with fail
  try simp only[hrb]
  obtain⟨w0,hw0⟩:∃ w0,w.alloc (.cells #[.int .i64 0,.int .i64 0,.int .i64 0] 59)=w0:=⟨_,rfl⟩;rw[hw0] at b0 B0 q0 r0
  try simp only[hw0]
  clear hw0 hrb;refine(cin _ q0).mono ?_;rintro e v0 ⟨rfl,rfl⟩;go_wp2_with fail
  refine(cov _ q0).mono ?_;rintro e v0' ⟨rfl,rfl⟩;go_wp2_with fail
  refine(cov _ q0).mono ?_;rintro e vs ⟨rfl,rfl⟩;go_wp2_with fail
  refine(csp _ q0).mono ?_;rintro e v2 ⟨rfl,k2⟩;have q2:=q0.kept (Kept.of_below (F:=fun _=>False) k2) (fun h=>h);have r2:=r0.kept (Kept.of_below (F:=fun _=>False) k2) (fun h=>h);have b2:=(k2.block rb (lt_of b0)).trans b0;have B2:=B0.trans (k2.mono (by have:=lt_of b0;omega));clear q0 r0 b0 B0 k2;go_wp2_with fail
  refine(cfx _).mono ?_;rintro e v3 ⟨rfl,k3⟩;have q3:=q2.kept (Kept.of_below (F:=fun _=>False) k3) (fun h=>h);have r3:=r2.kept (Kept.of_below (F:=fun _=>False) k3) (fun h=>h);have b3:=(k3.block rb (lt_of b2)).trans b2;have B3:=B2.trans (k3.mono (by have:=lt_of b2;omega));clear q2 r2 b2 B2 k3;have y0:v3.cell? ⟨rb,0,none⟩=some (.int .i64 0):=cell_of b3;have y1:v3.cell? ⟨rb,1,none⟩=some (.int .i64 0):=cell_of b3;have y2:v3.cell? ⟨rb,2,none⟩=some (.int .i64 0):=cell_of b3;have f0:∀ j,v3.frozen? ⟨rb,j,none⟩=false:=fun j=>frozen_of b3;have hb3:=set3_block (a0:=.int .i64 0) (a1:=.int .i64 0) (a2:=.int .i64 10) b3;have hB3:=B3.trans ((set3_kept v3 rb (.int .i64 0) (.int .i64 0) (.int .i64 10)).below (B:=rb) (by have:=lt_of b3;omega) (fun x hx hh=>by omega));go_wp2_with fail
  generalize (((v3.setCell ⟨rb,0,none⟩ _).setCell ⟨rb,1,none⟩ _).setCell ⟨rb,2,none⟩ _)=W3 at *;have z0:=cell_of (j:=0) hb3;have z1:=cell_of (j:=1) hb3;have z2:=cell_of (j:=2) hb3;refine bodyPost_ret (by simp[results,Tryz.results59,go_sem,z0,z1,z2];try rfl) rfl ?_;exact⟨rfl,by rw[HX.out];exact hB3⟩
 ·have c1:¬ I+O < 4:=by omega
  have c2:¬ I+O < 2*O:=by omega
  rw[a3] at csp;obtain⟨cc1,cc2⟩:=hcut (hsp a3);have cf1:=fun W=>frac_any k1 9 10 (by omega) (by omega) (by omega) (by omega) (by omega) W;have cf2:=fun W=>fracUp_any (k2+1) 11 10 (by omega) (by omega) (by omega) (by omega) (by omega) W;generalize k1*9 / 10=F at *;generalize fracUp (k2+1) 11 10=M at *;go_enter Tryz.func59,Tryz.ntmps59
  go_wp2_with fail
  try simp only[hrb]
  obtain⟨w0,hw0⟩:∃ w0,w.alloc (.cells #[.int .i64 0,.int .i64 0,.int .i64 0] 59)=w0:=⟨_,rfl⟩;rw[hw0] at b0 B0 q0 r0
  try simp only[hw0]
  clear hw0 hrb;refine(cin _ q0).mono ?_;rintro e v0 ⟨rfl,rfl⟩;go_wp2_with fail
  refine(cov _ q0).mono ?_;rintro e v0' ⟨rfl,rfl⟩;go_wp2_with fail
  refine(cov _ q0).mono ?_;rintro e vs ⟨rfl,rfl⟩;go_wp2_with fail
  refine(csp _ q0).mono ?_;rintro e v4 ⟨rfl,k4⟩;have q4:=q0.kept (Kept.of_below (F:=fun _=>False) k4) (fun h=>h);have r4:=r0.kept (Kept.of_below (F:=fun _=>False) k4) (fun h=>h);have b4:=(k4.block rb (lt_of b0)).trans b0;have B4:=B0.trans (k4.mono (by have:=lt_of b0;omega));clear q0 r0 b0 B0 k4;go_wp2_with fail
  refine(cc1 _ q4).mono ?_;rintro e v5 ⟨rfl,k5⟩;have q5:=q4.kept (Kept.of_below (F:=fun _=>False) k5) (fun h=>h);have r5:=r4.kept (Kept.of_below (F:=fun _=>False) k5) (fun h=>h);have b5:=(k5.block rb (lt_of b4)).trans b4;have B5:=B4.trans (k5.mono (by have:=lt_of b4;omega));clear q4 r4 b4 B4 k5;go_wp2_with fail
  refine(cc2 _ q5).mono ?_;rintro e v6 ⟨rfl,k6⟩;have q6:=q5.kept (Kept.of_below (F:=fun _=>False) k6) (fun h=>h);have r6:=r5.kept (Kept.of_below (F:=fun _=>False) k6) (fun h=>h);have b6:=(k6.block rb (lt_of b5)).trans b5;have B6:=B5.trans (k6.mono (by have:=lt_of b5;omega));clear q5 r5 b5 B5 k6;go_wp2_with fail
  refine(cf1 _).mono ?_;rintro e v7 ⟨rfl,k7⟩;have q7:=q6.kept (Kept.of_below (F:=fun _=>False) k7) (fun h=>h);have r7:=r6.kept (Kept.of_below (F:=fun _=>False) k7) (fun h=>h);have b7:=(k7.block rb (lt_of b6)).trans b6;have B7:=B6.trans (k7.mono (by have:=lt_of b6;omega));clear q6 r6 b6 B6 k7;go_wp2_with fail
  refine(cf2 _).mono ?_;rintro e v8 ⟨rfl,k8⟩;have q8:=q7.kept (Kept.of_below (F:=fun _=>False) k8) (fun h=>h);have r8:=r7.kept (Kept.of_below (F:=fun _=>False) k8) (fun h=>h);have b8:=(k8.block rb (lt_of b7)).trans b7;have B8:=B7.trans (k8.mono (by have:=lt_of b7;omega));clear q7 r7 b7 B7 k8;have y0:v8.cell? ⟨rb,0,none⟩=some (.int .i64 0):=cell_of b8;have y1:v8.cell? ⟨rb,1,none⟩=some (.int .i64 0):=cell_of b8;have y2:v8.cell? ⟨rb,2,none⟩=some (.int .i64 0):=cell_of b8;have f0:∀ j,v8.frozen? ⟨rb,j,none⟩=false:=fun j=>frozen_of b8;have hb3:=set3_block (a0:=.int .i64 1) (a1:=.int .i64 F) (a2:=.int .i64 M) b8;have hB3:=B8.trans ((set3_kept v8 rb (.int .i64 1) (.int .i64 F) (.int .i64 M)).below (B:=rb) (by have:=lt_of b8;omega) (fun x hx hh=>by omega));go_wp2_with fail
  generalize (((v8.setCell ⟨rb,0,none⟩ _).setCell ⟨rb,1,none⟩ _).setCell ⟨rb,2,none⟩ _)=W3 at *;have z0:=cell_of (j:=0) hb3;have z1:=cell_of (j:=1) hb3;have z2:=cell_of (j:=2) hb3;refine bodyPost_ret (by simp[results,Tryz.results59,go_sem,z0,z1,z2];try rfl) rfl ?_;exact⟨rfl,by rw[HX.out];exact hB3⟩
end Go.Proofs.YtigeldkbfbcpmaaGreat
