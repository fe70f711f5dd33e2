/- A part of the proof: what the functions of the program come to, and what holds at all times. -/
import Derived.Test.YtigeldkbfbcpmaaGreatRows
import Derived.Laws.BitsAllLaws
import Derived.Laws.BytesArg
import Derived.BigRegion
import Derived.BigQuiet
import Derived.Handy
import Derived.Laws.StructEq
import Derived.Test.YtigeldkbfbcpmaaGreatM01
import Derived.Test.YtigeldkbfbcpmaaGreatM03
import Derived.Test.YtigeldkbfbcpmaaGreatM09
set_option linter.unusedVariables false
set_option linter.unusedSectionVars false
set_option linter.unusedSimpArgs false
set_option maxRecDepth 100000
set_option maxHeartbeats 8000000
namespace Go.Proofs.YtigeldkbfbcpmaaGreat.P16
open Go.RowKit Go.Kpt WirePure
theorem Tryz.info5:(Tryz.prog.info? 5).map (fun i=>(i.zero,i.size,i.bytes))=some (some (.int .u8 0),1,1):=by kernel_rfl
def ib(xs:List Nat):List Int:=xs.map Int.ofNat
theorem ib_length(xs:List Nat):(ib xs).length=xs.length:=by simp[ib]
theorem ib_append(xs ys:List Nat):ib (xs++ys)=ib xs++ib ys:=by simp[ib]
theorem or128:∀ x,x < 256→x ||| 128=x % 128+128:=by decide +kernel
theorem byte_hi{m:Nat}:bits .or .u8 ((m:Int) % 256) 128=((m % 128+128:Nat):Int):=by
 have:=u8_or_nat (m % 256) 128 (by omega) (by omega);rw[or128 _ (by omega)] at this;rw[show m % 128=m % 256 % 128 by omega];exact this
theorem put_any(a:Option Addr)(cap:Nat)(zs:List Nat)(n:Nat)(hn:n < 18446744073709551616)(p:Nat→Prop)(w:World)(hsl:Sl .u8 w p a (ib zs))(hz:zs.length≤10000):
  Calls Tryz.prog 38 #[.slice a zs.length cap,.int .u64 n] w fun e w'=>∃ v,e=.returned v∧OwnI w' w.heap.size 5 .u8 v (ib (zs++enc n))∧Below w.heap.size w w':=by
 obtain⟨i0,hi,hz0,hz1,hz2⟩:=info_parts Tryz.info5;have hnil:=OwnI.nil w w.heap.size 5 .u8;have hten:=enc_len_ten hn;go_enter Tryz.func38,Tryz.ntmps38
 go_wp2_with (at_builtin;refine wpList_append_ints rfl _ _ _ rfl w.heap.size 5 .u8 i0 (.int .u8 0) 1 Tryz.underlying46 hi hz0 hz1 hz2 rfl _ _ rfl hnil a cap (ib zs) p (by rw[ib_length];rfl) hsl (by rw[ib_length];unfold maxLen;simp;omega) (by rw[ib_length];simp;omega) (Nat.le_refl _) ?_;intro v w1 hown hgrow hloc)
 have hB1:Below w.heap.size w w1:=(Kept.of_grown hgrow).below (Nat.le_refl _) (fun x _ h=>by cases h);have hown1:OwnI w1 w.heap.size 5 .u8 v (ib zs):=hown;clear hgrow hloc hown hsl hnil;go_loopw [5,1] (fun x y wr=>∃ (xs:List Nat) (m:Nat),y=.int .u64 m∧m < 18446744073709551616∧OwnI wr w.heap.size 5 .u8 x (ib xs)∧xs++enc m=zs++enc n∧Below w.heap.size w wr) (fun _ y _=>(intOf y).toNat)
 case atStart=>exact⟨zs,n,rfl,hn,hown1,rfl,hB1⟩
 case round=>
  clear hown1 hB1;obtain⟨xs,m,rfl,hm,hown,heq,hB⟩:=hrel;have hlen:xs.length+(enc m).length=zs.length+(enc n).length:=by simpa using congrArg List.length heq
  have hb:=byte_hi (m:=m);have hbase:=hB.size;by_cases h128:128≤m
  ·have c1:(128:Int)≤(m:Int):=by omega
   have hd:(m:Int) / 128=((m / 128:Nat):Int):=by rw[Int.natCast_ediv];rfl
   have hdm:m / 128 < m:=by omega
   rw[enc_big (n:=m) (by omega)] at heq;rw[← List.singleton_append,← List.append_assoc] at heq;have hpos:=enc_len_pos (m / 128);have hlen:(xs.length+1)+(enc (m / 128)).length=zs.length+(enc n).length:=by have:=congrArg List.length heq;simp at this;omega
   generalize m % 128+128=c at *;generalize m / 128=q at *;go_wp2_with (at_builtin;refine wpList_append_ints rfl _ _ _ rfl w.heap.size 5 .u8 i0 (.int .u8 0) 1 Tryz.underlying46 hi hz0 hz1 hz2 rfl _ _ rfl (hown.alloc _) (some ⟨wr.heap.size,0,none⟩) 1 [(c:Int)] _ rfl (Sl.one _ _ _ _) (by rw[ib_length];unfold maxLen;simp;omega) (by rw[ib_length];simp;omega) (by simp;omega) ?_;intro v2 w2 hown2 hgrow hloc)
   have hB2:Below w.heap.size w w2:=(hB.alloc hbase _).trans ((Kept.of_grown hgrow).below (by simp;omega) (fun x hx h=>by have:=hown.lt x h.symm;omega));have hown3:OwnI w2 w.heap.size 5 .u8 v2 (ib (xs++[c])):=by rw[ib_append];exact hown2
   clear hgrow hloc hown2 hown;go_wp2_with fail
   go_roundw
   case rel=>exact⟨xs++[c],q,rfl,by omega,hown3,heq,hB2⟩
   case measure=>simp[intOf];omega
  ·have c1:¬ (128:Int)≤(m:Int):=by omega
   have hd:(m:Int) % 256=(m:Int):=by omega
   rw[enc_small (n:=m) (by omega)] at heq hlen;go_wp2_with (at_builtin;refine wpList_append_ints rfl _ _ _ rfl w.heap.size 5 .u8 i0 (.int .u8 0) 1 Tryz.underlying46 hi hz0 hz1 hz2 rfl _ _ rfl (hown.alloc _) (some ⟨wr.heap.size,0,none⟩) 1 [(m:Int)] _ rfl (Sl.one _ _ _ _) (by rw[ib_length];unfold maxLen;simp;omega) (by rw[ib_length];simp;omega) (by simp;omega) ?_;intro v2 w2 hown2 hgrow hloc)
   have hB2:Below w.heap.size w w2:=(hB.alloc hbase _).trans ((Kept.of_grown hgrow).below (by simp;omega) (fun x hx h=>by have:=hown.lt x h.symm;omega));have hown3:OwnI w2 w.heap.size 5 .u8 v2 (ib (zs++enc n)):=by rw[← heq,ib_append];exact hown2
   clear hgrow hloc hown2 hown;go_wp2_with fail
   go_ret
   exact⟨_,rfl,hown3,hB2⟩
def Rd(w:World)(r:Nat)(a:Option Addr)(len cap at_ e:Nat):Prop:=w.heap[r]?=some (.cells #[.slice a len cap,.int .i64 at_,.int .i64 e] 139 (0,0))
theorem Rd.kept{F:Nat→Prop}{w w':World}{r:Nat}{a:Option Addr}{len cap at_ e:Nat}(h:Rd w r a len cap at_ e)(k:Kept F w w')(hF:¬ F r):Rd w' r a len cap at_ e:=(k.block r (lt_of h) hF).trans h
theorem read_any(a:Option Addr)(len cap:Nat)(w:World):Calls Tryz.prog 33 #[.slice a len cap] w fun e w'=>e=.returned (.pointer (some ⟨w.heap.size,0,none⟩))∧Rd w' w.heap.size a len cap 0 0∧Below w.heap.size w w'∧w'.heap.size=w.heap.size+1:=by
 go_enter Tryz.func33,Tryz.ntmps33
 go_wp2_with fail
 go_ret
 exact⟨rfl,heap_alloc_new _ _,by go_grown,by simp⟩
theorem err_any(r:Nat)(a:Option Addr)(len cap at_ e:Nat)(w:World)(h:Rd w r a len cap at_ e):Calls Tryz.prog 63 #[.pointer (some ⟨r,0,none⟩)] w fun x w'=>x=.returned (.int .i64 e)∧w=w':=by
 have c2:w.cell? ⟨r,2,none⟩=some (.int .i64 e):=cell_of h;go_enter Tryz.func63,Tryz.ntmps63
 go_wp2_with fail
 go_ret
 exact⟨rfl,rfl⟩
theorem at_any(r:Nat)(a:Option Addr)(len cap at_ e:Nat)(w:World)(h:Rd w r a len cap at_ e):Calls Tryz.prog 35 #[.pointer (some ⟨r,0,none⟩)] w fun x w'=>x=.returned (.int .i64 at_)∧w=w':=by
 have c2:w.cell? ⟨r,1,none⟩=some (.int .i64 at_):=cell_of h;go_enter Tryz.func35,Tryz.ntmps35
 go_wp2_with fail
 go_ret
 exact⟨rfl,rfl⟩
theorem fail_any(r:Nat)(a:Option Addr)(len cap at_ e f:Nat)(w:World)(h:Rd w r a len cap at_ e):Calls Tryz.prog 117 #[.pointer (some ⟨r,0,none⟩),.int .i64 f] w fun x w'=>x=.returned (.int .u64 0)∧Rd w' r a len cap at_ f∧Kept (fun x=>x=r) w w':=by
 have f2:w.frozen? ⟨r,2,none⟩=false:=frozen_of h;have c2:w.cell? ⟨r,2,none⟩=some (.int .i64 e):=cell_of h;go_enter Tryz.func117,Tryz.ntmps117
 go_wp2_with fail
 go_ret
 exact⟨rfl,set_same _ h,Kept.set1 _ _ _ _⟩
def res(D:Option (Nat×Nat))(most at_:Nat):Nat×Nat×Nat:=match D with
 | none=>(0,at_,5)
 | some (n,k)=>if n≤most then (n,at_+k,0) else (0,at_,1)
theorem Sl.drop{k:IntKind}{w:World}{p:Nat→Prop}{a:Option Addr}{zs:List Int}(h:Sl k w p a zs)(n:Nat):Sl k w p (Option.map (fun x=>x.add n) a) (zs.drop n):=by
 intro i hi;have hi':n+i < zs.length:=by simp at hi;omega
 obtain⟨b,off,ha,hb,hc⟩:=h (n+i) hi';refine⟨b,off+n,by rw[ha];simp[add_form],hb,?_⟩;rw[Nat.add_assoc,hc];simp[List.getD_eq_getElem?_getD,List.getElem?_drop]
theorem ib_drop(zs:List Nat)(n:Nat):ib (zs.drop n)=(ib zs).drop n:=by simp[ib,List.map_drop]
theorem ib_getD(zs:List Nat)(i:Nat):(ib zs).getD i 0=((zs.getD i 0:Nat):Int):=by
 simp only[ib,List.getD_eq_getElem?_getD,List.getElem?_map];cases zs[i]? <;> rfl
theorem dec_cons(i c:Nat)(l:List Nat):dec i (c :: l)=if (i=9∧1 < c)∨(0 < i∧c=0) then none
  else if 128≤c then (dec (i+1) l).map fun x=>(c - 128+128*x.1,x.2+1) else some (c,1):=rfl
theorem and127{c:Nat}(h:c < 256):bits .and .u8 (c:Int) 127=((c % 128:Nat):Int):=by
 have:=u8_and_nat c 127 h (by omega);rw[nat_mask7] at this;exact this
theorem or_shl{n m k:Nat}(hn:n < 2 ^ (7*k))(hk:n+m*2 ^ (7*k) < 18446744073709551616):bits .or .u64 (n:Int) ((m*2 ^ (7*k):Nat):Int)=((n+m*2 ^ (7*k):Nat):Int):=by
 rw[u64_or_nat n (m*2 ^ (7*k)) (by omega) (by omega),Nat.or_comm,nat_join (7*k) (m*2 ^ (7*k)) n (Nat.mul_mod_left _ _) hn,Nat.add_comm]
theorem shl_small{m k:Nat}(hk:m*2 ^ (7*k) < 18446744073709551616):IntKind.u64.wrap ((m:Int)*2 ^ (7*k))=((m*2 ^ (7*k):Nat):Int):=by
 have h:(m:Int)*2 ^ (7*k)=((m*2 ^ (7*k):Nat):Int):=by push_cast;rfl
 rw[h];exact IntWalk.u64_in _ ⟨by omega,by omega⟩
theorem num_some(r:Nat)(a:Option Addr)(cap at_ most:Nat)(zs:List Nat)(p:Nat→Prop)(w:World)(h:Rd w r a zs.length cap at_ 0)(hsl:Sl .u8 w p a (ib zs))(hp:∀ x,p x→x≠r)(hat:at_≤zs.length)(hcap:zs.length≤cap)(hz:zs.length≤100000)(hcb:∀ c ∈ zs,c < 256)
  (rn ra re:Nat) (hR:res (dec 0 (zs.drop at_)) most at_=(rn,ra,re)) (hce:¬ cap=at_):
  Calls Tryz.prog 62 #[.pointer (some ⟨r,0,none⟩),.int .u64 most] w fun x w'=>x=.returned (.int .u64 rn)∧Rd w' r a zs.length cap ra re∧Kept (fun x=>x=r) w w':=by
 have c0:w.cell? ⟨r,0,none⟩=some (.slice a zs.length cap):=cell_of h;have c1:w.cell? ⟨r,1,none⟩=some (.int .i64 at_):=cell_of h;have c2:w.cell? ⟨r,2,none⟩=some (.int .i64 (0:Nat)):=cell_of h;have i1:(at_:Int)≤(zs.length:Int):=by omega
 have i2:(zs.length:Int)≤(cap:Int):=by omega
 have HR:=Lib.hid hR;clear hR;go_enter Tryz.func62,Tryz.ntmps62
 go_wp2_with fail
 go_quiet (fail)
 have h2:Rd (w.drewN nq) r a zs.length cap at_ 0:=h;have hsl2:Sl .u8 (w.drewN nq) p (Option.map (fun x=>x.add at_) a) (ib (zs.drop at_)):=by rw[ib_drop];exact Sl.drop hsl at_
 have hK:Kept (fun x=>x=r) w (w.drewN nq):=(Kept.refl _ _).drewN nq;clear c0 c1 c2 h;generalize w.drewN nq=W at *;generalize Option.map (fun x=>x.add at_) a=a2 at *;obtain⟨len2,hl2⟩:∃ n,zs.length - at_=n:=⟨_,rfl⟩;have hrl:(zs.drop at_).length=len2:=by simp[hl2]
 have hrb:∀ c ∈ zs.drop at_,c < 256:=fun c hc=>hcb c (List.mem_of_mem_drop hc);have i3:len2≤100000:=by omega
 have HA:=Lib.hid (show at_+len2=zs.length by omega);rw[hl2];generalize zs.drop at_=rest at *;clear hl2 hsl hcb;go_wp2_with fail
 go_loop [23,5] (fun x y=>∃ (k n:Nat),x=.int .i64 k∧y=.int .u64 n∧k≤len2∧k≤9∧n < 2 ^ (7*k)∧Hid (dec 0 rest=(dec k (rest.drop k)).map fun x=>(n+2 ^ (7*k)*x.1,x.2+k))) (fun x _=>len2 - (intOf x).toNat)
 case atStart=>exact⟨0,0,rfl,rfl,by omega,by omega,by simp,Lib.hid (by cases h:dec 0 rest <;> simp[h])⟩
 case round=>
  obtain⟨k,n,rfl,rfl,hk,hk9,hn,HD⟩:=hrel;by_cases hlt:k < len2
  ·obtain⟨b,off,rfl,hb,hcell⟩:=hsl2 k (by rw[ib_length];omega)
   have hbr:=hp b hb;obtain⟨c,hc⟩:∃ c,rest.getD k 0=c:=⟨_,rfl⟩;rw[ib_getD,hc] at hcell;have hget:rest[k]?=some c:=by
    rw[List.getElem?_eq_getElem (by omega)];simp[List.getD_eq_getElem?_getD,List.getElem?_eq_getElem (show k < rest.length by omega)] at hc;rw[hc]
   have hc256:c < 256:=hrb c (List.mem_of_getElem? hget);have hdrop:rest.drop k=c :: rest.drop (k+1):=by
    rw[List.drop_eq_getElem_cons (show k < rest.length by omega)];congr 1
    rw[List.getElem?_eq_getElem (by omega)] at hget;exact Option.some.inj hget
   have hD:=HD.out;rw[hdrop,dec_cons] at hD;clear HD hget hdrop hc;have j1:(k:Int) < (len2:Int):=by omega
   by_cases hbad:(k=9∧1 < c)∨(0 < k∧c=0)
   ·rw[if_pos hbad] at hD
    have hR:=HR.out;rw[hD] at hR;clear hD HR;obtain⟨rfl,rfl,rfl⟩:rn=0∧ra=at_∧re=5:=by simp[res] at hR;omega
    have hf:=fail_any r a zs.length cap ra 0 5;have hcases:((((k:Int) == 9)=true∧(1:Int) < (c:Int))∨(((k:Int) == 9)=true∧¬ (1:Int) < (c:Int)∧(0:Int) < (k:Int)∧0 < k∧((c:Int) == 0)=true)∨(((k:Int) == 9)=false∧(0:Int) < (k:Int)∧0 < k∧((c:Int) == 0)=true)):=by
     by_cases h9:k=9
     ·by_cases h1:1 < c
      ·exact .inl ⟨by simp;omega,by omega⟩
      ·exact .inr (.inl ⟨by simp;omega,by omega,by omega,by omega,by simp;omega⟩)
     ·exact .inr (.inr ⟨by simp;omega,by omega,by omega,by simp;omega⟩)
    clear hR hbad;rcases hcases with ⟨e1,e2⟩|⟨e1,e2,e3,e4,e5⟩|⟨e1,e3,e4,e5⟩
    all_goals
     go_wp2_with fail
     refine(hf _ h2).mono ?_;rintro e w' ⟨rfl,hr',hk'⟩;go_wp2_with fail
     go_ret
     exact⟨rfl,hr',hK.trans hk' (fun _ _ h=>h)⟩
   ·rw[if_neg hbad] at hD
    have HD:=Lib.hid hD;clear hD;have hcases:((((k:Int) == 9)=true∧¬ (1:Int) < (c:Int)∧(0:Int) < (k:Int)∧0 < k∧((c:Int) == 0)=false)∨(((k:Int) == 9)=false∧(0:Int) < (k:Int)∧0 < k∧((c:Int) == 0)=false)∨(((k:Int) == 9)=false∧¬ (0:Int) < (k:Int)∧¬ 0 < k)):=by
     by_cases h9:k=9
     ·exact .inl ⟨by simp;omega,by omega,by omega,by omega,by simp;omega⟩
     ·by_cases h0:0 < k
      ·exact .inr (.inl ⟨by simp;omega,by omega,by omega,by simp;omega⟩)
      ·exact .inr (.inr ⟨by simp;omega,by omega,by omega⟩)
    have hsmall:k=9→c≤1:=fun h=>by omega
    have a1:=and127 hc256;have hm:c % 128 < 128:=Nat.mod_lt _ (by omega);have hmc:128≤c→c - 128=c % 128:=fun h=>by omega
    have hmc':c < 128→c % 128=c:=fun h=>Nat.mod_eq_of_lt h;have hm9:k=9→c % 128≤1:=fun h=>by have:=hsmall h;omega
    obtain⟨P,hP⟩:∃ P,2 ^ (7*k)=P:=⟨_,rfl⟩;have hPb:P≤2 ^ 63∧(k≠9→P≤2 ^ 56):=by
     rw[← hP];exact⟨Nat.pow_le_pow_right (by omega) (by omega),fun h=>Nat.pow_le_pow_right (by omega) (by omega)⟩
    have hP1:2 ^ (7*(k+1))=P*128:=by rw[show 7*(k+1)=7*k+7 by omega,Nat.pow_add,hP]
    obtain⟨m,hmm⟩:∃ m,c % 128=m:=⟨_,rfl⟩;rw[hmm] at a1 hm hmc hmc' hm9;have hmP:m*P≤127*P:=Nat.mul_le_mul_right _ (by omega);have hmP9:k=9→m*P≤1*P:=fun h=>Nat.mul_le_mul_right _ (hm9 h);have hnP:n < P:=by rw[← hP];exact hn
    have hsum:n+m*P < 18446744073709551616:=by
     by_cases h9:k=9
     ·have:=hmP9 h9;omega
     ·have:=hPb.2 h9;omega
    have a2:IntKind.u64.wrap (m:Int)=(m:Int):=IntWalk.u64_in _ ⟨by omega,by omega⟩;have a3:=shl_small (m:=m) (k:=k) (by rw[hP];omega);have a4:=or_shl (m:=m) hn (by rw[hP];exact hsum);have hnext:128≤c→k+1≤9∧n+m*P < 2 ^ (7*(k+1))∧dec 0 rest=(dec (k+1) (rest.drop (k+1))).map fun x=>(n+m*P+2 ^ (7*(k+1))*x.1,x.2+(k+1)):=by
     intro h128;refine⟨by
          have:k≠9:=fun h=>by have:=hsmall h;omega
          omega,by
               rw[hP1];have:m*P≤P*127:=by rw[Nat.mul_comm];exact Nat.mul_le_mul_left _ (by omega)
               omega,?_⟩
     have hD:=HD.out;rw[if_pos h128,Option.map_map] at hD;rw[hD];congr 1
     funext x
     simp only[Function.comp];rw[hP,hmc h128,hP1];refine Prod.ext ?_ ?_
     ·show n+P*(m+128*x.1)=n+m*P+P*128*x.1
      rw[Nat.mul_add,Nat.mul_comm P m,Nat.mul_assoc,Nat.add_assoc]
     ·show x.2+1+k=x.2+(k+1)
      omega
    have hlast:c < 128→res (some (n+m*P,k+1)) most at_=(rn,ra,re):=by
     intro h128;have hD:=HD.out;rw[if_neg (by omega)] at hD;have hR:=HR.out;rw[hD] at hR;simp only[Option.map_some] at hR;rw[hP,← hmc' h128,Nat.mul_comm P,Nat.add_comm 1 k] at hR;exact hR
    have a5:(m:Int)*2 ^ (7*k)=((m*2 ^ (7*k):Nat):Int):=by push_cast;rfl
    have a6:IntKind.u64.wrap ((m*P:Nat):Int)=((m*P:Nat):Int):=IntWalk.u64_in _ ⟨by omega,by omega⟩;have HN:=Lib.hid hnext;have HL:=Lib.hid hlast;have hqi:((n+m*P:Nat):Int)=((n+m*P:Nat):Int):=rfl;rw[hP] at a4 a3 a5;clear hnext hlast HD hsmall hmc hmc' hm9 hPb hP1 hmP hmP9 hnP hbad hqi hsum;by_cases h128:128≤c
    ·obtain⟨q1,q2,q3⟩:=HN.out h128
     have HQ:=Lib.hid q3;clear q3 HN HL HR;have e6:(128:Int)≤(c:Int):=by omega
     generalize n+m*P=n2 at *;generalize m*P=sh at *;rcases hcases with ⟨e1,e2,e3,e4,e5⟩|⟨e1,e3,e4,e5⟩|⟨e1,e3,e4⟩
     all_goals
      go_wp2_with fail
      go_round
      case rel=>exact⟨k+1,n2,by go_num,rfl,by omega,q1,q2,HQ⟩
      case measure=>simp[intOf];omega
    ·have hL:=HL.out (by omega)
     have e6:¬ (128:Int)≤(c:Int):=by omega
     clear HN HL HR;generalize n+m*P=n2 at *;generalize m*P=sh at *;have d0:W.cell? ⟨r,1,none⟩=some (.int .i64 at_):=cell_of h2;have d1:W.frozen? ⟨r,1,none⟩=false:=frozen_of h2;have hA:=HA.out;clear HA;by_cases hmo:n2≤most
     ·have e7:¬ (most:Int) < (n2:Int):=by omega
      obtain⟨rfl,hra,rfl⟩:rn=n2∧at_+(k+1)=ra∧re=0:=by simp[res,hmo] at hL;omega
      have hst:Rd (W.setCell ⟨r,1,none⟩ (.int .i64 (ra:Int))) r a zs.length cap ra 0:=set_same _ h2;have hst2:=hK.trans (Kept.set1 W r 1 (.int .i64 (ra:Int))) (fun _ _ h=>h);have e8:(at_:Int)+((k:Int)+1)=(ra:Int):=by omega
      have e9:IntKind.i64.wrap (ra:Int)=(ra:Int):=IntWalk.i64_in _ ⟨by omega,by omega⟩;have hlim:ra≤200000:=by omega
      clear hL;have e10:(at_:Int)+(k:Int)+1=(ra:Int):=by omega
      rcases hcases with ⟨e1,e2,e3,e4,e5⟩|⟨e1,e3,e4,e5⟩|⟨e1,e3,e4⟩
      all_goals
       go_wp2_with fail
       go_ret
       exact⟨rfl,hst,hst2⟩
     ·have e7:(most:Int) < (n2:Int):=by omega
      obtain⟨rfl,rfl,rfl⟩:rn=0∧ra=at_∧re=1:=by simp[res,hmo] at hL;omega
      have hf:=fail_any r a zs.length cap ra 0 1;clear hL;rcases hcases with ⟨e1,e2,e3,e4,e5⟩|⟨e1,e3,e4,e5⟩|⟨e1,e3,e4⟩
      all_goals
       go_wp2_with fail
       refine(hf _ h2).mono ?_;rintro e w' ⟨rfl,hr',hk'⟩;go_wp2_with fail
       go_ret
       exact⟨rfl,hr',hK.trans hk' (fun _ _ h=>h)⟩
  ·obtain rfl:k=len2:=by omega
   have hD:=HD.out;rw[List.drop_eq_nil_of_le (by omega)] at hD;have hR:=HR.out;rw[hD] at hR;obtain⟨rfl,rfl,rfl⟩:rn=0∧ra=at_∧re=5:=by simp[res,dec] at hR;omega
   have hf:=fail_any r a zs.length cap ra 0 5;clear hD hR HD HR;go_wp2_with fail
   refine(hf _ h2).mono ?_;rintro e w' ⟨rfl,hr',hk'⟩;go_wp2_with fail
   go_ret
   exact⟨rfl,hr',hK.trans hk' (fun _ _ h=>h)⟩
def nxt(e:Nat)(zs:List Nat)(most at_:Nat):Nat×Nat×Nat:=if e=0 then res (dec 0 (zs.drop at_)) most at_ else (0,at_,e)
theorem num_none(r:Nat)(a:Option Addr)(at_ most:Nat)(zs:List Nat)(w:World)(h:Rd w r a zs.length at_ at_ 0)(hat:zs.length=at_):
  Calls Tryz.prog 62 #[.pointer (some ⟨r,0,none⟩),.int .u64 most] w fun x w'=>x=.returned (.int .u64 0)∧Rd w' r a zs.length at_ at_ 5∧Kept (fun x=>x=r) w w':=by
 rw[hat] at h ⊢;have c0:w.cell? ⟨r,0,none⟩=some (.slice a at_ at_):=cell_of h;have c1:w.cell? ⟨r,1,none⟩=some (.int .i64 at_):=cell_of h;have c2:w.cell? ⟨r,2,none⟩=some (.int .i64 (0:Nat)):=cell_of h;go_enter Tryz.func62,Tryz.ntmps62
 go_wp2_with fail
 go_quiet (fail)
 have h2:Rd (w.drewN nq) r a at_ at_ at_ 0:=h;have hK:Kept (fun x=>x=r) w (w.drewN nq):=(Kept.refl _ _).drewN nq;have hf:=fail_any r a at_ at_ at_ 0 5;clear c0 c1 c2 h;generalize w.drewN nq=W at *;go_wp2_with fail
 refine wp_loop_rounds 1 ?_;rw[rounds_succ];go_wp2_with fail
 refine(hf _ h2).mono ?_;rintro e w' ⟨rfl,hr',hk'⟩;go_wp2_with fail
 go_ret
 exact⟨rfl,hr',hK.trans hk' (fun _ _ h=>h)⟩
theorem num_err(r:Nat)(a:Option Addr)(len cap at_ most e:Nat)(w:World)(h:Rd w r a len cap at_ e)(he:e≠0):
  Calls Tryz.prog 62 #[.pointer (some ⟨r,0,none⟩),.int .u64 most] w fun x w'=>x=.returned (.int .u64 0)∧w=w':=by
 have c2:w.cell? ⟨r,2,none⟩=some (.int .i64 e):=cell_of h;have d:((e:Int) != 0)=true:=by simp;omega
 clear he;go_enter Tryz.func62,Tryz.ntmps62
 go_wp2_with fail
 go_ret
 exact⟨rfl,rfl⟩
theorem num_any(r:Nat)(a:Option Addr)(cap at_ most e:Nat)(zs:List Nat)(p:Nat→Prop)(w:World)(h:Rd w r a zs.length cap at_ e)(hsl:Sl .u8 w p a (ib zs))(hp:∀ x,p x→x≠r)(hat:at_≤zs.length)(hcap:zs.length≤cap)(hz:zs.length≤100000)(hcb:∀ c ∈ zs,c < 256)
  (rn ra re:Nat) (hR:nxt e zs most at_=(rn,ra,re)):
  Calls Tryz.prog 62 #[.pointer (some ⟨r,0,none⟩),.int .u64 most] w fun x w'=>x=.returned (.int .u64 rn)∧Rd w' r a zs.length cap ra re∧Kept (fun x=>x=r) w w':=by
 unfold nxt at hR;by_cases he:e=0
 ·rw[if_pos he] at hR
  subst he;by_cases hce:cap=at_
  ·have hl:zs.length=at_:=by omega
   rw[List.drop_eq_nil_of_le (by omega)] at hR;obtain⟨rfl,rfl,rfl⟩:rn=0∧ra=at_∧re=5:=by simp[res,dec] at hR;omega
   subst hce;exact num_none r a cap most zs w h hl
  ·exact num_some r a cap at_ most zs p w h hsl hp hat hcap hz hcb rn ra re hR hce
 ·rw[if_neg he] at hR
  obtain⟨rfl,rfl,rfl⟩:rn=0∧ra=at_∧re=e:=by simp at hR;omega
  exact(num_err r a zs.length cap ra most re w h he).mono fun x w' ⟨h1,h2⟩=>⟨h1,h2 ▸ h,h2 ▸ Kept.refl _ _⟩
theorem nxt_le{e:Nat}{zs:List Nat}{most at_ rn ra re:Nat}(hR:nxt e zs most at_=(rn,ra,re))(hat:at_≤zs.length):ra≤zs.length:=by
 unfold nxt at hR;split at hR
 ·unfold res at hR
  cases hd:dec 0 (zs.drop at_) with
  | none=>rw[hd] at hR;simp at hR;omega
  | some x=>
   obtain⟨n,k⟩:=x;have:=(dec_pos _ _ _ _ hd).2;simp at this;rw[hd] at hR;simp only at hR;split at hR <;> simp at hR <;> omega
 ·simp at hR;omega
end Go.Proofs.YtigeldkbfbcpmaaGreat.P16
namespace Go.Proofs.YtigeldkbfbcpmaaGreat.P16
open WirePure
abbrev Evt:=Fin 10→Int
instance:DecidableEq Evt:=fun f g=>decidable_of_iff (∀ j,f j=g j) ⟨fun h=>funext h,fun h j=>congrFun h j⟩
def noev:Evt:=fun _=>0
def upd(f:Evt)(j:Fin 10)(x:Int):Evt:=fun i=>if i=j then x else f i
def parts(k:Int):List (Fin 10):=
 if k=1 then [1,2,3,4] else if k=2 then [1,5,6,7,8,9] else if k=3 then [1,3] else if 4≤k∧k≤9 then [1] else []
def most:Nat:=2147483647
def right(f:Evt):Prop:=(0≤f 0∧f 0≤9)∧(∀ j ∈ parts (f 0),0≤f j∧f j≤2147483647)∧∀ j,j=0∨j ∈ parts (f 0)∨f j=0
instance (f:Evt):Decidable (right f):=by unfold right;exact inferInstance
theorem parts_cases(k:Int):(k=1∧parts k=[1,2,3,4])∨(k=2∧parts k=[1,5,6,7,8,9])∨(k=3∧parts k=[1,3])∨((4≤k∧k≤9)∧parts k=[1])∨((k≤0∨9 < k)∧parts k=[]):=by
 unfold parts;by_cases h1:k=1
 ·exact .inl ⟨h1,by simp[h1]⟩
 by_cases h2:k=2
 ·exact .inr (.inl ⟨h2,by simp[h2]⟩)
 by_cases h3:k=3
 ·exact .inr (.inr (.inl ⟨h3,by simp[h3]⟩))
 by_cases h4:4≤k∧k≤9
 ·exact .inr (.inr (.inr (.inl ⟨h4,by simp[h1,h2,h3,h4]⟩)))
 ·exact .inr (.inr (.inr (.inr ⟨by omega,by simp[h1,h2,h3,h4]⟩)))
theorem parts_nodup(k:Int):(parts k).Nodup∧0 ∉ parts k:=by
 rcases parts_cases k with ⟨_,h⟩|⟨_,h⟩|⟨_,h⟩|⟨_,h⟩|⟨_,h⟩ <;> rw[h] <;> decide
theorem parts_len(k:Int):(parts k).length≤6:=by
 rcases parts_cases k with ⟨_,h⟩|⟨_,h⟩|⟨_,h⟩|⟨_,h⟩|⟨_,h⟩ <;> rw[h] <;> decide
def encE(f:Evt):List Nat:=enc (f 0).toNat++(parts (f 0)).flatMap fun j=>enc (f j).toNat
def rd(zs:List Nat):List (Fin 10)→Evt→Nat→Nat→Evt×Nat×Nat
 | [],f,at_,e=>(f,at_,e)
 | j :: ps,f,at_,e=>rd zs ps (upd f j ((nxt e zs most at_).1:Nat)) (nxt e zs most at_).2.1 (nxt e zs most at_).2.2
def ev0(k:Int):Evt:=upd noev 0 k
def getR(zs:List Nat):Evt×Nat×Nat:=
 rd zs (parts ((nxt 0 zs 9 0).1:Nat)) (ev0 ((nxt 0 zs 9 0).1:Nat)) (nxt 0 zs 9 0).2.1 (nxt 0 zs 9 0).2.2
def getE(zs:List Nat):Evt×Nat×Nat:=if (getR zs).2.2=0 then ((getR zs).1,(getR zs).2.1,0) else (noev,0,(getR zs).2.2)
theorem nxt_enc{zs pre rest:List Nat}{n mo:Nat}(hz:zs=pre++(enc n++rest))(hn:n≤mo)(hm:n < 2 ^ 64):nxt 0 zs mo pre.length=(n,(pre++enc n).length,0):=by
 subst hz;simp[nxt,res,dec_enc0 hm rest,hn]
theorem nxt_ok{zs:List Nat}{mo at_ n a:Nat}(hb:∀ c ∈ zs,c < 256)(hat:at_≤zs.length)(h:nxt 0 zs mo at_=(n,a,0)):
  n≤mo∧at_ < a∧a≤zs.length∧zs.take a=zs.take at_++enc n:=by
 unfold nxt at h;rw[if_pos rfl] at h;unfold res at h;cases hd:dec 0 (zs.drop at_) with
 | none=>rw[hd] at h;simp at h
 | some x=>
  obtain⟨m,k⟩:=x;have h1:=dec_pos _ _ _ _ hd;have h2:=enc_dec0 (fun c hc=>hb c (List.mem_of_mem_drop hc)) hd;rw[hd] at h;simp only at h;split at h
  ·rename_i hmo
   obtain⟨rfl,rfl⟩:m=n∧at_+k=a:=by simpa using h
   simp at h1;refine⟨hmo,by omega,by omega,?_⟩;rw[List.take_add,h2.2.1]
  ·simp at h
theorem nxt_stay{e:Nat}{zs:List Nat}{mo at_:Nat}(he:e≠0):nxt e zs mo at_=(0,at_,e):=by
 unfold nxt;rw[if_neg he]
theorem rd_stay(zs:List Nat):∀ (ps:List (Fin 10)) (f:Evt) (at_ e:Nat),e≠0→(rd zs ps f at_ e).2.2=e:=by
 intro ps
 induction ps with
 | nil=>intro f at_ e h;rfl
 | cons j ps ih=>intro f at_ e h;unfold rd;rw[nxt_stay h];exact ih _ _ _ h
theorem rd_enc(zs rest:List Nat)(g:Evt):∀ (ps:List (Fin 10)) (f:Evt) (pre:List Nat),zs=pre++((ps.flatMap fun j=>enc (g j).toNat)++rest)→(∀ j ∈ ps,0≤g j∧g j≤2147483647) →
  rd zs ps f pre.length 0=(fun i=>if i ∈ ps then g i else f i,(pre++ps.flatMap fun j=>enc (g j).toNat).length,0):=by
 intro ps
 induction ps with
 | nil=>intro f pre h hg;simp[rd]
 | cons j ps ih=>
  intro f pre h hg;have hj:=hg j (List.mem_cons_self ..);have hn:zs=pre++(enc (g j).toNat++((ps.flatMap fun j=>enc (g j).toNat)++rest)):=by rw[h];simp
  unfold rd;rw[nxt_enc hn (by unfold most;omega) (by omega)];dsimp only;rw[ih _ (pre++enc (g j).toNat) (by rw[hn];simp) (fun i hi=>hg i (List.mem_cons_of_mem _ hi))];refine Prod.ext ?_ (Prod.ext (by simp) rfl);funext i
  dsimp only[upd];by_cases h1:i ∈ ps
  ·simp[h1]
  ·by_cases h2:i=j
   ·subst h2;simp[h1];omega
   ·simp[h1,h2]
theorem getE_enc{f:Evt}(h:right f)(rest:List Nat):getE (encE f++rest)=(f,(encE f).length,0):=by
 obtain⟨h0,hp,hz⟩:=h;have hn:encE f++rest=[]++(enc (f 0).toNat++(((parts (f 0)).flatMap fun j=>enc (f j).toNat)++rest)):=by simp[encE]
 have hk:=nxt_enc (mo:=9) hn (by omega) (by omega);have hk':nxt 0 (encE f++rest) 9 0=((f 0).toNat,(enc (f 0).toNat).length,0):=by simpa using hk
 have hc:(((f 0).toNat:Nat):Int)=f 0:=by omega
 have hr:=rd_enc (encE f++rest) rest f (parts (f 0)) (ev0 (f 0)) (enc (f 0).toNat) (by simp[encE]) hp;have:getR (encE f++rest)=(f,(encE f).length,0):=by
  unfold getR;rw[hk'];dsimp only;rw[hc,hr];refine Prod.ext ?_ (Prod.ext (by simp[encE]) rfl);funext i
  dsimp only[ev0,upd,noev];rcases hz i with h1|h1|h1
  ·subst h1;simp[(parts_nodup (f 0)).2]
  ·simp[h1]
  ·by_cases h2:i ∈ parts (f 0)
   ·simp[h2]
   ·by_cases h3:i=0
    ·subst h3;simp[h2]
    ·simp[h2,h3,h1]
 unfold getE;rw[this];rfl
theorem rd_ok(zs:List Nat)(hb:∀ c ∈ zs,c < 256):∀ (ps:List (Fin 10)),ps.Nodup→∀ (f:Evt) (at_:Nat) (g:Evt) (a:Nat),at_≤zs.length→rd zs ps f at_ 0=(g,a,0) →
  at_≤a∧a≤zs.length∧(∀ j ∈ ps,0≤g j∧g j≤2147483647)∧(∀ j,j ∉ ps→g j=f j)∧zs.take a=zs.take at_++ps.flatMap fun j=>enc (g j).toNat:=by
 intro ps
 induction ps with
 | nil=>
  intro _ f at_ g a hat h;obtain⟨rfl,rfl⟩:f=g∧at_=a:=by simpa[rd] using h
  exact⟨Nat.le_refl _,hat,by simp,fun _ _=>rfl,by simp⟩
 | cons j ps ih=>
  intro hnd f at_ g a hat h;obtain⟨hnj,hnd⟩:=List.nodup_cons.1 hnd;unfold rd at h;obtain⟨xx,hx⟩:∃ x,nxt 0 zs most at_=x:=⟨_,rfl⟩;obtain⟨n,a1,e1⟩:=xx;rw[hx] at h;dsimp only at h;by_cases he:e1=0
  ·subst he
   obtain⟨hn,h1,h2,h3⟩:=nxt_ok hb hat hx;obtain⟨k1,k2,k3,k4,k5⟩:=ih hnd _ _ _ _ h2 h;have hgj:g j=(n:Int):=by rw[k4 j hnj];simp[upd]
   refine⟨by omega,k2,?_,?_,?_⟩
   ·intro i hi
    rcases List.mem_cons.1 hi with rfl|hi
    ·rw[hgj];unfold most at hn;omega
    ·exact k3 i hi
   ·intro i hi
    have:i≠j∧i ∉ ps:=by simpa using hi
    rw[k4 i this.2];simp[upd,this.1]
   ·rw[k5,h3,List.flatMap_cons,hgj];simp
  ·have:=rd_stay zs ps (upd f j (n:Nat)) a1 e1 he
   rw[h] at this;exact absurd this.symm he
theorem getE_ok{zs:List Nat}{f:Evt}{n:Nat}(hb:∀ c ∈ zs,c < 256)(h:getE zs=(f,n,0)):right f∧1≤n∧n≤zs.length∧zs.take n=encE f:=by
 unfold getE at h;split at h
 ·rename_i he
  obtain⟨h1,h2⟩:(getR zs).1=f∧(getR zs).2.1=n:=by simpa using h
  have hr:getR zs=(f,n,0):=Prod.ext h1 (Prod.ext h2 he);unfold getR at hr;obtain⟨xx,hx⟩:∃ x,nxt 0 zs 9 0=x:=⟨_,rfl⟩;obtain⟨k,a,e⟩:=xx;rw[hx] at hr;dsimp only at hr;have he0:e=0:=by
   by_cases he:e=0
   ·exact he
   ·have:=rd_stay zs (parts (k:Nat)) (ev0 (k:Nat)) a e he
    rw[hr] at this;exact this.symm
  subst he0;obtain⟨q1,q2,q3,q4⟩:=nxt_ok hb (Nat.zero_le _) hx;obtain⟨r1,r2,r3,r4,r5⟩:=rd_ok zs hb _ (parts_nodup _).1 _ _ _ _ q3 hr;have hf0:f 0=(k:Int):=by rw[r4 0 (parts_nodup _).2];simp[ev0,upd]
  refine⟨⟨by omega,by rw[hf0];exact r3,?_⟩,by omega,r2,?_⟩
  ·intro j
   by_cases hj0:j=0
   ·exact .inl hj0
   ·by_cases hj:j ∈ parts (f 0)
    ·exact .inr (.inl hj)
    ·refine .inr (.inr ?_)
     rw[r4 j (by rw[← hf0];exact hj)];simp[ev0,upd,noev,hj0]
  ·rw[r5,q4,encE,hf0];simp
 ·have:(getR zs).2.2=0:=(Prod.ext_iff.1 (Prod.ext_iff.1 h).2).2
  contradiction
def allE:Nat→List Nat→Nat→List Evt×Nat×Nat
 | 0,_,_=>([],0,0)
 | fuel+1,zs,c=>
  if zs=[] then ([],0,0)
  else if (getE zs).2.2≠0 then ([],0,(getE zs).2.2)
  else if c=16384 then ([],0,6)
  else ((getE zs).1 :: (allE fuel (zs.drop (getE zs).2.1) (c+1)).1,(getE zs).2.1+(allE fuel (zs.drop (getE zs).2.1) (c+1)).2.1,(allE fuel (zs.drop (getE zs).2.1) (c+1)).2.2)
def allB(zs:List Nat):List Evt×Nat×Nat:=allE zs.length zs 0
theorem encE_pos(f:Evt):1≤(encE f).length:=by unfold encE;have:=enc_len_pos (f 0).toNat;simp;omega
theorem allE_enc:∀ (l:List Evt) (fuel c:Nat),(∀ f ∈ l,right f)→l.length+c≤16384→(l.flatMap encE).length≤fuel→allE fuel (l.flatMap encE) c=(l,(l.flatMap encE).length,0):=by
 intro l
 induction l with
 | nil=>intro fuel c _ _ _;cases fuel <;> simp[allE]
 | cons f l ih=>
  intro fuel c hr hl hf;have hpos:=encE_pos f;rw[List.flatMap_cons] at hf ⊢;rw[List.length_append] at hf;obtain⟨fuel,rfl⟩:∃ n,fuel=n+1:=⟨fuel - 1,by omega⟩;have hg:=getE_enc (hr f (List.mem_cons_self ..)) (l.flatMap encE);have hne:encE f++l.flatMap encE≠[]:=fun h=>by rw[List.append_eq_nil_iff] at h;rw[h.1] at hpos;simp at hpos
  simp only[List.length_cons] at hl;unfold allE;rw[if_neg hne,hg];dsimp only;rw[if_neg (by omega),if_neg (by omega),List.drop_left,ih fuel (c+1) (fun g h=>hr g (List.mem_cons_of_mem _ h)) (by omega) (by omega)];simp
end Go.Proofs.YtigeldkbfbcpmaaGreat.P16
namespace Go.Proofs.YtigeldkbfbcpmaaGreat.P16
open Go.RowKit Go.Kpt WirePure
def evc(f:Evt):Array Value:=#[.int .i64 (f 0),.int .i64 (f 1),.int .i64 (f 2),.int .i64 (f 3),.int .i64 (f 4),.int .i64 (f 5),.int .i64 (f 6),.int .i64 (f 7),.int .i64 (f 8),.int .i64 (f 9)]
def Ev(w:World)(b:Nat)(f:Evt):Prop:=w.heap[b]?=some (.cells (evc f) 28 (0,0))
theorem fin10{P:Fin 10→Prop}(j:Fin 10)(h0:P 0)(h1:P 1)(h2:P 2)(h3:P 3)(h4:P 4)(h5:P 5)(h6:P 6)(h7:P 7)(h8:P 8)(h9:P 9):P j:=by
 match j with
 | 0=>exact h0
 | 1=>exact h1
 | 2=>exact h2
 | 3=>exact h3
 | 4=>exact h4
 | 5=>exact h5
 | 6=>exact h6
 | 7=>exact h7
 | 8=>exact h8
 | 9=>exact h9
theorem evc_get(f:Evt)(j:Fin 10):(evc f)[j.val]?=some (.int .i64 (f j)):=by
 refine fin10 (P:=fun j=>(evc f)[j.val]?=some (.int .i64 (f j))) j ?_ ?_ ?_ ?_ ?_ ?_ ?_ ?_ ?_ ?_ <;> rfl
theorem evc_set(f:Evt)(j:Fin 10)(x:Int):(evc f).setIfInBounds j.val (.int .i64 x)=evc (upd f j x):=by
 refine fin10 (P:=fun j=>(evc f).setIfInBounds j.val (.int .i64 x)=evc (upd f j x)) j ?_ ?_ ?_ ?_ ?_ ?_ ?_ ?_ ?_ ?_ <;> rfl
theorem Ev.cell{w:World}{b:Nat}{f:Evt}(h:Ev w b f)(j:Fin 10):w.cell? ⟨b,j.val,none⟩=some (.int .i64 (f j)):=(cell_of h).trans (evc_get f j)
theorem Ev.free{w:World}{b:Nat}{f:Evt}(h:Ev w b f)(j:Nat):w.frozen? ⟨b,j,none⟩=false:=frozen_of h
theorem Ev.set{w:World}{b:Nat}{f:Evt}(h:Ev w b f)(j:Fin 10)(x:Int):Ev (w.setCell ⟨b,j.val,none⟩ (.int .i64 x)) b (upd f j x):=by
 have:=set_same (i:=j.val) (.int .i64 x) h;rw[evc_set] at this;exact this
theorem Ev.kept{F:Nat→Prop}{w w':World}{b:Nat}{f:Evt}(h:Ev w b f)(k:Kept F w w')(hF:¬ F b):Ev w' b f:=(k.block b (lt_of h) hF).trans h
def PL(w:World)(g b:Nat)(ps:List (Fin 10)):Prop:=∀ i,i < ps.length→w.cell? ⟨g,i,none⟩=some (.pointer (some ⟨b,(ps.getD i 0).val,none⟩))
def kOK(k:Int):Prop:=0≤k∧k≤9
def PV(w':World)(base b:Nat)(f:Evt)(v:Value):Prop:=
 (kOK (f 0)∧∃ g,v=.slice (some ⟨g,0,none⟩) (parts (f 0)).length (parts (f 0)).length∧base≤g∧g < w'.heap.size∧PL w' g b (parts (f 0)))∨(¬ kOK (f 0)∧v=.slice none 0 0∧parts (f 0)=[])
theorem PV.one(w:World)(b:Nat)(f:Evt)(ps:List (Fin 10))(hk:kOK (f 0))(hp:parts (f 0)=ps)(cs:Array Value)(hc:∀ i,i < ps.length→cs[i]?=some (.pointer (some ⟨b,(ps.getD i 0).val,none⟩)))(W:World)(hW:W.heap=(w.alloc (.cells cs 114)).heap):
  PV W w.heap.size b f (.slice (some ⟨w.heap.size,0,none⟩) ps.length ps.length):=by
 refine .inl ⟨hk,w.heap.size,by rw[hp],Nat.le_refl _,by rw[hW];simp,?_⟩;rw[hp];intro i hi;rw[cell_of (w:=W) (cs:=cs) (t:=114) (by rw[hW];exact heap_alloc_new _ _)];exact hc i hi
theorem parts_any(b:Nat)(f:Evt)(w:World)(h:Ev w b f):Calls Tryz.prog 39 #[.pointer (some ⟨b,0,none⟩)] w fun e w'=>∃ v,e=.returned v∧PV w' w.heap.size b f v∧Below w.heap.size w w':=by
 have c0:w.cell? ⟨b,0,none⟩=some (.int .i64 (f 0)):=h.cell 0;have hPV:=PV.one w b f;have hno:¬ kOK (f 0)→parts (f 0)=[]:=by
  intro hk;rcases parts_cases (f 0) with ⟨h1,h2⟩|⟨h1,h2⟩|⟨h1,h2⟩|⟨h1,h2⟩|⟨h1,h2⟩
  ·exact absurd (show kOK (f 0) by unfold kOK;omega) hk
  ·exact absurd (show kOK (f 0) by unfold kOK;omega) hk
  ·exact absurd (show kOK (f 0) by unfold kOK;omega) hk
  ·exact absurd (show kOK (f 0) by unfold kOK;omega) hk
  ·exact h2
 have hall:=parts_cases (f 0);have hnone:¬ kOK (f 0)→∀ W,PV W w.heap.size b f (.slice none 0 0):=fun hk W=>.inr ⟨hk,rfl,hno hk⟩;generalize hQ:PV=Q at *;generalize f 0=k at *;generalize parts k=ps at *;have HH:=Lib.hid hPV;have HA:=Lib.hid hall;have HN:=Lib.hid hnone;clear hPV hall hno hnone h hQ;go_enter Tryz.func39,Tryz.ntmps39
 by_cases k0:k=0
 ·subst k0
  obtain rfl:ps=[]:=by rcases HA.out with h | h | h | h | h <;> first | exact h.2 | omega
  have hv:=HH.out [] ⟨by omega,by omega⟩ rfl #[] (fun i hi=>by simp at hi);clear HH HA HN;go_wp2_with fail
  go_ret
  exact⟨_,rfl,hv _ rfl,by go_grown⟩
 by_cases k1:k=1
 ·subst k1
  obtain rfl:ps=[1,2,3,4]:=by rcases HA.out with h | h | h | h | h <;> first | exact h.2 | omega
  have hv:=HH.out [1,2,3,4] ⟨by omega,by omega⟩ rfl #[.pointer (some ⟨b,1,none⟩),.pointer (some ⟨b,2,none⟩),.pointer (some ⟨b,3,none⟩),.pointer (some ⟨b,4,none⟩)] (fun i hi=>by
   simp at hi;rcases (show i=0∨i=1∨i=2∨i=3 by omega) with rfl|rfl|rfl|rfl <;> rfl)
  clear HH HA HN;go_wp2_with fail
  go_region
  all_goals (go_wp2_with fail)
  all_goals go_ret
  all_goals exact⟨_,rfl,hv _ rfl,by go_grown⟩
 by_cases k2:k=2
 ·subst k2
  obtain rfl:ps=[1,5,6,7,8,9]:=by rcases HA.out with h | h | h | h | h <;> first | exact h.2 | omega
  have hv:=HH.out [1,5,6,7,8,9] ⟨by omega,by omega⟩ rfl #[.pointer (some ⟨b,1,none⟩),.pointer (some ⟨b,5,none⟩),.pointer (some ⟨b,6,none⟩),.pointer (some ⟨b,7,none⟩),.pointer (some ⟨b,8,none⟩),.pointer (some ⟨b,9,none⟩)] (fun i hi=>by
   simp at hi;rcases (show i=0∨i=1∨i=2∨i=3∨i=4∨i=5 by omega) with rfl|rfl|rfl|rfl|rfl|rfl <;> rfl)
  clear HH HA HN;go_wp2_with fail
  go_region
  all_goals (go_wp2_with fail)
  all_goals go_ret
  all_goals exact⟨_,rfl,hv _ rfl,by go_grown⟩
 by_cases k3:k=3
 ·subst k3
  obtain rfl:ps=[1,3]:=by rcases HA.out with h | h | h | h | h <;> first | exact h.2 | omega
  have hv:=HH.out [1,3] ⟨by omega,by omega⟩ rfl #[.pointer (some ⟨b,1,none⟩),.pointer (some ⟨b,3,none⟩)] (fun i hi=>by
   simp at hi;rcases (show i=0∨i=1 by omega) with rfl|rfl <;> rfl)
  clear HH HA HN;go_wp2_with fail
  go_region
  all_goals (go_wp2_with fail)
  all_goals go_ret
  all_goals exact⟨_,rfl,hv _ rfl,by go_grown⟩
 by_cases k4:k=4
 ·subst k4
  obtain rfl:ps=[1]:=by rcases HA.out with h | h | h | h | h <;> first | exact h.2 | omega
  have hv:=HH.out [1] ⟨by omega,by omega⟩ rfl #[.pointer (some ⟨b,1,none⟩)] (fun i hi=>by
   simp at hi;rcases (show i=0 by omega) with rfl <;> rfl)
  clear HH HA HN;go_wp2_with fail
  go_ret
  all_goals exact⟨_,rfl,hv _ rfl,by go_grown⟩
 by_cases k5:k=5
 ·subst k5
  obtain rfl:ps=[1]:=by rcases HA.out with h | h | h | h | h <;> first | exact h.2 | omega
  have hv:=HH.out [1] ⟨by omega,by omega⟩ rfl #[.pointer (some ⟨b,1,none⟩)] (fun i hi=>by
   simp at hi;rcases (show i=0 by omega) with rfl <;> rfl)
  clear HH HA HN;go_wp2_with fail
  go_ret
  all_goals exact⟨_,rfl,hv _ rfl,by go_grown⟩
 by_cases k6:k=6
 ·subst k6
  obtain rfl:ps=[1]:=by rcases HA.out with h | h | h | h | h <;> first | exact h.2 | omega
  have hv:=HH.out [1] ⟨by omega,by omega⟩ rfl #[.pointer (some ⟨b,1,none⟩)] (fun i hi=>by
   simp at hi;rcases (show i=0 by omega) with rfl <;> rfl)
  clear HH HA HN;go_wp2_with fail
  go_ret
  all_goals exact⟨_,rfl,hv _ rfl,by go_grown⟩
 by_cases k7:k=7
 ·subst k7
  obtain rfl:ps=[1]:=by rcases HA.out with h | h | h | h | h <;> first | exact h.2 | omega
  have hv:=HH.out [1] ⟨by omega,by omega⟩ rfl #[.pointer (some ⟨b,1,none⟩)] (fun i hi=>by
   simp at hi;rcases (show i=0 by omega) with rfl <;> rfl)
  clear HH HA HN;go_wp2_with fail
  go_ret
  all_goals exact⟨_,rfl,hv _ rfl,by go_grown⟩
 by_cases k8:k=8
 ·subst k8
  obtain rfl:ps=[1]:=by rcases HA.out with h | h | h | h | h <;> first | exact h.2 | omega
  have hv:=HH.out [1] ⟨by omega,by omega⟩ rfl #[.pointer (some ⟨b,1,none⟩)] (fun i hi=>by
   simp at hi;rcases (show i=0 by omega) with rfl <;> rfl)
  clear HH HA HN;go_wp2_with fail
  go_ret
  all_goals exact⟨_,rfl,hv _ rfl,by go_grown⟩
 by_cases k9:k=9
 ·subst k9
  obtain rfl:ps=[1]:=by rcases HA.out with h | h | h | h | h <;> first | exact h.2 | omega
  have hv:=HH.out [1] ⟨by omega,by omega⟩ rfl #[.pointer (some ⟨b,1,none⟩)] (fun i hi=>by
   simp at hi;rcases (show i=0 by omega) with rfl <;> rfl)
  clear HH HA HN;go_wp2_with fail
  go_ret
  all_goals exact⟨_,rfl,hv _ rfl,by go_grown⟩
 have hnk:¬ kOK k:=by unfold kOK;omega
 have hv:=HN.out hnk;clear HH HA HN;go_wp2_with fail
 go_ret
 exact⟨_,rfl,hv _,by go_grown⟩
theorem evt_ext(f g:Evt):f=g↔(f 0=g 0∧f 1=g 1∧f 2=g 2∧f 3=g 3∧f 4=g 4∧f 5=g 5∧f 6=g 6∧f 7=g 7∧f 8=g 8∧f 9=g 9):=by
 constructor
 ·rintro rfl;simp
 ·rintro⟨h0,h1,h2,h3,h4,h5,h6,h7,h8,h9⟩
  funext j
  exact fin10 (P:=fun j=>f j=g j) j h0 h1 h2 h3 h4 h5 h6 h7 h8 h9
theorem step_ev (xs ys : Array Value) (fd : Field) (fs : List Field) (a b : Int) (w : World) (hn : fd.name ≠ "_") (ht : Tryz.prog.underlying fd.type = some (.int .i64)) (ha : xs[fd.offset]? = some (.int .i64 a)) (hb : ys[fd.offset]? = some (.int .i64 b)) :
  (Op.eqFields 9999 xs ys (fd :: fs)).run Tryz.prog w=if a=b then (Op.eqFields 9999 xs ys fs).run Tryz.prog w else .ok false w:=by
 have p1:(part fd.type xs fd.offset).run Tryz.prog w=.ok (.int .i64 a) w:=by simp[part,isAgg,run_underlying ht,ha]
 have p2:(part fd.type ys fd.offset).run Tryz.prog w=.ok (.int .i64 b) w:=by simp[part,isAgg,run_underlying ht,hb]
 have p3:=run_equalIn_int (P:=Tryz.prog) w 9998 fd.type .i64 .i64 a b ht;simp only[Op.eqFields,hn,ne_eq,not_false_eq_true,if_true,Sem.run_bind,p1,p2,p3,Result.andThen_ok];by_cases h:a=b
 ·subst h;simp
 ·simp[h]
theorem eqIn_ev(f g:Evt)(w:World):(Op.equalIn 10000 28 (.agg (evc f)) (.agg (evc g))).run Tryz.prog w=.ok (decide (f=g)) w:=by
 have hs:Tryz.prog.stoodInHeld 28=false:=by kernel_rfl
 have hu:=Tryz.underlying28;rw[run_equalIn_struct (P:=Tryz.prog) w 9999 28 (evc f) (evc g) (by unfold Program.fieldsOf;rw[hu]) hs];unfold Program.fieldsOf;rw[hu];dsimp only;rw[step_ev _ _ _ _ (f 0) (g 0) w (by simp) Tryz.underlying26 rfl rfl,step_ev _ _ _ _ (f 1) (g 1) w (by simp) Tryz.underlying3 rfl rfl,step_ev _ _ _ _ (f 2) (g 2) w (by simp) Tryz.underlying3 rfl rfl,step_ev _ _ _ _ (f 3) (g 3) w (by simp) Tryz.underlying3 rfl rfl,step_ev _ _ _ _ (f 4) (g 4) w (by simp) Tryz.underlying3 rfl rfl,step_ev _ _ _ _ (f 5) (g 5) w (by simp) Tryz.underlying3 rfl rfl,step_ev _ _ _ _ (f 6) (g 6) w (by simp) Tryz.underlying3 rfl rfl,step_ev _ _ _ _ (f 7) (g 7) w (by simp) Tryz.underlying3 rfl rfl,step_ev _ _ _ _ (f 8) (g 8) w (by simp) Tryz.underlying3 rfl rfl,step_ev _ _ _ _ (f 9) (g 9) w (by simp) Tryz.underlying3 rfl rfl];have he:=evt_ext f g;by_cases h:f=g
 ·have h2:=he.1 h
  rw[decide_eq_true h];simp[h2,Op.eqFields]
 ·rw[decide_eq_false h]
  have h2:¬ _:=fun hh=>h (he.2 hh)
  repeat' split
  all_goals first | rfl | (exfalso;exact h2 (by simp_all))
theorem eql_ev(f g:Evt)(w:World):(binOp .eql 28 (.agg (evc f)) (.agg (evc g))).run Tryz.prog w=.ok (.bool (decide (f=g))) w:=by
 rw[run_eql_struct,eqIn_ev];rfl
theorem neq_ev(f g:Evt)(w:World):(binOp .neq 28 (.agg (evc f)) (.agg (evc g))).run Tryz.prog w=.ok (.bool (!decide (f=g))) w:=by
 rw[run_neq_struct,eqIn_ev];rfl
theorem guard_ev(op:BinOp)(x y:Operand)(xs ys:Array Value)(w:World):(eqGuard op 28 x y (.agg xs) (.agg ys)).run Tryz.prog w=.ok () w:=run_eqGuard_agg (P:=Tryz.prog) w op 28 x y xs ys (by kernel_rfl)
end Go.Proofs.YtigeldkbfbcpmaaGreat.P16
