/- internal/strconv.special; atof64 where a quotient of whole numbers is asked. -/
import Derived.Test.YteoalcmhdoopnaaGreatDoorReadF
import Derived.Test.YteoalcmhdoopnaaGreatDoorJ9
import Derived.Test.YteoalcmhdoopnaaGreatDoorJ26
namespace Go.Proofs.YteoalcmhdoopnaaGreatDoor
open Go.RowKit
theorem B0 (r:Nat) (w:World):(callFunc 123 #[.int .u64 (r:Int)]).run Tryz.prog w=.ok (.value (.float .f64 r)) w:=by kernel_rfl
theorem common_digit {s:ByteArray} {c:UInt8} {l:List UInt8} (h:s.data.toList=c :: l) (hc:isD c=true) (hs:s.size<=1000) (w:World) :
   Calls Tryz.prog 148 #[.string s,.string ⟨#[105,110,102,105,110,105,116,121]⟩] w fun e w' => e=.returned (.int .i64 0)/\w' = w:=by
 obtain ⟨hlt,hc0,_⟩:=Ac (s:=s) (k:=0) (c:=c) (l:=l) h
 have hd:48<=c.toNat/\c.toNat<=57:=by simp [isD] at hc;exact hc
 have h0:(0:Int)<(s.size:Int):=by omega
 have hsz:(s.size:Int)<=1000:=by omega
 have k1:¬(65:Int)<=(c.toNat:Int):=by omega
 have k2:((c.toNat:Int) != 105)=true:=by simp;omega
 have k3:¬(c.toNat:Int)=105:=by omega
 have k4:((⟨#[105,110,102,105,110,105,116,121]⟩:ByteArray)[0]'(by decide)).toNat=105:=rfl
 obtain ⟨n,hn⟩:∃n:Int,min (8:Int) (s.size:Int)=n:=⟨_,rfl⟩
 have hn0:0<n:=by omega
 have hn1:n<=8:=by omega
 clear h hd hc
 go_enter Tryz.func148,Tryz.ntmps148
 go_wp2_with fail
 go_loop [6,7] (fun i b=>i=.int .i64 0) (fun _ _=>0)
 case atStart=>rfl
 case round=>
   obtain rfl:=hrel;go_wp2;go_ret;exact ⟨rfl,rfl⟩
set_option maxRecDepth 100000 in
set_option maxHeartbeats 1600000 in
theorem C4 {s:ByteArray} {neg:Bool} {c:UInt8} {l:List UInt8} (h:s.data.toList=(if neg then [45] else [])++c :: l) (hc:isD c=true) (hs:s.size<=1000) (w:World) :
   Calls Tryz.prog 113 #[.string s] w fun e w' => e=.returned (.tuple #[.float .f64 0,.int .i64 0,.bool false])/\w' = w:=by
 have hd:48<=c.toNat/\c.toNat<=57:=by simp [isD] at hc;exact hc
 have hsz:(s.size:Int)<=1000:=by omega
 cases neg with
 | false=>
   have h' : s.data.toList.drop 0=c :: l:=h;obtain ⟨hlt,hc0,_⟩:=Ac h';have h0:(0:Int)<(s.size:Int):=by omega
   have h00:((s.size:Int) == 0)=false:=beq_eq_false_iff_ne.2 (by omega);have hse:¬s=ByteArray.empty:=fun e=>by rw [Ad,e] at hlt;exact absurd hlt (by decide)
   have k1:((c.toNat:Int) == 43)=false:=by simp;omega
   have k2:((c.toNat:Int) == 45)=false:=by simp;omega
   have k3:((c.toNat:Int) == 105)=false:=by simp;omega
   have k4:((c.toNat:Int) == 73)=false:=by simp;omega
   have k5:((c.toNat:Int) == 110)=false:=by simp;omega
   have k6:((c.toNat:Int) == 78)=false:=by simp;omega
   clear h h' hd hc
   go_enter Tryz.func113,Tryz.ntmps113
   go_wp2;exact bodyPost_ret (v:=.tuple #[.float .f64 0,.int .i64 0,.bool false]) (by simp [results,Tryz.results113,go_sem]) rfl ⟨rfl,rfl⟩
 | true=>
   have h' : s.data.toList.drop 0=45 :: c :: l:=h;obtain ⟨hlt,hc0,hd1⟩:=Ac h';have h0:(0:Int)<(s.size:Int):=by omega
   have h00:((s.size:Int) == 0)=false:=beq_eq_false_iff_ne.2 (by omega);have hse:¬s=ByteArray.empty:=fun e=>by rw [Ad,e] at hlt;exact absurd hlt (by decide)
   obtain ⟨s1,hs1⟩:∃s1,s.extract 1 s.size=s1:=⟨_,rfl⟩;have hs1l:s1.data.toList=c :: l:=by
     rw [<-hs1,ByteArray.data_extract,Array.toList_extract,List.extract_eq_take_drop];rw [Nat.zero_add] at hd1;rw [hd1];refine List.take_of_length_le ?_;have:=congrArg List.length hd1;rw [List.length_drop,<-Ad] at this;omega
   have hs1n:s1.size<=1000:=by
     rw [Ad,hs1l];have:=congrArg List.length h;rw [<-Ad] at this;simp at this ⊢;omega
   have hcm:=common_digit hs1l hc hs1n w;have h1i:(1:Int)<=(s.size:Int):=by omega
   have e45:((45:UInt8).toNat:Int)=45:=rfl;replace hcm:=Hd hcm;clear h h' hd hc hs1l hs1n hd1
   go_enter Tryz.func113,Tryz.ntmps113
   go_wp2_with fail
   refine hcm.out.mono ?_;rintro e w' ⟨rfl,hww⟩;obtain rfl:=hww.symm;clear hww;go_wp2;exact bodyPost_ret (v:=.tuple #[.float .f64 0,.int .i64 0,.bool false]) (by simp [results,Tryz.results113,go_sem]) rfl ⟨rfl,rfl⟩
end Go.Proofs.YteoalcmhdoopnaaGreatDoor
namespace Go.Proofs.YteoalcmhdoopnaaGreatDoor
def InS (V g:Nat) (ev:Prop) (a:Nat):Prop:=(V<a+g\/V=a+g/\ev)/\(a<V+g\/a=V+g/\ev)
structure Units (V g t F0 F1:Nat) (ev:Prop):Prop where
 hin:∀c,InS V g ev (c * t) ↔ F0<=c/\c<=F1
 w1:t<=2 * g
 w2:2 * g<10 * t
 ne:F0<=F1
 big:12<=F0
theorem Units.close {V g t F0 F1:Nat} {ev:Prop} (h:Units V g t F0 F1 ev):F1<F0+10:=by
 have a0:=(h.hin F0).2 ⟨Nat.le_refl _,h.ne⟩;have a1:=(h.hin F1).2 ⟨h.ne,Nat.le_refl _⟩;have w2:=h.w2;unfold InS at a0 a1;have:F1 * t<(F0+10) * t:=by
   rw [Nat.add_mul];generalize F1 * t=x at *;generalize F0 * t=y at *;omega
 exact Nat.lt_of_mul_lt_mul_right this
theorem Units.ten {V g t F0 F1 m:Nat} {ev:Prop} (h:Units V g t F0 F1 ev) (h0:F0<=10 * m) (h1:10 * m<=F1):F0<=F1 / 10 * 10/\m=F1 / 10:=by
 have:=h.close;omega
theorem Units.below {V g F0 F1 c a t q:Nat} {ev:Prop} (h:Units V g t F0 F1 ev) (ht:t=10 ^ a * q) (hq:0<q) (hc:InS V g ev (c * q)):(F0 - 1) * 10 ^ a<=c:=by
 have n0:¬InS V g ev ((F0 - 1) * t):=fun x=>by have:=((h.hin _).1 x).1;have:=h.big;omega
 have a0:=(h.hin F0).2 ⟨Nat.le_refl _,h.ne⟩;have hb:=h.big;have e1:F0 * t=(F0 - 1) * t+t:=(E3 (by omega) t).symm;have key:(F0 - 1) * t<=c * q:=by
   unfold InS at n0 a0 hc;generalize (F0 - 1) * t=x at *;generalize F0 * t=y at *;generalize c * q=z at *;by_cases he:ev<;>simp only [he,and_true,and_false,or_false] at n0 a0 hc<;>omega
 rw [ht,<-Nat.mul_assoc] at key;exact Nat.le_of_mul_le_mul_right key hq
theorem Units.above {V g F0 F1 c a t q:Nat} {ev:Prop} (h:Units V g t F0 F1 ev) (ht:q=10 ^ a * t) (hc:InS V g ev (c * q)):F0<=c * 10 ^ a/\c * 10 ^ a<=F1:=by
 rw [ht,<-Nat.mul_assoc] at hc;exact (h.hin _).1 hc
theorem tens_div {s c i j:Nat} (hs:s % 10≠0) (h:s * 10 ^ i=c * 10 ^ j):∃l,c=s * 10 ^ l/\i=j+l:=by
 rcases Nat.lt_or_ge i j with h1 | h1
 · obtain ⟨d,rfl⟩:∃d,j=i+(d+1):=⟨j - i - 1,by omega⟩
   rw [Nat.pow_add,Nat.mul_comm (10 ^ i),<-Nat.mul_assoc] at h;have:=Nat.eq_of_mul_eq_mul_right (Nat.pow_pos (by decide)) h;rw [Nat.pow_succ,<-Nat.mul_assoc] at this;omega
 · obtain ⟨l,rfl⟩:∃l,i=j+l:=⟨i - j,by omega⟩
   rw [Nat.pow_add,Nat.mul_comm (10 ^ j),<-Nat.mul_assoc] at h;exact ⟨l,(Nat.eq_of_mul_eq_mul_right (Nat.pow_pos (by decide)) h).symm,rfl⟩
structure Least (F0 F1 d0 s k n:Nat):Prop where
 eq:d0=s * 10 ^ k
 last:s % 10≠0
 low:10 ^ (n - 1)<=s
 high:s<10 ^ n
 pos:1<=n
theorem Least.ten {F0 F1 d0 s k n:Nat} (h:Least F0 F1 d0 s k n):(10:Nat) ^ n=10 * 10 ^ (n - 1):=by
 have:=h.pos;obtain ⟨m,rfl⟩:∃m,n=m+1:=⟨n - 1,by omega⟩;rw [Nat.pow_succ,Nat.mul_comm];simp
theorem least_min {V g F0 F1 d0 s k n c a t q:Nat} {ev:Prop} (h:Units V g t F0 F1 ev) (hl:Least F0 F1 d0 s k n) (hd:(F0<=F1 / 10 * 10/\d0=F1 / 10)\/(¬F0<=F1 / 10 * 10/\F0<=d0/\d0<=F1))
   (hq:(t=10 ^ a * q/\0<q)\/(1<=a/\q=10 ^ a * t)) (hc:InS V g ev (c * q)) (hc0:0<c):10 ^ (n - 1)<=c:=by
 rcases Nat.lt_or_ge c (10 ^ (n - 1)) with hlt | hge
 · exfalso
   have hcl:=h.close;have hs:s<=d0:=by rw [hl.eq];exact Nat.le_mul_of_pos_right _ (Nat.pow_pos (by decide))
   have h1:=hl.low;have hb:=h.big;rcases hq with ⟨ht,hq⟩ | ⟨ha,ht⟩
   · have hbel:=h.below ht hq hc
     have hF:F0 - 1<=c:=Nat.le_trans (Nat.le_mul_of_pos_right _ (Nat.pow_pos (by decide))) hbel;rcases hd with ⟨d1,d2⟩ | ⟨d1,d2,d3⟩
     · omega
     · have hn:n≠1:=fun e=>by subst e;simp at hlt;omega
       obtain ⟨m,hm⟩:∃m,10 ^ (n - 1)=10 * m:=by
         have:=hl.pos;obtain ⟨j,hj⟩:∃j,n - 1=j+1:=⟨n - 2,by omega⟩;exact ⟨10 ^ j,by rw [hj,Nat.pow_succ,Nat.mul_comm]⟩
       exact d1 (h.ten (m:=m) (by omega) (by omega)).1
   · obtain ⟨u0,u1⟩:=h.above ht hc
     obtain ⟨b,rfl⟩:∃b,a=b+1:=⟨a - 1,by omega⟩;rw [Nat.pow_succ,<-Nat.mul_assoc,Nat.mul_comm _ 10] at u0 u1;obtain ⟨m0,m1⟩:=h.ten u0 u1;rcases hd with ⟨d1,d2⟩ | ⟨d1,_⟩
     · rw [<-m1,hl.eq] at d2
       obtain ⟨l,e,_⟩:=tens_div hl.last d2;have:s<=c:=by rw [e];exact Nat.le_mul_of_pos_right _ (Nat.pow_pos (by decide))
       omega
     · exact d1 m0
 · exact hge
theorem near_uniq {V t c d:Nat} (ht:0<t) (c1:2 * V<=(2 * c+1) * t) (c2:2 * c * t<=2 * V+t) (c3:2 * V=(2 * c+1) * t\/2 * c * t=2 * V+t->c % 2=0)
   (d1:2 * V<=(2 * d+1) * t) (d2:2 * d * t<=2 * V+t) (d3:2 * V=(2 * d+1) * t\/2 * d * t=2 * V+t->d % 2=0):c=d:=by
 have key:∀{c d:Nat},2 * V<=(2 * c+1) * t->2 * d * t<=2 * V+t->(2 * V=(2 * c+1) * t\/2 * c * t=2 * V+t->c % 2=0)->(2 * V=(2 * d+1) * t\/2 * d * t=2 * V+t->d % 2=0)->d<=c:=by
   intro c d c1 d2 c3 d3;have e1:(2 * c+1) * t=2 * c * t+t:=by rw [Nat.add_mul,Nat.one_mul]
   have e2:(2 * c+2) * t=2 * c * t+2 * t:=by rw [Nat.add_mul]
   have h1:2 * d * t<=(2 * c+2) * t:=by omega
   have h2:=Nat.le_of_mul_le_mul_right h1 ht;by_cases he:d=c+1
   · subst he
     have e3:2 * (c+1) * t=2 * c * t+2 * t:=by rw [show 2 * (c+1)=2 * c+2 by omega];exact e2
     have x1:=c3 (.inl (by omega));have x2:=d3 (.inr (by omega));omega
   · omega
 have a:=key c1 d2 c3 d3
 have b:=key d1 c2 d3 c3
 omega
theorem near_inS {V g n d s t tm tj a:Nat} {ev:Prop} (hg:0<g) (hn:1<=n) (hf:Fix n d V t tm) (hs:s<10 ^ n) (hin:InS V g ev (s * tj)) (htm:t=10 * tm) (hj:tj=10 ^ a * t\/(tm=10 ^ a * tj)):InS V g ev (d * t):=by
 obtain ⟨f1,f2,f3,f4,_,f6⟩:=hf;have e1:(2 * d+1) * t=2 * (d * t)+t:=by rw [Nat.add_mul,Nat.one_mul,Nat.mul_assoc]
 have e2:2 * d * t=2 * (d * t):=Nat.mul_assoc _ _ _;rw [e1] at f3;rw [e2] at f4;rcases hj with hj | hj
 · rw [hj,<-Nat.mul_assoc] at hin
   generalize s * 10 ^ a=m at *;rcases Nat.lt_trichotomy m d with h1 | h1 | h1
   · have:(m+1) * t<=d * t:=Nat.mul_le_mul_right _ h1
     rw [Nat.add_mul,Nat.one_mul] at this;unfold InS at hin ⊢;generalize m * t=x at *;generalize d * t=y at *;by_cases he:ev<;>simp only [he,and_true,and_false,or_false] at hin ⊢<;>omega
   · rw [<-h1];exact hin
   · have:(d+1) * t<=m * t:=Nat.mul_le_mul_right _ h1
     rw [Nat.add_mul,Nat.one_mul] at this;unfold InS at hin ⊢;generalize m * t=x at *;generalize d * t=y at *;by_cases he:ev<;>simp only [he,and_true,and_false,or_false] at hin ⊢<;>omega
 · have hP:(10:Nat) ^ n=10 * 10 ^ (n - 1):=by
     obtain ⟨m,rfl⟩:∃m,n=m+1:=⟨n - 1,by omega⟩;rw [Nat.pow_succ,Nat.mul_comm];simp
   have hS:s * tj<=s * tm:=Nat.mul_le_mul_left _ (by rw [hj];exact Nat.le_mul_of_pos_left _ (Nat.pow_pos (by decide)));have hPp:0<(10:Nat) ^ (n - 1):=Nat.pow_pos (by decide);rw [hP] at hs f6;generalize (10:Nat) ^ (n - 1)=P at *;have hS2:(s+1) * tm<=10 * P * tm:=Nat.mul_le_mul_right _ hs;rw [Nat.add_mul,Nat.one_mul] at hS2;have f6' := E3 (show 0<2 * (10 * P) by omega) tm;have e3:2 * (10 * P) * tm=2 * (10 * P * tm):=Nat.mul_assoc _ _ _;have hD:d * t=P * t+(d - P) * t:=by rw [<-Nat.add_mul];congr 1;omega
   have e4:P * t=10 * P * tm:=by rw [htm,Nat.mul_comm 10 P,Nat.mul_assoc]
   have hd:d - P=0\/t<=(d - P) * t:=by
     rcases Nat.eq_zero_or_pos (d - P) with h | h
     · exact .inl h
     · exact .inr (Nat.le_mul_of_pos_left _ h)
   unfold InS at hin ⊢;rcases hd with h | h
   · rw [h,Nat.zero_mul] at hD
     generalize (2 * (10 * P) - 1) * tm=w at *;generalize 2 * (10 * P) * tm=w2 at *;generalize 10 * P * tm=w3 at *;generalize P * t=w4 at *;generalize s * tm=w5 at *;generalize s * tj=x at *;generalize d * t=y at *;by_cases he:ev<;>simp only [he,and_true,and_false,or_false] at hin ⊢<;>omega
   · generalize (d - P) * t=w6 at *
     generalize (2 * (10 * P) - 1) * tm=w at *;generalize 2 * (10 * P) * tm=w2 at *;generalize 10 * P * tm=w3 at *;generalize P * t=w4 at *;generalize s * tm=w5 at *;generalize s * tj=x at *;generalize d * t=y at *;by_cases he:ev<;>simp only [he,and_true,and_false,or_false] at hin ⊢<;>omega
theorem InS.between {V g x y z:Nat} {ev:Prop} (hx:InS V g ev x) (hz:InS V g ev z) (h1:x<=y) (h2:y<=z):InS V g ev y:=by
 unfold InS at *;by_cases he:ev<;>simp only [he,and_true,and_false,or_false] at *<;>omega
theorem least_hit {V g F0 F1 d0 s k n d a t q tm:Nat} {ev:Prop} (h:Units V g t F0 F1 ev) (hl:Least F0 F1 d0 s k n) (hf:Fix n d V q tm) (hq0:0<q) (hin:InS V g ev (d * q))
   (hd:(F0<=F1 / 10 * 10/\d0=F1 / 10)\/(¬F0<=F1 / 10 * 10/\F0<=d0/\d0<=F1/\(F0=F1\/(2 * V<=(2 * d0+1) * t/\2 * d0 * t<=2 * V+t/\(2 * V=(2 * d0+1) * t\/2 * d0 * t=2 * V+t->d0 % 2=0)))))
   (hq:t=10 ^ a * q\/(1<=a/\q=10 ^ a * t)):d=s/\((F0<=F1 / 10 * 10/\1<=a/\q=10 ^ a * t/\a=k+1)\/(¬F0<=F1 / 10 * 10/\t=10 ^ a * q/\a=0/\k=0)):=by
 have hcl:=h.close
 have hb:=h.big
 have hP:=hl.ten
 have hs:s<=d0:=by rw [hl.eq];exact Nat.le_mul_of_pos_right _ (Nat.pow_pos (by decide))
 have hsl:=hl.low
 have hdh:=hf.high
 have hdl:=hf.low
 rcases hq with ht | ⟨ha,ht⟩
 · have hbel:=h.below ht hq0 hin
   have hF:F0 - 1<=d:=Nat.le_trans (Nat.le_mul_of_pos_right _ (Nat.pow_pos (by decide))) hbel;rcases hd with ⟨d1,d2⟩ | ⟨d1,d2,d3,d4⟩
   · exfalso
     rw [hP] at hdh;obtain ⟨_,m1⟩:=h.ten (m:=10 ^ (n - 1)) (by omega) (by omega);rw [<-m1] at d2;have e2:s=10 ^ (n - 1):=by omega
     have hl9:=hl.last;rcases Nat.eq_zero_or_pos (n - 1) with h0 | h0
     · rw [h0] at e2 m1;simp at m1;omega
     · obtain ⟨j,hj⟩:∃j,n - 1=j+1:=⟨n - 2,by omega⟩
       rw [e2,hj,Nat.pow_succ] at hl9;omega
   · have hk:k=0:=by
       rcases Nat.eq_zero_or_pos k with h0 | h0
       · exact h0
       · obtain ⟨j,rfl⟩:∃j,k=j+1:=⟨k - 1,by omega⟩
         have e:=hl.eq;rw [Nat.pow_succ,<-Nat.mul_assoc] at e;exact absurd (h.ten (m:=s * 10 ^ j) (by omega) (by omega)).1 d1
     subst hk;have e:=hl.eq;rw [Nat.pow_zero,Nat.mul_one] at e;rcases Nat.eq_zero_or_pos a with h0 | h0
     · subst h0
       refine ⟨?_,.inr ⟨d1,ht,rfl,rfl⟩⟩;rw [Nat.pow_zero,Nat.one_mul] at ht;subst ht;obtain ⟨u0,u1⟩:=(h.hin d).1 hin;rcases d4 with d4 | ⟨d4,d5,d6⟩
       · omega
       · rw [<-e]
         exact near_uniq hq0 hf.near1 hf.near2 hf.even d4 d5 d6
     · exfalso
       have i0:=(h.hin d0).2 ⟨d2,d3⟩;obtain ⟨j,rfl⟩:∃j,a=j+1:=⟨a - 1,by omega⟩;have i1:d * q<=10 ^ (n - 1) * t:=by
         rw [ht,Nat.pow_succ,Nat.mul_comm (10 ^ j),Nat.mul_assoc 10,<-Nat.mul_assoc (10 ^ (n - 1)),Nat.mul_comm (10 ^ (n - 1)) 10,<-hP];exact Nat.mul_le_mul (Nat.le_of_lt hdh) (Nat.le_mul_of_pos_left _ (Nat.pow_pos (by decide)))
       have i2:10 ^ (n - 1) * t<=d0 * t:=Nat.mul_le_mul_right _ (by omega);obtain ⟨u0,u1⟩:=(h.hin _).1 (hin.between i0 i1 i2);rcases Nat.eq_zero_or_pos (n - 1) with h0 | h0
       · rw [h0] at u0;simp at u0;omega
       · obtain ⟨i,hi⟩:∃i,n - 1=i+1:=⟨n - 2,by omega⟩
         rw [hi,Nat.pow_succ,Nat.mul_comm] at u0 u1;exact d1 (h.ten u0 u1).1
 · obtain ⟨u0,u1⟩:=h.above ht hin
   obtain ⟨b,rfl⟩:∃b,a=b+1:=⟨a - 1,by omega⟩;rw [Nat.pow_succ,<-Nat.mul_assoc,Nat.mul_comm _ 10] at u0 u1;obtain ⟨m0,m1⟩:=h.ten u0 u1;rcases hd with ⟨d1,d2⟩ | ⟨d1,_⟩
   · rw [<-m1,hl.eq] at d2
     obtain ⟨l,e,e2⟩:=tens_div hl.last d2;have hl0:l=0:=by
       rcases Nat.eq_zero_or_pos l with h0 | h0
       · exact h0
       · obtain ⟨j,rfl⟩:∃j,l=j+1:=⟨l - 1,by omega⟩
         have:s * 10<=d:=by
           rw [e,Nat.pow_succ,<-Nat.mul_assoc];exact Nat.mul_le_mul_right _ (Nat.le_mul_of_pos_right _ (Nat.pow_pos (by decide)))
         omega
     subst hl0;rw [Nat.pow_zero,Nat.mul_one] at e;exact ⟨e,.inl ⟨d1,ha,ht,by omega⟩⟩
   · exact absurd m0 d1
def gT (r:Nat):Nat:=2 ^ rK r * 10 ^ tK
theorem F4 {r:Nat} (h:0<r) (hs:Be r=false) (a:Nat):InS (vT r) (gT r) (r % 2=0) a ↔ InI r a (10 ^ tK):=by
 have hM:=Fq h;have e1:mid r * 10 ^ tK=vT r+gT r:=by
   rw [mid_high,vT,gT,Cd];generalize 2 ^ rK r=b;generalize 10 ^ tK=c;rw [Nat.add_mul,Nat.add_mul,Nat.one_mul];simp only [Nat.mul_assoc]
 have e0:mid (r - 1) * 10 ^ tK+gT r=vT r:=by
   rw [mid_low h hs,vT,gT,Cd];generalize 2 ^ rK r=b;generalize 10 ^ tK=c;rw [<-Nat.mul_assoc 2,<-Nat.add_mul];congr 1;rw [show (2 * rM r - 1) * b+b=(2 * rM r - 1+1) * b by rw [Nat.add_mul,Nat.one_mul]];congr 1;omega
 rw [show InI r a (10 ^ tK) ↔ (r=0\/mid (r - 1) * 10 ^ tK<a\/(mid (r - 1) * 10 ^ tK=a/\r % 2=0))/\(a<mid r * 10 ^ tK\/(a=mid r * 10 ^ tK/\r % 2=0)) from ⟨fun h=>⟨h.low,h.high⟩,fun h=>⟨h.1,h.2⟩⟩];rw [e1];unfold InS;generalize mid (r - 1) * 10 ^ tK=m at *;generalize gT r=g at *;generalize vT r=v at *;constructor
 · intro ⟨a1,a2⟩
   exact ⟨by omega,a2⟩
 · intro ⟨a1,a2⟩
   exact ⟨by omega,a2⟩
theorem units_of {r:Nat} (h12:13<=r) (hr:r<9218868437227405312) (hs:Be r=false):Units (vT r) (gT r) (tT (-fP r)) (fMin r) (fMax r) (r % 2=0):=by
 have h:0<r:=by omega
 obtain ⟨p0,p1,p2,p3⟩:=Ci h hr;obtain ⟨s0,s1,s2,_,_⟩:=Bf h;obtain ⟨w0,w1⟩:=w_spec h hr hs;obtain ⟨n0,n1⟩:=near_in h hr hs;have hk:=tK_is;have hin:∀c,InS (vT r) (gT r) (r % 2=0) (c * tT (-fP r)) ↔ fMin r<=c/\c<=fMax r:=fun c=>by
   rw [F4 h hs,<-dec_T (by omega),Fd h hr]
 obtain ⟨sc,hsc⟩:∃n:Nat,fSc r=n:=⟨(fSc r).toNat,by omega⟩;rw [hsc,Int.toNat_natCast] at w0 w1;have hR:=rel_T (x:=2 ^ fS r) (μ:=2 * 2 ^ rK r) (k:=rK r) (s:=fS r) (sc:=sc) (p:=fP r) (by omega) (by omega) (by omega) (by
   rw [show fS r=fS r - 1+1 by omega,Nat.pow_succ,show fS r - 1+1 - 1=fS r - 1 by omega];generalize 2 ^ (fS r - 1)=a;generalize 2 ^ rK r=b;rw [Nat.mul_comm 2 b,Nat.mul_comm (a * 2),Nat.mul_assoc,Nat.mul_comm 2 a]) (by rw [<-hsc];rfl)
 have eg:2 * 2 ^ rK r * 10 ^ tK=2 * gT r:=by unfold gT;rw [Nat.mul_assoc]
 rw [eg] at hR;have hE:0<tD (fP r) * (18446744073709551616 * 18446744073709551616) * 2 ^ sc:=Nat.mul_pos (Nat.mul_pos (Cm _) (by decide)) (Nat.two_pow_pos sc);have hT:=Ed (-fP r);generalize tD (fP r) * (18446744073709551616 * 18446744073709551616) * 2 ^ sc=E at *;generalize 2 ^ fS r * tN (fP r)=y at *;have hw1:tT (-fP r)<=2 * gT r:=by
   have h1:4 * E * tT (-fP r)<=4 * E * (2 * gT r):=by rw [<-hR];exact Nat.mul_le_mul_right _ w0
   exact Nat.le_of_mul_le_mul_left h1 (by omega)
 have hw2:2 * gT r<10 * tT (-fP r):=by
   have h1:4 * E * (2 * gT r)<4 * E * (10 * tT (-fP r)):=by
     rw [<-hR,show 4 * E * (10 * tT (-fP r))=40 * E * tT (-fP r) by rw [<-Nat.mul_assoc,Nat.mul_right_comm 4 E 10]];exact Nat.mul_lt_mul_of_pos_right w1 hT
   exact Nat.lt_of_mul_lt_mul_left h1
 refine ⟨hin,hw1,hw2,Nat.le_trans n0 n1,?_⟩;have hM:12<=rM r:=by have:=A9 r;omega
 have a0:=((hin (fMin r)).2 ⟨Nat.le_refl _,Nat.le_trans n0 n1⟩).1;have hg:0<gT r:=Nat.mul_pos (Nat.two_pow_pos _) (Nat.pow_pos (by decide));have hV:vT r=2 * rM r * gT r:=by unfold vT gT;rw [Cd];simp only [Nat.mul_assoc]
 have h1:vT r<=fMin r * tT (-fP r)+gT r:=by rcases a0 with a | a<;>omega
 have h2:fMin r * tT (-fP r)<=fMin r * (2 * gT r):=Nat.mul_le_mul_left _ hw1;rw [hV] at h1;have h3:2 * rM r * gT r<=(2 * fMin r+1) * gT r:=by
   rw [Nat.add_mul,Nat.one_mul,Nat.mul_assoc 2 (fMin r),Nat.mul_left_comm 2];omega
 have h4:=Nat.le_of_mul_le_mul_right h3 hg;omega
def Cx (r d:Nat) (q:Int):Bool:=
 (decide (r=0) || decide (mid (r - 1) * 10 ^ tK<d * tT q) || (decide (mid (r - 1) * 10 ^ tK=d * tT q) && decide (r % 2=0))) &&
 (decide (d * tT q<mid r * 10 ^ tK) || (decide (d * tT q=mid r * 10 ^ tK) && decide (r % 2=0)))
theorem Ei {r d:Nat} {q:Int}:Cx r d q=true ↔ InI r (d * tT q) (10 ^ tK):=by
 unfold Cx;simp only [Bool.and_eq_true,Bool.or_eq_true,decide_eq_true_eq];constructor
 · intro ⟨h1,h2⟩
   exact ⟨by rcases h1 with (h | h) | h;exact .inl h;exact .inr (.inl h);exact .inr (.inr h),h2⟩
 · intro ⟨h1,h2⟩
   exact ⟨by rcases h1 with h | h | h;exact .inl (.inl h);exact .inl (.inr h);exact .inr h,h2⟩
def Af (n d:Nat) (q:Int) (up:Bool):Nat × Int:=
 if up then (if d+1=10 ^ n then (10 ^ (n - 1),q+1) else (d+1,q))
 else if d=10 ^ (n - 1) then (10 ^ n - 1,q - 1) else (d - 1,q)
def Bb (r:Nat):Nat->Nat->Nat × Nat × Int
 | 0,n=>(n,0,0)
 | fuel+1,n=>
   if Cx r (fixN r n).1 (fixN r n).2 then (n,fixN r n)
   else if Cx r (Af n (fixN r n).1 (fixN r n).2 (decide ((fixN r n).1 * tT (fixN r n).2<vT r))).1 (Af n (fixN r n).1 (fixN r n).2 (decide ((fixN r n).1 * tT (fixN r n).2<vT r))).2 then
     (n,Af n (fixN r n).1 (fixN r n).2 (decide ((fixN r n).1 * tT (fixN r n).2<vT r)))
   else Bb r fuel (n+1)
def endsB (r:Nat):Bool:=
 decide ((Ae r).1=(Bb r 17 1).2.1 * 10 ^ ((Bb r 17 1).2.2 - (Ae r).2).toNat) && decide ((Ae r).2<=(Bb r 17 1).2.2) &&
 decide ((Bb r 17 1).2.1 % 10≠0) && decide (10 ^ ((Bb r 17 1).1 - 1)<=(Bb r 17 1).2.1) && decide ((Bb r 17 1).2.1<10 ^ (Bb r 17 1).1) && decide (1<=(Bb r 17 1).1)
theorem ends_few:allN 1000 (fun i=>decide (i=0) || endsB i)=true:=by decide +kernel
theorem ends_skew:allN 2046 (fun i=>decide (i=0) || endsB ((i+1) * 4503599627370496))=true:=by decide +kernel
end Go.Proofs.YteoalcmhdoopnaaGreatDoor
