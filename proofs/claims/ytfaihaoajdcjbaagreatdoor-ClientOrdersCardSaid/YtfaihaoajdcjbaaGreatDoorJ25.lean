/- Answers in the order of asking: what the client is in between. -/
import Derived.Test.YtfaihaoajdcjbaaGreatDoorJ23
import Derived.Test.YtfaihaoajdcjbaaGreatDoorJ20
import Derived.Test.YtfaihaoajdcjbaaGreatDoorTold
import Derived.Test.YtfaihaoajdcjbaaGreatDoorRt13
set_option linter.all false
namespace Go.Proofs.YtfaihaoajdcjbaaGreatDoor
open Go.RowKit
def Bg (n:Nat):List (Int × V × Bool):=(List.range n).map fun i=>(((i+1:Nat):Int),(if i % 2=0 then v7 else v8),false)
theorem resOrd_two {n:Nat} (h:n % 2=0):Bg (n+2)=Bg n++[(((n+1:Nat):Int),v7,false)]++[(((n+2:Nat):Int),v8,false)]:=by
 have h1:¬(n+1) % 2=0:=by omega
 unfold Bg;rw [List.range_succ,List.range_succ,List.map_append,List.map_append,List.map_singleton,List.map_singleton,if_pos h,if_neg h1]
theorem Cs (n:Nat):(Bg n).length=n:=by simp [Bg]
theorem resOrd_at {n i:Nat} (h:i<n):(Bg n)[i]?=some (((i+1:Nat):Int),(if i % 2=0 then v7 else v8),false):=by
 unfold Bg;rw [List.getElem?_map,List.getElem?_range h];rfl
theorem flatK {α:Type} (f:α->List Value) (K:Nat) (hf:∀x,(f x).length=K):∀(T:List α) (j q:Nat) (hj:j<T.length),q<K->(T.flatMap f)[j * K+q]?=(f T[j])[q]?
 | [],j,q,hj,_=>absurd hj (by simp)
 | x :: T,0,q,_,hq=>by
   rw [List.flatMap_cons,List.getElem?_append_left (by rw [hf];omega),Nat.zero_mul,Nat.zero_add];rfl
 | x :: T,j+1,q,hj,hq=>by
   have e:(j+1) * K=j * K+K:=Nat.succ_mul j K;rw [List.flatMap_cons,List.getElem?_append_right (by rw [hf];omega),hf,show (j+1) * K+q - K=j * K+q by omega];exact flatK f K hf T j q (by simpa using hj) hq
theorem resOrd_cells {n q:Nat} {rs:List (Option Addr × Nat)} (hl:rs.length=n) (hq:q<n):∃(ad:Option Addr) (cap:Nat),∀(c:Nat) (u:Value),([.int .i64 ((q+1:Nat):Int),.int .i64 3,.string ⟨#[]⟩,.int .i64 ((7+q % 2:Nat):Int),.float .f64 0,.bool false,.slice ad 0 cap,.bool false]:List Value)[c]?=some u->(resL (Bg n) rs)[q * 8+c]?=some u:=by
 have hz:q<((Bg n).zip rs).length:=by rw [List.length_zip,Cs,hl];omega
 have hqr:q<(Bg n).length:=by rw [Cs];exact hq
 have e1:((Bg n).zip rs)[q]=((((q+1:Nat):Int),(if q % 2=0 then v7 else v8),false),rs[q]'(by omega)):=by
   rw [List.getElem_zip];have:=resOrd_at hq;rw [List.getElem?_eq_getElem hqr] at this;rw [Option.some.inj this]
 refine ⟨(rs[q]'(by omega)).1,(rs[q]'(by omega)).2,fun c u hu=>?_⟩;have hc:c<8:=(List.getElem?_eq_some_iff.1 hu).1;unfold resL;rw [flatK resC 8 (fun _=>rfl) _ q c hz hc,e1];rcases Nat.mod_two_eq_zero_or_one q with h | h
 · rw [h] at hu
   rw [if_pos h];exact hu
 · rw [h] at hu
   rw [if_neg (by omega)];exact hu
structure OrdS (m:Md) (j:Nat) (s:CS):Prop where
 md:s.md=m
 es:s.near.es=[]
 most:s.near.most=0
 n0:0<=s.near.last
 n1:s.near.last<=j
 out:s.out.size<=300000000+2000 * j
 ask0:j % 2=0->s.asked=[]
 ask1:j % 2=1->∃x,s.asked=[((j:Int),x)]
 res:s.results=Bg (j / 2 * 2)
 last:s.last=j
 over:s.over=false
 main:s.main=⟨#[]⟩
theorem Ca {l:List ByteArray} {K:Nat} (hK:K<=1000000) (hl:∀t∈l,t.size<=K) (hn:l.length<=1000):(Ak l).size<=30+l.length * (K+26):=by
 have h1:=Ck 42 l.length (by omega) (by omega);have h2:=Cb hK l hl;rw [Ak,ByteArray.size_append];omega
theorem E0 {n:NS} {t:Int} {v:V} (he:n.es=[]) (hm:n.most=0):(n.fillIf t v).es=[]/\(n.fillIf t v).most=0/\(n.fillIf t v).last=n.last:=by
 unfold NS.fillIf;split
 · unfold NS.fill
   split
   · exact ⟨he,hm,rfl⟩
   · rw [if_pos hm];exact ⟨he,hm,rfl⟩
 · exact ⟨he,hm,rfl⟩
def ordS0 (m:Md):CS:=⟨⟨[],[],0,0⟩,m,(Dd m 0).out,[],[],0,false,⟨#[]⟩,⟨#[]⟩⟩
theorem csNew_out (m:Md) (hg:m.good):(Dd m 0).out.size<=300000000:=by
 have h1:=words_len m hg;have h2:=Ca (l:=A4 m) (K:=1000000) (by omega) h1.2 (by omega);have h3:=Ca (l:=[Ce,Cd]) (K:=5) (by omega) (by decide) (by decide);have h4:(A4 m).length * (1000000+26)<=100 * (1000000+26):=Nat.mul_le_mul_right _ h1.1;have h5:[Ce,Cd].length=2:=rfl;have e:(Dd m 0).out=(⟨#[]⟩:ByteArray)++Ak [Ce,Cd]++Ak (A4 m):=rfl;rw [h5] at h3;rw [e,ByteArray.size_append,ByteArray.size_append];have e2:(⟨#[]⟩:ByteArray).size=0:=rfl;omega
theorem ord_start (m:Md) (hg:m.good):Fed { Dd m 0 with main:=(Dd m 0).main++Dx } (ordS0 m)/\OrdS m 0 (ordS0 m):=by
 refine ⟨?_,⟨rfl,rfl,rfl,by show (0:Int)<=0;decide,by show (0:Int)<=_;decide,by have:=csNew_out m hg;show (Dd m 0).out.size<=_;omega,fun _=>rfl,fun h=>(by cases h),rfl,rfl,rfl,rfl⟩⟩;have h:=fed_hello (near:=⟨[],[],0,0⟩) (md:=m) (out:=(Dd m 0).out) (side:=⟨#[]⟩) (l:=[]) (results:=[]) (last:=0) (by decide);have e:(Dd m 0).main++Dx=Dx:=Fm _;rw [e];exact h
theorem ord_read {m:Md} {j:Nat} {s:CS} {k:ByteArray} (h:OrdS m j s) (hk:k.size<=200) (tb:Bool) :
   (s.readN k tb).out.size<=300000000+2000 * (j+1)/\0<=(s.readN k tb).near.last/\(s.readN k tb).near.last<=((j+1:Nat):Int)/\(s.readN k tb).near.es=[]/\(s.readN k tb).near.most=0:=by
 have h3:=Ca (l:=[tGet,k]) (K:=200) (by omega) (fun t ht=>by
   rcases List.mem_cons.1 ht with e | ht
   · rw [e];decide
   · rw [List.mem_singleton.1 ht];exact hk) (by simp)
 have h5:[tGet,k].length=2:=rfl;rw [h5] at h3;have ho:=h.out;have n0:=h.n0;have n1:=h.n1;refine ⟨?_,?_⟩
 · show (s.out++Ak [tGet,k]).size<=_
   rw [ByteArray.size_append];omega
 · cases tb with
   | true=>exact ⟨by show 0<=s.near.last+1;omega,by show s.near.last+1<=_;omega,h.es,h.most⟩
   | false=>exact ⟨by show 0<=s.near.last;omega,by show s.near.last<=_;omega,h.es,h.most⟩
theorem ord_even {m:Md} {j:Nat} {s:CS} {k:ByteArray} (h:OrdS m j s) (hk:k.size<=200) (tb:Bool) (hj:j % 2=0):OrdS m (j+1) (s.readN k tb):=by
 obtain ⟨a1,a2,a3,a4,a5⟩:=ord_read h hk tb;refine ⟨h.md,a4,a5,a2,a3,a1,fun e=>(by omega),fun _=>?_,?_,?_,h.over,h.main⟩
 · refine ⟨if tb=true then s.near.last+1 else 0,?_⟩
   show s.asked++[_]=_;rw [h.ask0 hj,h.last];rfl
 · show s.results=_
   rw [h.res];have e:j / 2=(j+1) / 2:=by omega
   rw [e]
 · show s.last+1=_
   rw [h.last]
theorem ord_odd {m:Md} {j:Nat} {s:CS} {k:ByteArray} (h:OrdS m j s) (hk:k.size<=200) (tb:Bool) (hj:j % 2=1) (hj2:j<=1000):∃t,Fed { s.readN k tb with main:=(s.readN k tb).main++t78 } t/\OrdS m (j+1) t:=by
 obtain ⟨a1,a2,a3,a4,a5⟩:=ord_read h hk tb;obtain ⟨x,hx⟩:=h.ask1 hj;have hjj:j / 2 * 2+1=j:=by omega
 obtain ⟨y,hy⟩:∃y,y=(if tb=true then s.near.last+1 else 0):=⟨_,rfl⟩;have ha:(s.readN k tb).asked=[((j:Int),x),(((j+1:Nat):Int),y)]:=by
   show s.asked++[_]=_;rw [hx,h.last,hy];rfl
 have hres:(s.readN k tb).results=Bg (j / 2 * 2):=h.res;have hl:(s.readN k tb).last=j+1:=by show s.last+1=_;rw [h.last]
 have hmd:(s.readN k tb).md=m:=h.md;have hov:(s.readN k tb).over=false:=h.over;have hmn:(s.readN k tb).main=⟨#[]⟩:=h.main;generalize s.readN k tb=r at *;obtain ⟨near,md,out,asked,results,last,over,main,side⟩:=r;simp only at a1 a2 a3 a4 a5 ha hres hl hmd hov hmn;subst ha hres hl hmd hov hmn;have h9:=fed_78 (near:=near) (md:=md) (out:=out) (side:=side) (l:=[]) (results:=Bg (j / 2 * 2)) (last:=j+1) (k1:=(j:Int)) (i1:=x) (k2:=((j+1:Nat):Int)) (i2:=y) (by rw [Cs];omega) (by omega) (by omega);have e:(⟨#[]⟩:ByteArray)++t78=t78:=Fm _;refine ⟨⟨(near.fillIf x v7).fillIf y v8,md,out,[],Bg (j / 2 * 2)++[((j:Int),v7,false)]++[(((j+1:Nat):Int),v8,false)],j+1,false,⟨#[]⟩,side⟩,?_,?_⟩
 · show Fed ⟨near,md,out,_,_,_,_,(⟨#[]⟩:ByteArray)++t78,side⟩ _
   rw [e];exact h9
 · have f1:=E0 (t:=x) (v:=v7) a4 a5
   have f2:=E0 (t:=y) (v:=v8) f1.1 f1.2.1;refine ⟨rfl,f2.1,f2.2.1,by rw [f2.2.2,f1.2.2];exact a2,by rw [f2.2.2,f1.2.2];exact a3,a1,fun _=>rfl,fun e=>(by omega),?_,rfl,rfl,rfl⟩;have e2:(j+1) / 2 * 2=j / 2 * 2+2:=by omega
   have e3:j / 2 * 2+1=j:=by omega
   have e4:j / 2 * 2+2=j+1:=by omega
   rw [e2,resOrd_two (by omega),e3,e4]
end Go.Proofs.YtfaihaoajdcjbaaGreatDoor
namespace Go.Proofs.YtfaihaoajdcjbaaGreatDoor
open Go.RowKit Go.Joins
set_option maxRecDepth 100000 in
set_option maxHeartbeats 12800000 in
theorem corders_any {w0:World} {m:Md} {pa ka:Option Addr} {n pc kn kc:Nat} {keys:List ByteArray} (hN:Nums w0) (hx:Reads w0 1 (.slice pa n pc) n (m.prefixes.map Value.string)) (hcap:n<=pc) (hn:n<=9223372036854775807)
   (hk:Reads w0 1 (.slice ka kn kc) kn (keys.map Value.string)) (hkn:kn<=9223372036854775807) :
   Calls Tryz.prog 3 #[C5 m (.slice pa n pc),.slice ka kn kc] w0 fun e w' => e=.returned (.bool true)/\Below w0.heap.size w0 w' := by
 have kc:=fun (W:World) (C:Array Value) (n c:Nat)=>Lib.run_convert_bytes_const (P:=Tryz.prog) W 32 5 C n c Tryz.underlying32 Tryz.underlying5;have hkl:keys.length=kn:=by have:=hk.len.2;simpa using this
 obtain ⟨W0,hW0⟩:∃W0,W0=w0.alloc (.cells #[.bool m.on,.bool m.bcast,.bool m.optin,.bool m.optout,.bool m.noloop,.int .i64 m.redirect,.slice pa n pc] 24):=⟨_,rfl⟩;obtain ⟨B,hB⟩:∃B,B=w0.heap.size:=⟨_,rfl⟩;have hb0:Below w0.heap.size w0 W0:=by rw [hW0];exact (Below.refl _ _).alloc (Nat.le_refl _) _
 have r0:W0.rangeAt B 0 [.bool m.on,.bool m.bcast,.bool m.optin,.bool m.optout,.bool m.noloop,.int .i64 m.redirect,.slice pa n pc]:=fun j u hj=>by rw [hB,hW0,Nat.zero_add,World.cell?_alloc_new];simpa using hj
 have hal:=Hd (alive24_any (hN.below hb0));have hx0:=Hd (hx.below hb0);have hk0:=Hd (hk.below hb0);have hN0:=Hd (hN.below hb0);clear hx hk hN;replace hkl:=Hd hkl;replace hW0:=Hd hW0;replace hb0:=Hd hb0;replace r0:=Hd r0
 go_enter Tryz.func3,Tryz.ntmps3
 go_upto_region 1 with fail
 rw [<-hW0.out,<-hB];go_wp2_with fail
 refine hal.out.mono ?_;rintro e w1 ⟨rfl,hb1⟩;have r1:w1.rangeAt B 0 [.bool m.on,.bool m.bcast,.bool m.optin,.bool m.optout,.bool m.noloop,.int .i64 m.redirect,.slice pa n pc]:=fun j u hj=>Aa hb1 _ _ (r0.out j u hj);have e0:=r1 0 _ rfl;have e1:=r1 1 _ rfl;have e2:=r1 2 _ rfl;have e3:=r1 3 _ rfl;have e4:=r1 4 _ rfl;have e5:=r1 5 _ rfl;have e6:=r1 6 _ rfl;rw [Nat.add_zero] at e0;rw [Nat.zero_add] at e1 e2 e3 e4 e5 e6;have hx1:=Hd (hx0.out.below hb1);have hk1:=Hd (hk0.out.below hb1);have hN1:=Hd (hN0.out.below hb1);have hb01:=Hd (hb0.out.trans (hb1.mono hb0.out.size));clear hb1 hal hx0 hk0 hN0 r0 hW0 hb0;replace r1:=Hd r1;replace hB:=Hd hB;cases hon:m.on with
 | false=>
   rw [hon] at e0;go_wp2_with fail
   go_ret;exact ⟨rfl,hb01.out⟩
 | true=>
   rw [hon] at e0;cases hop:m.optin with
   | true=>
     rw [hop] at e2;go_wp2_with fail
     go_ret;exact ⟨rfl,hb01.out⟩
   | false=>
     rw [hop] at e2;have hr:=Hd (right13_any hon hop hx1.out hcap hn);replace hon:=Hd hon;replace hop:=Hd hop;go_wp2_with fail
     have hrr:=hr.out;rw [hon.out,hop.out] at hrr;refine hrr.mono ?_;rintro e w2 ⟨⟨b,rfl,hgood⟩,hb2⟩;have f0:=Aa hb2 _ _ e0;have f1:=Aa hb2 _ _ e1;have f2:=Aa hb2 _ _ e2;have f3:=Aa hb2 _ _ e3;have f4:=Aa hb2 _ _ e4;have f5:=Aa hb2 _ _ e5;have f6:=Aa hb2 _ _ e6;have hx2:=Hd (hx1.out.below hb2);have hk2:=Hd (hk1.out.below hb2);have hN2:=Hd (hN1.out.below hb2);have hb02:=Hd (hb01.out.trans (hb2.mono hb01.out.size));clear hb2 hr hrr hx1 hk1 hN1 hb01 r1 e0 e1 e2 e3 e4 e5 e6;cases b with
     | false=>
       clear hgood;go_wp2_with fail
       go_ret;exact ⟨rfl,hb02.out⟩
     | true=>
       have hg:=hgood rfl;clear hgood;by_cases h20:(20:Int)<kn
       · replace hg:=Hd hg
         go_wp2_with fail
         go_ret;exact ⟨rfl,hb02.out⟩
       have hkn2:kn<=20:=by omega
       have hnew:=Hd (cnew_any m hg 0 hx2.out hN2.out);replace hg:=Hd hg;go_wp2_with fail
       have hnn:=hnew.out;unfold C5 at hnn;rw [hon.out,hop.out] at hnn;refine hnn.mono ?_;rintro e w3 ⟨cb,o3,rfl,hc3,hz3,hb3⟩;obtain ⟨w2', hw2'⟩:∃x,x=w2:=⟨_,rfl⟩;rw [<-hw2'] at hz3 hb3 hb02 hk2;clear f0 f1 f2 f3 f4 f5 f6 hnew hnn hx2 hN2 hw2';replace hc3:=Hd hc3;replace hb3:=Hd hb3;replace hz3:=Hd hz3;go_wp2_with fail
       obtain ⟨hfs,hos⟩:=ord_start m hg.out;refine (El (b:=Dx) hc3.out (by rfl) (by rfl) (by rfl) (by show (⟨#[]⟩:ByteArray).size+_<=_;decide) hfs).mono ?_;rintro e w4 ⟨rfl,o4,hc4,hw4⟩;obtain ⟨hb4,hz4⟩:=Bw hb3.out hz3.out hw4;clear hw4 hb3 hz3 hc3 hfs;obtain ⟨s4,hs4⟩:∃s,s=ordS0 m:=⟨_,rfl⟩;rw [<-hs4] at hos hc4;clear hs4;replace hc4:=Hd hc4;replace hb4:=Hd hb4;replace hz4:=Hd hz4;replace hos:=Hd hos;go_wp2_with fail
       go_loopw [7,47] (fun la i wr=>∃(j:Nat) (s:CS) (o:Nat->Nat),j<=kn/\la=.int .i64 (j:Int)/\i=.int .i64 (j:Int)/\OrdS m j s/\Cli o wr cb s/\Below w2'.heap.size w2' wr/\∀k,k<w2'.heap.size->o k=0) (fun _ i _=>kn - (intOf i).toNat)
       case atStart=>exact ⟨0,s4,o4,Nat.zero_le _,rfl,rfl,hos.out,hc4.out,hb4.out,hz4.out⟩
       case round=>
         obtain ⟨j,s,o,hj,rfl,rfl,hS,hc,hbr,hzr⟩:=hrel;clear hc4 hb4 hz4 hos;replace hS:=Hd hS;replace hc:=Hd hc;replace hbr:=Hd hbr;replace hzr:=Hd hzr;by_cases hlt:j<kn
         · have hlti:(j:Int)<kn:=by omega
           have hjl:j<keys.length:=by have:=hkl.out;omega
           obtain ⟨b,ko,he,hck⟩:=(hk2.out.below hbr.out).at (j:=j) (by simpa using hjl);cases he
           have hc0:=hck j (.string keys[j]) (by rw [List.getElem?_map,List.getElem?_eq_getElem hjl];rfl);clear hck;generalize keys[j]=k at hc0;by_cases hks:(200:Int)<k.size
           · go_wp2_with fail
             go_ret;exact ⟨rfl,hb02.out.trans (hbr.out.mono hb02.out.size)⟩
           have hksn:k.size<=200:=by omega
           have hgs:s.md.good:=by rw [hS.out.md];exact hg.out
           go_wp2_with fail
           refine (R2.cread_none (Do m k) hc.out hS.out.over hgs.opt (by have:=hS.out.last;omega) (by rw [hS.out.es];rfl) (by omega) hS.out.n0 (by have:=hS.out.n1;omega) (by have:=hS.out.out;omega) (by
             rcases Nat.mod_two_eq_zero_or_one j with e | e
             · rw [hS.out.ask0 e];exact Nat.zero_le _
             · obtain ⟨x,hx⟩:=hS.out.ask1 e
               rw [hx];show (1:Nat)<=_;decide) (fun W oo s' h1 h2=>by have:=told_any h1 (by rw [h2];exact hgs) k;rw [h2,hS.out.md] at this;exact this)).mono ?_
           rintro e w5 ⟨rfl,o5,hc5,hw5⟩;obtain ⟨hb5,hz5⟩:=Bw hbr.out hzr.out hw5;have hl5:((s.last+1:Nat):Int)=((j+1:Nat):Int):=by rw [hS.out.last]
           rw [hl5];have hwj:IntKind.i64.wrap ((j:Int)+1)=((j+1:Nat):Int):=by rw [IntWalk.i64_in _ (by omega)];rfl
           clear hw5 hbr hzr hc hl5 hgs;replace hc5:=Hd hc5;replace hb5:=Hd hb5;replace hz5:=Hd hz5;rcases Nat.mod_two_eq_zero_or_one j with hm2 | hm2
           · have hmod:(j:Int).tmod 2=0:=by show ((j % 2:Nat):Int)=0;omega
             go_wp2_with fail
             go_roundw
             case rel=>exact ⟨j+1,_,o5,by omega,by first | rfl | go_num,by first | rfl | go_num,ord_even hS.out hksn _ hm2,hc5.out,hb5.out,hz5.out⟩
             case measure=>simp [intOf];omega
           · have hmod:(j:Int).tmod 2=1:=by show ((j % 2:Nat):Int)=1;omega
             obtain ⟨s6,hf6,hS6⟩:=ord_odd hS.out hksn (Do m k) hm2 (by omega);have hov:(s.readN k (Do m k)).over=false:=hS.out.over;have hmn:(s.readN k (Do m k)).main.size+t78.size<=1000000:=by
               have e:(s.readN k (Do m k)).main=⟨#[]⟩:=hS.out.main;rw [e];decide
             replace hf6:=Hd hf6;replace hS6:=Hd hS6;replace hov:=Hd hov;replace hmn:=Hd hmn;go_wp2_with fail
             refine (El (b:=t78) hc5.out (by rfl) (by rfl) hov.out hmn.out hf6.out).mono ?_;rintro e w6 ⟨rfl,o6,hc6,hw6⟩;obtain ⟨hb6,hz6⟩:=Bw hb5.out hz5.out hw6;clear hw6 hb5 hz5 hc5 hf6 hov hmn;replace hc6:=Hd hc6;replace hb6:=Hd hb6;replace hz6:=Hd hz6;go_wp2_with fail
             go_roundw
             case rel=>exact ⟨j+1,s6,o6,by omega,by first | rfl | go_num,by first | rfl | go_num,hS6.out,hc6.out,hb6.out,hz6.out⟩
             case measure=>simp [intOf];omega
         · obtain rfl:j=kn:=by omega
           clear hkl hk2;go_wp2_with fail
           refine (cres_any hc.out).mono ?_;rintro e w5 ⟨v5,rs5,o5,rfl,hrl5,hbk5,hc5,hw5⟩;obtain ⟨hb5,hz5⟩:=Bw hbr.out hzr.out hw5;have hal5:({ s with results:=[] }:CS).asked.length=j % 2:=by
             show s.asked.length=_;rcases Nat.mod_two_eq_zero_or_one j with e | e
             · rw [hS.out.ask0 e,e];rfl
             · obtain ⟨x,hx⟩:=hS.out.ask1 e
               rw [hx,e];rfl
           rw [hS.out.res,Cs] at hrl5 hbk5;obtain ⟨r,hr⟩:∃r,r=j / 2 * 2:=⟨_,rfl⟩;rw [<-hr] at hrl5 hbk5;have hr20:r<=20:=by omega
           obtain ⟨ar,cr,rfl,_⟩:=hbk5.shape;clear hw5 hbr hzr hc hS;replace hc5:=Hd hc5;replace hal5:=Hd hal5;replace hr:=Hd hr;replace hrl5:=Hd hrl5;replace hbk5:=Hd hbk5;replace hb5:=Hd hb5;replace hz5:=Hd hz5;go_wp2_with fail
           go_loopw [82] (fun i wr=>∃q:Nat,q<=r/\i=.int .i64 (q:Int)/\Below w5.heap.size w5 wr) (fun i _=>r - (intOf i).toNat)
           case atStart=>exact ⟨0,Nat.zero_le _,rfl,Below.refl _ _⟩
           case round=>
             obtain ⟨q,hq,rfl,hbq⟩:=hrel;by_cases hqr:q<r
             · have hqri:(q:Int)<r:=by omega
               obtain ⟨ad,cap,hcell⟩:=resOrd_cells hrl5.out hqr;obtain ⟨b,oo,c9,he,hlt9,hcs⟩:=(hbk5.out.below hbq).cells (by omega);cases he
               have hrow:wr.rangeAt b (oo+q * 8) [.int .i64 ((q+1:Nat):Int),.int .i64 3,.string ⟨#[]⟩,.int .i64 ((7+q % 2:Nat):Int),.float .f64 0,.bool false,.slice ad 0 cap,.bool false]:=fun c u hu=>by
                 rw [Nat.add_assoc];exact hcs _ _ (hcell c u hu)
               have hth:=Hd (Cu wr 42 [.int .i64 0,.int .i64 0,.string ⟨#[]⟩,.int .i64 0,.float .f64 0,.bool false,.slice none 0 0,.bool false]);have hnv:=Hd (Fp wr 42 [.int .i64 0,.int .i64 0,.string ⟨#[]⟩,.int .i64 0,.float .f64 0,.bool false,.slice none 0 0,.bool false] [.int .i64 ((q+1:Nat):Int),.int .i64 3,.string ⟨#[]⟩,.int .i64 ((7+q % 2:Nat):Int),.float .f64 0,.bool false,.slice ad 0 cap,.bool false] rfl);clear hcs hcell;replace hrow:=Hd hrow;replace hbq:=Hd hbq;have tok1:True:=trivial;have tok2:True:=trivial
               go_upto_region 26 with first
                 | (have _t:=tok1;refine wpList_load_mid rfl 42 _ rfl b (oo+q * 8) rfl _ _ hrow.out Tryz.underlying42 rfl Fy ?_;clear tok1 _t)
                 | (have _t:=tok2;refine wpList_store_mid rfl 42 _ _ rfl wr.heap.size 0 _ rfl rfl hth.out Fy (by simp [Value.oneCell']) ?_;clear tok2 _t)
               obtain ⟨hb7,hm7,_⟩:=hnv.out;obtain ⟨w7,hw7⟩:∃x,x=(wr.alloc (.cells #[.int .i64 0,.int .i64 0,.string ⟨#[]⟩,.int .i64 0,.float .f64 0,.bool false,.slice none 0 0,.bool false] 42)).setCells wr.heap.size 0 [.int .i64 ((q:Int)+1),.int .i64 3,.string ⟨#[]⟩,.int .i64 (7+(q:Int) % 2),.float .f64 0,.bool false,.slice ad 0 cap,.bool false]:=⟨_,rfl⟩;rw [<-hw7];have hw7' : (wr.alloc (.cells [.int .i64 0,.int .i64 0,.string ⟨#[]⟩,.int .i64 0,.float .f64 0,.bool false,.slice none 0 0,.bool false].toArray 42)).setCells wr.heap.size 0 [.int .i64 ((q+1:Nat):Int),.int .i64 3,.string ⟨#[]⟩,.int .i64 ((7+q % 2:Nat):Int),.float .f64 0,.bool false,.slice ad 0 cap,.bool false]=w7:=by
                 rw [hw7];rfl
               rw [hw7'] at hb7 hm7;have d0:=hm7 0 _ rfl;have d3:=hm7 3 _ rfl;have d7:=hm7 7 _ rfl;rw [Nat.add_zero] at d0;rw [Nat.zero_add] at d3 d7;have hb8:=Hd (hbq.out.trans (hb7.mono hbq.out.size));have hwq:IntKind.i64.wrap ((q:Int)+1)=((q+1:Nat):Int):=by rw [IntWalk.i64_in _ (by omega)];rfl
               clear hw7 hw7' hnv hth hrow hbq hm7 hb7;rcases Nat.mod_two_eq_zero_or_one q with hm2 | hm2
               · have hmod:(q:Int).tmod 2=0:=by show ((q % 2:Nat):Int)=0;omega
                 have e7:((7+q % 2:Nat):Int)=7:=by omega
                 rw [e7] at d3;clear e7;go_wp2_with fail
                 go_roundw
                 case rel=>exact ⟨q+1,by omega,by first | rfl | go_num,hb8.out⟩
                 case measure=>simp [intOf];omega
               · have hmod:(q:Int).tmod 2=1:=by show ((q % 2:Nat):Int)=1;omega
                 have e7:((7+q % 2:Nat):Int)=8:=by omega
                 rw [e7] at d3;clear e7;go_wp2_with fail
                 go_roundw
                 case rel=>exact ⟨q+1,by omega,by first | rfl | go_num,hb8.out⟩
                 case measure=>simp [intOf];omega
             · obtain rfl:q=r:=by omega
               obtain ⟨hc9,_⟩:=hc5.out.grow hbq;have hask:=Gb hc9;rw [hal5.out] at hask;have hb9:=hb5.out.trans (hbq.mono hb5.out.size);have hfin:=Hd (hb02.out.trans (hb9.mono hb02.out.size));have hdiv:(j:Int).tdiv 2=((j / 2:Nat):Int):=rfl;have hmodj:(j:Int).tmod 2=((j % 2:Nat):Int):=rfl;have hmul:IntKind.i64.wrap (((j / 2:Nat):Int) * 2)=(q:Int):=by rw [IntWalk.i64_in _ (by omega),hr.out];omega
               have hqj:(q:Int)=(j:Int) / 2 * 2:=by have:=hr.out;omega
               clear hc9 hc5 hal5 hb5 hbq hb9;replace hask:=Hd hask;go_wp2_with fail
               refine hask.out.mono ?_;rintro e w9 ⟨rfl,hww⟩;obtain rfl:=hww.symm;clear hww;go_wp2_with fail
               go_ret;exact ⟨rfl,hfin.out⟩
end Go.Proofs.YtfaihaoajdcjbaaGreatDoor
