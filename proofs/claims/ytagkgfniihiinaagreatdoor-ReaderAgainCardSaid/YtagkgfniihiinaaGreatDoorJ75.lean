/- internal/strconv.fmtEFG, 'e': sign, digits, noughts behind, exponent. -/
import Derived.Test.YtagkgfniihiinaaGreatDoorJ24
import Derived.Test.YtagkgfniihiinaaGreatDoorJ77
import Derived.Deep.DeepCutAuto
import Derived.Deep.LoopGhost
import Derived.Deep.CutBlock
set_option linter.all false
namespace Go.Proofs.YtagkgfniihiinaaGreatDoor
open Go.RowKit
theorem Cq {n:Nat} (h:n<10):(dg8 n).toNat=48+n:=by unfold dg8;rw [UInt8.toNat_ofNat'];omega
theorem expL_at {x:Int} {y:Nat} {sg:UInt8} {l:List UInt8} (hx:x.natAbs=y) (hs:sg=if x<0 then 45 else 43)
   (hl:l=(if y<10 then [48,dg8 y] else if y<100 then [dg8 (y / 10),dg8 (y % 10)] else [dg8 (y / 100),dg8 (y / 10 % 10),dg8 (y % 10)])):sg :: l=expL x:=by
 unfold expL
 rw [hx,hs,hl]
theorem repl_snoc (n:Nat) (c:UInt8):(⟨(List.replicate n c).toArray⟩:ByteArray)++(⟨#[c]⟩:ByteArray)=⟨(List.replicate (n+1) c).toArray⟩:=by
 apply ByteArray.ext;rw [ByteArray.data_append];apply Array.toList_inj.1;simp [List.replicate_succ']
def zerB (n:Nat):ByteArray:=⟨(List.replicate n (48:UInt8)).toArray⟩
theorem Bb (n:Nat):(zerB n).size=n:=by show (List.replicate n (48:UInt8)).toArray.size=n;simp
theorem Dq (s:ByteArray):s++zerB 0=s:=Bj s
theorem Dw (s:ByteArray) (n:Nat):s++zerB (n+1)=s++zerB n++(⟨#[48]⟩:ByteArray):=by
 rw [ByteArray.append_assoc];congr 1;exact (repl_snoc n 48).symm
theorem Ek (n:Nat):(zerB n).data.toList=List.replicate n 48:=by simp [zerB]
set_option maxRecDepth 100000 in
set_option maxHeartbeats 6400000 in
theorem fmtE_any {B k L:Nat} {w:World} {v sl:Value} {s D:ByteArray} {dp prec:Int} {neg sh:Bool} (hR:RowK B k w v s) (hs:s.size<=1000) (hD2:D.size<=20) (d0:-900<=dp) (d1:dp<=900) (p0:-1<=prec) (p1:prec<=30)
   (hp:(D.size:Int)<=prec+1) (hL:D.size<=L) (hL2:L<=100) (hB:B<=w.heap.size) (hsl:D.size≠0->sl=.slice (some ⟨k,0,none⟩) L L)
   (hc:∀j (h:j<D.size),w.cell? ⟨k,j,none⟩=some (.int .u8 ((D.data[j]'h).toNat:Int))) :
   Calls Tryz.prog 140 #[v,.bool neg,sl,.int .i64 dp,.int .i64 (D.size:Int),.int .i64 prec,.int .u8 101,.bool sh] w fun e w' => ∃v' t,e=.returned v' /\ t.data.toList=effP neg D.data.toList dp prec.toNat/\Row B w' v' (s++t)/\Below B w w' := by
 obtain ⟨n,hn⟩:∃n,n=D.size:=⟨_,rfl⟩
 rw [<-hn] at hD2 hp hL hsl ⊢
 replace hc:=Hd hc
 replace hn:=Hd hn
 replace hsl:=Hd hsl
 replace hR:=Hd hR
 have e45:(⟨#[45]⟩:ByteArray).size=1:=rfl
 have e46:(⟨#[46]⟩:ByteArray).size=1:=rfl
 have e48:(⟨#[48]⟩:ByteArray).size=1:=rfl
 have e101:(⟨#[101]⟩:ByteArray).size=1:=rfl
 replace e45:=Hd e45
 replace e46:=Hd e46
 replace e48:=Hd e48
 replace e101:=Hd e101
 go_enter Tryz.func140,Tryz.ntmps140
 go_upto_if 78 with fail
 go_cut [0] from 80 to 81 (fun s0 wx=>∃T:ByteArray,T.data.toList=A3 neg/\T.size<=1/\RowK B k wx s0 (s++T)/\Below B w wx/\Kept k w wx)
 case first=>
   cases neg
   · go_wp2_with fail
     go_meet
     exact ⟨⟨#[]⟩,rfl,by decide,by rw [Bj];exact hR.out,Below.refl _ _,Kept.refl _ _⟩
   · have hz:s.size+(⟨#[45]⟩:ByteArray).size<=140737488355328:=by rw [e45.out];omega
     go_wp2_with (at_builtin;refine Au ⟨#[45]⟩ rfl rfl rfl hR.out rfl rfl hz hB ?_)
     intro v1 w1 hQ1 hb1 hk1;replace hQ1:=Hd hQ1;go_wp2_with fail
     go_meet
     exact ⟨⟨#[45]⟩,rfl,by decide,hQ1.out,hb1,hk1⟩
 case rest=>
   rename World=>w1
   rename Value=>v1
   obtain ⟨T1,hT1,hT1s,hQ1,hb01,hk01⟩:=hcut;have hB1:B<=w1.heap.size:=Nat.le_trans hB hb01.size;obtain ⟨ch,hch,hcn⟩:∃ch:UInt8,ch=D.data.toList.headD 48/\(n≠0->w1.cell? ⟨k,0,none⟩=some (.int .u8 (ch.toNat:Int))):=by
     refine ⟨_,rfl,fun h=>?_⟩;rw [hk01.cell,hc.out 0 (by have:=hn.out;omega)];have:0<D.data.toList.length:=by rw [Array.length_toList];show 0<D.size;have:=hn.out;omega
     cases h2:D.data.toList with
     | nil=>rw [h2] at this;simp at this
     | cons a m=>
       have h3:D.data[0]'(by have:=hn.out;show 0<D.size;omega)=D.data.toList[0]'this:=(Array.getElem_toList _).symm;rw [h3];simp [h2]
   replace hch:=Hd hch;replace hT1:=Hd hT1;replace hb01:=Hd hb01;replace hk01:=Hd hk01;replace hcn:=Hd hcn;obtain ⟨s1,hs1⟩:∃s1,s1=s++T1:=⟨_,rfl⟩;have hs1n:s1.size<=1001:=by rw [hs1,ByteArray.size_append];omega
   rw [<-hs1] at hQ1;replace hQ1:=Hd hQ1;replace hs1:=Hd hs1;clear hR
   go_upto_if 83 with fail
   go_cut [19] from 83 to 86 (fun s19 wx=>s19=.int .u8 (ch.toNat:Int)/\wx=w1)
   case first=>
     by_cases h0:n=0
     · have hcz:ch=48:=by
         have h1:=hch.out;have h2:D.data.toList=[]:=List.length_eq_zero_iff.1 (by rw [Array.length_toList];show D.size=0;have:=hn.out;omega);rw [h2] at h1;exact h1
       subst hcz;subst h0;go_wp2_with fail
       go_meet
       exact ⟨rfl,rfl⟩
     · have hc0:=hcn.out h0
       have hsl0:=hsl.out h0;subst hsl0;have hnz:((n:Int) != 0)=true:=by simp;omega
       have hLp:(0:Int)<(L:Int):=by omega
       go_wp2_with fail
       go_meet
       exact ⟨rfl,rfl⟩
   case rest=>
     obtain ⟨rfl,rfl⟩:=hcut;have hz2:s1.size+(⟨#[ch]⟩:ByteArray).size<=140737488355328:=by have:(⟨#[ch]⟩:ByteArray).size=1:=rfl;omega
     go_wp2_with (at_builtin;refine Au ⟨#[ch]⟩ rfl rfl rfl hQ1.out rfl rfl hz2 hB1 ?_)
     intro v2 w2 hQ2 hb2 hk2;have hB2:B<=w2.heap.size:=Nat.le_trans hB1 hb2.size;have hb02:=hb01.out.trans hb2;have hk02:=hk01.out.trans hk2;obtain ⟨s2,hs2⟩:∃s2,s2=s1++(⟨#[ch]⟩:ByteArray):=⟨_,rfl⟩;have hs2n:s2.size<=1002:=by have:(⟨#[ch]⟩:ByteArray).size=1:=rfl;rw [hs2,ByteArray.size_append];omega
     rw [<-hs2] at hQ2;clear hQ1 hb2 hk2 hz2 hb01 hk01;replace hQ2:=Hd hQ2;replace hb02:=Hd hb02;replace hk02:=Hd hk02;replace hs2:=Hd hs2
     go_upto_if 92 with fail
     go_cut [0] from 92 to 119 (fun s0 wx=>∃T:ByteArray,T.data.toList=midL D.data.toList prec.toNat/\T.size<=60/\RowK B k wx s0 (s2++T)/\Below B w wx)
     case first=>
       by_cases hp0:0<prec
       · have hpn:0<prec.toNat:=by omega
         have hz3:s2.size+(⟨#[46]⟩:ByteArray).size<=140737488355328:=by rw [e46.out];omega
         go_wp2_with (at_builtin;refine Au ⟨#[46]⟩ rfl rfl rfl hQ2.out rfl rfl hz3 hB2 ?_)
         intro v3 w3 hQ3 hb3 hk3;have hB3:B<=w3.heap.size:=Nat.le_trans hB2 hb3.size;have hb03:=hb02.out.trans hb3;have hk03:=hk02.out.trans hk3;obtain ⟨s3,hs3⟩:∃s3,s3=s2++(⟨#[46]⟩:ByteArray):=⟨_,rfl⟩;have hs3n:s3.size<=1003:=by rw [hs3,ByteArray.size_append,e46.out];omega
         rw [<-hs3] at hQ3;clear hQ2 hb02 hk02 hb3 hk3 hz3;replace hs3:=Hd hs3;have hlenD:D.data.toList.length=n:=by rw [Array.length_toList];exact hn.out.symm
         by_cases h2:2<=n
         · obtain ⟨z,hz⟩:∃z:Nat,prec+1 - (n:Int)=(z:Int):=⟨(prec+1 - n).toNat,by omega⟩
           have hzn:z<=30:=by omega
           have hmin2:min (n:Int) (prec+1)=(n:Int):=by omega
           have h1n:(1:Int)<(n:Int):=by omega
           have hnL:(n:Int)<=(L:Int):=by omega
           have hL0:(L:Int)<=100:=by omega
           have hsl0:=hsl.out (by omega);subst hsl0;obtain ⟨T4,hT⟩:∃T4,T4=D.extract 1 D.size:=⟨_,rfl⟩;have hTn:T4.size=n - 1:=by rw [hT,ByteArray.size_extract,hn.out];omega
           have hcT:∀j (h:j<T4.size),w3.cell? ⟨k,1+j,none⟩=some (.int .u8 ((T4.data[j]'h).toNat:Int)):=fun j h=>by
             rw [hk03.cell,hc.out (1+j) (by have:=hn.out;omega)];congr 4;subst hT;show D.data[1+j]'_=(D.extract 1 D.size).data[j]'_;simp [ByteArray.data_extract]
           have hD0:D.data.toList.tail=T4.data.toList:=by
             rw [hT,ByteArray.data_extract,Array.toList_extract,List.extract_eq_take_drop,<-List.drop_one];exact (List.take_of_length_le (by rw [List.length_drop,hlenD,hn.out];omega)).symm
           have hzj:prec.toNat - (D.data.toList.length - 1)=z:=by rw [hlenD];omega
           replace hcT:=Hd hcT;replace hQ3:=Hd hQ3;replace hT:=Hd hT;replace hTn:=Hd hTn;replace hD0:=Hd hD0;replace hzj:=Hd hzj;replace hlenD:=Hd hlenD;have hz5:s3.size+T4.size<=140737488355328:=by rw [hTn.out];omega
           go_wp2_with (at_builtin;refine app_bytesK (t:=T4) (off:=1) (cx:=L - 1) rfl rfl rfl hQ3.out (by rw [hTn.out];rfl) hcT.out hz5 hB3 ?_)
           intro v4 w4 hQ4 hb4 hk4;have hb04:=hb03.trans hb4;obtain ⟨s4,hs4⟩:∃s4,s4=s3++T4:=⟨_,rfl⟩;have hs4n:s4.size<=1030:=by rw [hs4,ByteArray.size_append,hTn.out];omega
           have hT4n:T4.size<=20:=by rw [hTn.out];omega
           rw [<-hs4] at hQ4;clear hb4 hk4 hk03 hcT hz5 hmin2 h1n;clear hQ3 hb03;replace hb04:=Hd hb04;replace hQ4:=Hd hQ4;replace hs4:=Hd hs4;go_wp2_with fail
           go_loopw [0,114] (fun u0 i wr=>∃j:Nat,j<=z/\i=.int .i64 j/\RowK B k wr u0 (s4++zerB j)/\Below B w wr) (fun _ i _=>z - (intOf i).toNat)
           case atStart=>exact ⟨0,Nat.zero_le _,rfl,by rw [Dq];exact hQ4.out,hb04.out⟩
           case round=>
             obtain ⟨j,hj,rfl,hQj,hbj⟩:=hrel;by_cases hlt:j<z
             · have hlti:(j:Int)<(z:Int):=by omega
               have hBj:B<=wr.heap.size:=Nat.le_trans hB hbj.size;have hzj:(s4++zerB j).size+(⟨#[48]⟩:ByteArray).size<=140737488355328:=by rw [ByteArray.size_append,Bb,e48.out];omega
               replace hQj:=Hd hQj;replace hbj:=Hd hbj;go_wp2_with (at_builtin;refine Au ⟨#[48]⟩ rfl rfl rfl hQj.out rfl rfl hzj hBj ?_)
               intro v9 w9 hQ9 hb9 hk9;replace hQ9:=Hd hQ9;go_wp2_with fail
               go_roundw
               case rel=>exact ⟨j+1,by omega,by go_num,by rw [Dw];exact hQ9.out,hbj.out.trans hb9⟩
               case measure=>simp [intOf];omega
             · obtain rfl:j=z:=by omega
               have hlti:¬(j:Int)<(j:Int):=by omega
               go_wp2_with fail
               go_meet
               refine ⟨(⟨#[46]⟩:ByteArray)++T4++zerB j,?_,?_,?_,hbj⟩
               · rw [midL_pos hpn,ByteArray.data_append,ByteArray.data_append,Array.toList_append,Array.toList_append,Ek,hD0.out,hzj.out];rfl
               · rw [ByteArray.size_append,ByteArray.size_append,e46.out,Bb];omega
               · rw [hs4.out,hs3.out] at hQj
                 simp only [ByteArray.append_assoc] at hQj ⊢;exact hQj
         · obtain ⟨z,hz⟩:∃z:Nat,prec=(z:Int):=⟨prec.toNat,by omega⟩
           have hz' : prec+1 - 1=(z:Int):=by omega
           have hzn:z<=30:=by omega
           have hmin2:min (n:Int) (prec+1)=(n:Int):=by omega
           have h1n:¬(1:Int)<(n:Int):=by omega
           obtain ⟨T4,hT4⟩:∃T4:ByteArray,T4=⟨#[]⟩:=⟨_,rfl⟩;have hD0:D.data.toList.tail=T4.data.toList:=by
             rw [hT4];show _=[];exact List.length_eq_zero_iff.1 (by rw [List.length_tail,hlenD];omega)
           have hzj:prec.toNat - (D.data.toList.length - 1)=z:=by rw [hlenD];omega
           have hT4n:T4.size<=20:=by rw [hT4];decide
           obtain ⟨s4,hs4⟩:∃s4,s4=s3++T4:=⟨_,rfl⟩;have hs4n:s4.size<=1030:=by rw [hs4,hT4,Bj];omega
           have hQ4:RowK B k w3 v3 s4:=by rw [hs4,hT4,Bj];exact hQ3
           have hb04:=hb03;replace hD0:=Hd hD0;replace hzj:=Hd hzj;replace hlenD:=Hd hlenD;replace hT4:=Hd hT4;replace hz:=Hd hz;clear hk03;clear hQ3 hb03;replace hb04:=Hd hb04;replace hQ4:=Hd hQ4;replace hs4:=Hd hs4;go_wp2_with fail
           go_loopw [0,114] (fun u0 i wr=>∃j:Nat,j<=z/\i=.int .i64 j/\RowK B k wr u0 (s4++zerB j)/\Below B w wr) (fun _ i _=>z - (intOf i).toNat)
           case atStart=>exact ⟨0,Nat.zero_le _,rfl,by rw [Dq];exact hQ4.out,hb04.out⟩
           case round=>
             obtain ⟨j,hj,rfl,hQj,hbj⟩:=hrel;by_cases hlt:j<z
             · have hlti:(j:Int)<(z:Int):=by omega
               have hBj:B<=wr.heap.size:=Nat.le_trans hB hbj.size;have hzj:(s4++zerB j).size+(⟨#[48]⟩:ByteArray).size<=140737488355328:=by rw [ByteArray.size_append,Bb,e48.out];omega
               replace hQj:=Hd hQj;replace hbj:=Hd hbj;go_wp2_with (at_builtin;refine Au ⟨#[48]⟩ rfl rfl rfl hQj.out rfl rfl hzj hBj ?_)
               intro v9 w9 hQ9 hb9 hk9;replace hQ9:=Hd hQ9;go_wp2_with fail
               go_roundw
               case rel=>exact ⟨j+1,by omega,by go_num,by rw [Dw];exact hQ9.out,hbj.out.trans hb9⟩
               case measure=>simp [intOf];omega
             · obtain rfl:j=z:=by omega
               have hlti:¬(j:Int)<(j:Int):=by omega
               go_wp2_with fail
               go_meet
               refine ⟨(⟨#[46]⟩:ByteArray)++T4++zerB j,?_,?_,?_,hbj⟩
               · rw [midL_pos hpn,ByteArray.data_append,ByteArray.data_append,Array.toList_append,Array.toList_append,Ek,hD0.out,hzj.out];rfl
               · rw [ByteArray.size_append,ByteArray.size_append,e46.out,Bb];omega
               · rw [hs4.out,hs3.out] at hQj
                 simp only [ByteArray.append_assoc] at hQj ⊢;exact hQj
       · have hpn:¬0<prec.toNat:=by omega
         go_wp2_with fail
         go_meet
         exact ⟨⟨#[]⟩,(midL_neg hpn).symm,by decide,by rw [Bj];exact hQ2.out,hb02.out⟩
     case rest=>
       rename World=>w3
       rename Value=>v3
       obtain ⟨T3,hT3,hT3s,hQ3,hb03⟩:=hcut;have hB3:B<=w3.heap.size:=Nat.le_trans hB hb03.size;have hz4:(s2++T3).size+(⟨#[101]⟩:ByteArray).size<=140737488355328:=by rw [ByteArray.size_append,e101.out];omega
       clear hQ2 hb02 hk02;replace hQ3:=Hd hQ3;replace hb03:=Hd hb03;replace hT3:=Hd hT3;go_wp2_with (at_builtin;refine Au ⟨#[101]⟩ rfl rfl rfl hQ3.out rfl rfl hz4 hB3 ?_)
       intro v4 w4 hQ4 hb4 hk4;have hB4:B<=w4.heap.size:=Nat.le_trans hB3 hb4.size;have hb04:=hb03.out.trans hb4;obtain ⟨s4,hs4⟩:∃s4,s4=s2++T3++(⟨#[101]⟩:ByteArray):=⟨_,rfl⟩;have hs4n:s4.size<=1063:=by rw [hs4,ByteArray.size_append,ByteArray.size_append,e101.out];omega
       rw [<-hs4] at hQ4;clear hQ3 hb03 hb4 hk4 hz4;replace hQ4:=Hd hQ4;replace hb04:=Hd hb04;replace hs4:=Hd hs4;obtain ⟨x,hxe⟩:∃x:Int,x=if D.data.toList.length=0 then 0 else dp - 1:=⟨_,rfl⟩;have hlenD:D.data.toList.length=n:=by rw [Array.length_toList];exact hn.out.symm
       have hx0:-901<=x:=by rw [hxe];split<;>omega
       have hx1:x<=899:=by rw [hxe];split<;>omega
       have hx2:x=if n=0 then 0 else dp - 1:=by rw [hxe,hlenD]
       replace hxe:=Hd hxe;replace hlenD:=Hd hlenD;replace hx2:=Hd hx2
       go_upto_if 127 with fail
       go_cut [22] from 127 to 127 (fun s22 wx=>s22=.int .i64 x/\wx=w4)
       case first=>
         by_cases h0:n=0
         · have hxz:x=0:=by rw [hx2.out,if_pos h0]
           subst hxz;subst h0;go_wp2_with fail
           go_meet
           exact ⟨rfl,rfl⟩
         · have hxz:dp - 1=x:=by rw [hx2.out,if_neg h0]
           have hnz:((n:Int) == 0)=false:=by simp;omega
           go_wp2_with fail
           go_meet
           exact ⟨by rw [hxz],rfl⟩
       case rest=>
         obtain ⟨rfl,hww⟩:=hcut;obtain rfl:=hww.symm;obtain ⟨sg,hsg⟩:∃sg:UInt8,sg=if x<0 then 45 else 43:=⟨_,rfl⟩;obtain ⟨y,hx⟩:∃y:Nat,x.natAbs=y:=⟨_,rfl⟩;have hy9:y<=999:=by omega
         replace hsg:=Hd hsg;replace hx:=Hd hx
         go_upto_if 129 with fail
         go_cut [19,22] from 129 to 131 (fun s19 s22 wx=>s19=.int .u8 (sg.toNat:Int)/\s22=.int .i64 (y:Int)/\wx=w4)
         case first=>
           by_cases h0:x<0
           · have hsz:sg=45:=by rw [hsg.out,if_pos h0]
             have hyx:-x=(y:Int):=by have:=hx.out;omega
             subst hsz;go_wp2_with fail
             go_meet
             exact ⟨rfl,rfl,rfl⟩
           · have hsz:sg=43:=by rw [hsg.out,if_neg h0]
             have hyx:x=(y:Int):=by have:=hx.out;omega
             subst hsz;subst hyx;go_wp2_with fail
             go_meet
             exact ⟨rfl,rfl,rfl⟩
         case rest=>
           obtain ⟨rfl,rfl,hww⟩:=hcut;obtain rfl:=hww.symm;have hz5:s4.size+(⟨#[sg]⟩:ByteArray).size<=140737488355328:=by have:(⟨#[sg]⟩:ByteArray).size=1:=rfl;omega
           go_wp2_with (at_builtin;refine Au ⟨#[sg]⟩ rfl rfl rfl hQ4.out rfl rfl hz5 hB4 ?_)
           intro v5 w5 hQ5 hb5 hk5;have hB5:B<=w5.heap.size:=Nat.le_trans hB4 hb5.size;have hb05:=hb04.out.trans hb5;obtain ⟨s5,hs5⟩:∃s5,s5=s4++(⟨#[sg]⟩:ByteArray):=⟨_,rfl⟩;have hs5n:s5.size<=1064:=by have:(⟨#[sg]⟩:ByteArray).size=1:=rfl;rw [hs5,ByteArray.size_append];omega
           obtain ⟨T,hTe⟩:∃T,T=T1++(⟨#[ch]⟩:ByteArray)++T3++(⟨#[101]⟩:ByteArray):=⟨_,rfl⟩;have hs5' : s5=s++T++(⟨#[sg]⟩:ByteArray):=by rw [hs5,hs4.out,hs2.out,hs1.out,hTe];simp only [ByteArray.append_assoc]
           have hT:∀E:List UInt8,sg :: E=expL x->∀E' : ByteArray,E'.data.toList=E->(T++(⟨#[sg]⟩:ByteArray)++E').data.toList=effP neg D.data.toList dp prec.toNat:=fun E hE E' hE' => by
             unfold effP;rw [<-hxe.out,<-hE,<-hT3.out,<-hT1.out,<-hch.out,hTe,<-hE'];simp [ByteArray.data_append]
           rw [<-hs5] at hQ5;clear hQ4 hb04 hb5 hk5 hz5 hs5;have hs5:=hs5';replace hs5:=Hd hs5;clear hs5';replace hT:=Hd hT;replace hQ5:=Hd hQ5;replace hb05:=Hd hb05;by_cases h10:y<10
           · have hd:(y:Int)+48=((dg8 y).toNat:Int):=by rw [Cq h10];omega
             have hz6:s5.size+(⟨#[48,dg8 y]⟩:ByteArray).size<=140737488355328:=by
               have e5:(⟨#[48,dg8 y]⟩:ByteArray).size<=3:=by show (#[48,dg8 y]:Array UInt8).size<=3;simp
               omega
             go_wp2_with (at_builtin;refine Au ⟨#[48,dg8 y]⟩ rfl rfl rfl hQ5.out rfl rfl hz6 hB5 ?_)
             intro v6 w6 hQ6 hb6 hk6;have hb16:=hb05.out.trans hb6;replace hQ6:=Hd hQ6;go_wp2_with fail
             go_ret;refine ⟨v6,T++⟨#[sg]⟩++⟨#[48,dg8 y]⟩,rfl,?_,?_,hb16⟩
             · refine hT.out _ (expL_at hx.out hsg.out ?_) ⟨#[48,dg8 y]⟩ rfl
               rw [if_pos h10]
             · have:=hQ6.out.row
               rw [hs5.out] at this;simp only [ByteArray.append_assoc] at this ⊢;exact this
           · obtain ⟨q,hqe⟩:∃q,q=y / 10:=⟨_,rfl⟩
             obtain ⟨r,hre⟩:∃r,r=y % 10:=⟨_,rfl⟩;have hq:(y:Int).tdiv 10=(q:Int):=by rw [Int.tdiv_eq_ediv_of_nonneg (by omega)];omega
             have hr:(y:Int).tmod 10=(r:Int):=by rw [Int.tmod_eq_emod_of_nonneg (by omega)];omega
             have hd2:(r:Int)+48=((dg8 r).toNat:Int):=by rw [Cq (by omega)];omega
             have hb1' : q<=99:=by omega
             have hb2' : r<=9:=by omega
             have hb3' : (dg8 r).toNat<=57:=by rw [Cq (by omega)];omega
             by_cases h100:y<100
             · have hb4' : (dg8 q).toNat<=57:=by rw [Cq (by omega)];omega
               have hd1:(q:Int)+48=((dg8 q).toNat:Int):=by rw [Cq (by omega)];omega
               replace hqe:=Hd hqe;replace hre:=Hd hre;have hz6:s5.size+(⟨#[dg8 q,dg8 r]⟩:ByteArray).size<=140737488355328:=by
                 have e5:(⟨#[dg8 q,dg8 r]⟩:ByteArray).size<=3:=by show (#[dg8 q,dg8 r]:Array UInt8).size<=3;simp
                 omega
               go_wp2_with (at_builtin;refine Au ⟨#[dg8 q,dg8 r]⟩ rfl rfl rfl hQ5.out rfl rfl hz6 hB5 ?_)
               intro v6 w6 hQ6 hb6 hk6;have hb16:=hb05.out.trans hb6;replace hQ6:=Hd hQ6;go_wp2_with fail
               go_ret;refine ⟨v6,T++⟨#[sg]⟩++⟨#[dg8 q,dg8 r]⟩,rfl,?_,?_,hb16⟩
               · refine hT.out _ (expL_at hx.out hsg.out ?_) ⟨#[dg8 q,dg8 r]⟩ rfl
                 rw [if_neg h10,if_pos h100,<-hqe.out,<-hre.out]
               · have:=hQ6.out.row
                 rw [hs5.out] at this;simp only [ByteArray.append_assoc] at this ⊢;exact this
             · obtain ⟨c,hce⟩:∃c,c=y / 100:=⟨_,rfl⟩
               obtain ⟨d,hde⟩:∃d,d=q % 10:=⟨_,rfl⟩;have hc9:(y:Int).tdiv 100=(c:Int):=by rw [Int.tdiv_eq_ediv_of_nonneg (by omega)];omega
               have hd9:(q:Int).tmod 10=(d:Int):=by rw [Int.tmod_eq_emod_of_nonneg (by omega)];omega
               have hd10:(q:Int) % 10=(d:Int):=by omega
               have hd1:(c:Int)+48=((dg8 c).toNat:Int):=by rw [Cq (by omega)];omega
               have hd3:(d:Int)+48=((dg8 d).toNat:Int):=by rw [Cq (by omega)];omega
               have hb5' : c<=9:=by omega
               have hb6' : d<=9:=by omega
               have hb7' : (dg8 c).toNat<=57:=by rw [Cq (by omega)];omega
               have hb8' : (dg8 d).toNat<=57:=by rw [Cq (by omega)];omega
               replace hqe:=Hd hqe;replace hre:=Hd hre;replace hce:=Hd hce;replace hde:=Hd hde;have hz6:s5.size+(⟨#[dg8 c,dg8 d,dg8 r]⟩:ByteArray).size<=140737488355328:=by
                 have e5:(⟨#[dg8 c,dg8 d,dg8 r]⟩:ByteArray).size<=3:=by show (#[dg8 c,dg8 d,dg8 r]:Array UInt8).size<=3;simp
                 omega
               go_wp2_with (at_builtin;refine Au ⟨#[dg8 c,dg8 d,dg8 r]⟩ rfl rfl rfl hQ5.out rfl rfl hz6 hB5 ?_)
               intro v6 w6 hQ6 hb6 hk6;have hb16:=hb05.out.trans hb6;replace hQ6:=Hd hQ6;go_wp2_with fail
               go_ret;refine ⟨v6,T++⟨#[sg]⟩++⟨#[dg8 c,dg8 d,dg8 r]⟩,rfl,?_,?_,hb16⟩
               · refine hT.out _ (expL_at hx.out hsg.out ?_) ⟨#[dg8 c,dg8 d,dg8 r]⟩ rfl
                 rw [if_neg h10,if_neg h100,<-hqe.out,<-hre.out,<-hce.out,<-hde.out]
               · have:=hQ6.out.row
                 rw [hs5.out] at this;simp only [ByteArray.append_assoc] at this ⊢;exact this
theorem F8 (s D:ByteArray) (o:Nat):s++D.extract o o=s:=by
 have:D.extract o o=(⟨#[]⟩:ByteArray):=by apply ByteArray.ext;simp
 rw [this,Bj]
theorem ext_succ (s D:ByteArray) {o j:Nat} {c:UInt8} (h:D.data[o+j]?=some c):s++D.extract o (o+(j+1))=s++D.extract o (o+j)++(⟨#[c]⟩:ByteArray):=by
 rw [ByteArray.append_assoc];congr 1;apply ByteArray.ext;rw [ByteArray.data_append,ByteArray.data_extract,ByteArray.data_extract];obtain ⟨h1,h2⟩:=Array.getElem?_eq_some_iff.1 h;apply Array.toList_inj.1;rw [Array.toList_append,Array.toList_extract,Array.toList_extract,List.extract_eq_take_drop,List.extract_eq_take_drop];rw [show o+(j+1) - o=j+1 by omega,show o+j - o=j by omega,List.take_add_one];congr 1;rw [List.getElem?_drop,Array.getElem?_toList,h];rfl
theorem ext_succ0 (s D:ByteArray) {j:Nat} {c:UInt8} (h:D.data[j]?=some c):s++D.extract 0 (j+1)=s++D.extract 0 j++(⟨#[c]⟩:ByteArray):=by
 have:=ext_succ s D (o:=0) (j:=j) (c:=c) (by rw [Nat.zero_add];exact h);rwa [Nat.zero_add,Nat.zero_add] at this
theorem F3 (D:ByteArray) (o m:Nat):(D.extract o m).data.toList=(D.data.toList.drop o).take (m - o):=by
 rw [ByteArray.data_extract,Array.toList_extract,List.extract_eq_take_drop]
def headL (D:List UInt8) (dp:Int):List UInt8:=if 0<dp then D.take dp.toNat++List.replicate (dp.toNat - D.length) 48 else [48]
def tailL (D:List UInt8) (dp:Int):List UInt8:=if dp<D.length then 46 :: (List.replicate (-dp).toNat 48++D.drop dp.toNat) else []
theorem effF_parts (neg:Bool) (D:List UInt8) (dp:Int):effF neg D dp=A3 neg++headL D dp++tailL D dp:=rfl
set_option maxRecDepth 100000 in
set_option maxHeartbeats 6400000 in
theorem fmtF_any {B k L:Nat} {w:World} {v sl:Value} {s D:ByteArray} {dp prec:Int} {neg sh:Bool} (hR:RowK B k w v s) (hs:s.size<=1000) (hD2:D.size<=20) (d0:-900<=dp) (d1:dp<=900)
   (hp0:0<prec->prec=D.size - dp) (hp1:prec<=0->(D.size:Int)<=dp) (p0:-1<=prec) (p1:prec<=920) (hdp:dp≠0->D.size≠0) (hL:D.size<=L) (hL2:L<=100) (hB:B<=w.heap.size) (hsl:D.size≠0->sl=.slice (some ⟨k,0,none⟩) L L)
   (hc:∀j (h:j<D.size),w.cell? ⟨k,j,none⟩=some (.int .u8 ((D.data[j]'h).toNat:Int))) :
   Calls Tryz.prog 140 #[v,.bool neg,sl,.int .i64 dp,.int .i64 (D.size:Int),.int .i64 prec,.int .u8 102,.bool sh] w fun e w' => ∃v' t,e=.returned v' /\ t.data.toList=effF neg D.data.toList dp/\Row B w' v' (s++t)/\Below B w w' := by
 have hcell:∀j,j<D.size->∃c:UInt8,D.data[j]?=some c/\w.cell? ⟨k,j,none⟩=some (.int .u8 (c.toNat:Int)):=fun j h=>⟨_,Array.getElem?_eq_getElem (show j<D.data.size from h),hc j h⟩
 have hlenD:D.data.toList.length=D.size:=by rw [Array.length_toList];rfl
 obtain ⟨n,hn⟩:∃n,n=D.size:=⟨_,rfl⟩
 rw [<-hn] at hD2 hp0 hp1 hdp hL hsl hcell hlenD ⊢
 clear hc
 replace hcell:=Hd hcell
 replace hlenD:=Hd hlenD
 replace hn:=Hd hn
 replace hsl:=Hd hsl
 replace hR:=Hd hR
 replace hdp:=Hd hdp
 replace hp0:=Hd hp0
 replace hp1:=Hd hp1
 have e45:(⟨#[45]⟩:ByteArray).size=1:=rfl
 have e46:(⟨#[46]⟩:ByteArray).size=1:=rfl
 have e48:(⟨#[48]⟩:ByteArray).size=1:=rfl
 replace e45:=Hd e45
 replace e46:=Hd e46
 replace e48:=Hd e48
 go_enter Tryz.func140,Tryz.ntmps140
 go_upto_if 178 with fail
 go_cut [0] from 178 to 181 (fun s0 wx=>∃T:ByteArray,T.data.toList=A3 neg/\T.size<=1/\RowK B k wx s0 (s++T)/\Below B w wx/\Kept k w wx)
 case first=>
   cases neg
   · go_wp2_with fail
     go_meet
     exact ⟨⟨#[]⟩,rfl,by decide,by rw [Bj];exact hR.out,Below.refl _ _,Kept.refl _ _⟩
   · have hz:s.size+(⟨#[45]⟩:ByteArray).size<=140737488355328:=by rw [e45.out];omega
     go_wp2_with (at_builtin;refine Au ⟨#[45]⟩ rfl rfl rfl hR.out rfl rfl hz hB ?_)
     intro v1 w1 hQ1 hb1 hk1;replace hQ1:=Hd hQ1;go_wp2_with fail
     go_meet
     exact ⟨⟨#[45]⟩,rfl,by decide,hQ1.out,hb1,hk1⟩
 case rest=>
   rename World=>w1
   rename Value=>v1
   obtain ⟨T1,hT1,hT1s,hQ1,hb01,hk01⟩:=hcut;have hB1:B<=w1.heap.size:=Nat.le_trans hB hb01.size;obtain ⟨s1,hs1⟩:∃s1,s1=s++T1:=⟨_,rfl⟩;have hs1n:s1.size<=1001:=by rw [hs1,ByteArray.size_append];omega
   rw [<-hs1] at hQ1;replace hT1:=Hd hT1;replace hb01:=Hd hb01;replace hk01:=Hd hk01;replace hQ1:=Hd hQ1;replace hs1:=Hd hs1;clear hR
   go_upto_if 183 with fail
   go_cut [0] from 183 to 211 (fun s0 wx=>∃T:ByteArray,T.data.toList=headL D.data.toList dp/\T.size<=1000/\RowK B k wx s0 (s1++T)/\Below B w wx/\Kept k w wx)
   case first=>
     by_cases h0:0<dp
     · have hn0:=hdp.out (by omega)
       have hsl0:=hsl.out hn0;subst hsl0;obtain ⟨p,rfl⟩:∃p:Nat,dp=(p:Int):=⟨dp.toNat,by omega⟩;have hL0:(L:Int)<=100:=by omega
       have hhead:∀m z:Nat,(p<n/\m=p/\z=0)\/(n<=p/\m=n/\z=p - n)->headL D.data.toList p=(D.extract 0 m++zerB z).data.toList:=fun m z h=>by
         unfold headL;rw [if_pos h0,ByteArray.data_append,Array.toList_append,F3,Ek,hlenD.out,List.drop_zero,Int.toNat_natCast];have e1:D.data.toList.take p=D.data.toList.take (m - 0):=by
           rw [show m - 0=m by omega];rcases h with ⟨h1,h2,h3⟩ | ⟨h1,h2,h3⟩
           · rw [h2]
           · rw [List.take_of_length_le (by rw [hlenD.out];omega),List.take_of_length_le (by rw [hlenD.out];omega)]
         rw [e1];congr 2;omega
       by_cases h9:p<n
       · have hmn:(p:Int)<(n:Int):=by omega
         have hmL:(p:Int)<=(L:Int):=by omega
         have hhead' := hhead p 0 (.inl ⟨h9,rfl,rfl⟩);replace hhead' := Hd hhead';clear hhead;go_wp2_with fail
         go_loopw [0,25,191] (fun u0 u25 i wr=>∃j:Nat,j<=p/\i=.int .i64 j/\RowK B k wr u0 (s1++D.extract 0 j)/\Below B w wr/\Kept k w wr) (fun _ _ i _=>p - (intOf i).toNat)
         case atStart=>exact ⟨0,Nat.zero_le _,rfl,by rw [F8];exact hQ1.out,hb01.out,hk01.out⟩
         case round=>
           obtain ⟨j,hj,rfl,hQj,hbj,hkj⟩:=hrel;by_cases hlt:j<p
           · have hlti:(j:Int)<(p:Int):=by omega
             have hBj:B<=wr.heap.size:=Nat.le_trans hB hbj.size;obtain ⟨c,hce,hcw⟩:=hcell.out j (by omega);have hcw:=(hkj.cell j).trans hcw;replace hce:=Hd hce;have hzj:(s1++D.extract 0 j).size+(⟨#[c]⟩:ByteArray).size<=140737488355328:=by
               have e1:(⟨#[c]⟩:ByteArray).size=1:=rfl;rw [ByteArray.size_append,ByteArray.size_extract,e1];omega
             replace hQj:=Hd hQj;replace hbj:=Hd hbj;replace hkj:=Hd hkj;go_wp2_with (at_builtin;refine Au ⟨#[c]⟩ rfl rfl rfl hQj.out rfl rfl hzj hBj ?_)
             intro v9 w9 hQ9 hb9 hk9;replace hQ9:=Hd hQ9;replace hk9:=Hd hk9;go_wp2_with fail
             go_roundw
             case rel=>exact ⟨j+1,by omega,by go_num,by rw [ext_succ0 s1 D hce.out];exact hQ9.out,hbj.out.trans hb9,hkj.out.trans hk9.out⟩
             case measure=>simp [intOf]<;>omega
           · have hjm:p=j:=by omega
             subst hjm;have hlti:¬(p:Int)<(p:Int):=by omega
             obtain ⟨s2,hs2⟩:∃s2,s2=s1++D.extract 0 p:=⟨_,rfl⟩;have hs2n:s2.size<=1030:=by rw [hs2,ByteArray.size_append,ByteArray.size_extract];omega
             rw [<-hs2] at hQj;have hQ2:=Hd hQj;have hb2:=Hd hbj;have hk2:=Hd hkj;replace hs2:=Hd hs2;clear hQj hbj hkj hQ1 hb01 hk01;go_wp2_with fail
             go_loopw [0,203] (fun u0 i wr=>∃j:Nat,j<=0/\i=.int .i64 j/\RowK B k wr u0 (s2++zerB j)/\Below B w wr/\Kept k w wr) (fun _ i _=>0 - (intOf i).toNat)
             case atStart=>exact ⟨0,Nat.zero_le _,rfl,by rw [Dq];exact hQ2.out,hb2.out,hk2.out⟩
             case round=>
               obtain ⟨j,hj,rfl,hQj,hbj,hkj⟩:=hrel;by_cases hlt:j<0
               · first
                 | exact absurd hlt (Nat.not_lt_zero _)
                 | (
                   have hlti:(j:Int)<((0:Nat):Int):=by omega
                   have hBj:B<=wr.heap.size:=Nat.le_trans hB hbj.size
                   have hzj:(s2++zerB j).size+(⟨#[48]⟩:ByteArray).size<=140737488355328:=by rw [ByteArray.size_append,Bb,e48.out];omega
                   replace hQj:=Hd hQj
                   replace hbj:=Hd hbj
                   replace hkj:=Hd hkj
                   go_wp2_with (at_builtin;refine Au ⟨#[48]⟩ rfl rfl rfl hQj.out rfl rfl hzj hBj ?_)
                   intro v9 w9 hQ9 hb9 hk9
                   replace hQ9:=Hd hQ9
                   replace hk9:=Hd hk9
                   go_wp2_with fail
                   go_roundw
                   case rel=>exact ⟨j+1,by omega,by go_num,by rw [Dw];exact hQ9.out,hbj.out.trans hb9,hkj.out.trans hk9.out⟩
                   case measure=>simp [intOf]<;>omega
                   )
               · have hjz:0=j:=by omega
                 subst hjz;have hlti:¬((0:Nat):Int)<((0:Nat):Int):=by omega
                 go_wp2_with fail
                 go_meet
                 refine ⟨D.extract 0 p++zerB 0,hhead'.out.symm,?_,?_,hbj,hkj⟩
                 · rw [ByteArray.size_append,ByteArray.size_extract,Bb];omega
                 · rw [hs2.out,ByteArray.append_assoc] at hQj
                   exact hQj
       · obtain ⟨z,hz⟩:∃z:Nat,z=p - n:=⟨_,rfl⟩
         have hmn:(n:Int)<=(p:Int):=by omega
         have hz1:(p:Int) - (n:Int)=(z:Int):=by omega
         have hzm:z<=900:=by omega
         have hmL:(n:Int)<=(L:Int):=by omega
         have hhead' := hhead n z (.inr ⟨by omega,rfl,hz⟩);replace hhead' := Hd hhead';replace hz:=Hd hz;clear hhead;go_wp2_with fail
         go_loopw [0,25,191] (fun u0 u25 i wr=>∃j:Nat,j<=n/\i=.int .i64 j/\RowK B k wr u0 (s1++D.extract 0 j)/\Below B w wr/\Kept k w wr) (fun _ _ i _=>n - (intOf i).toNat)
         case atStart=>exact ⟨0,Nat.zero_le _,rfl,by rw [F8];exact hQ1.out,hb01.out,hk01.out⟩
         case round=>
           obtain ⟨j,hj,rfl,hQj,hbj,hkj⟩:=hrel;by_cases hlt:j<n
           · have hlti:(j:Int)<(n:Int):=by omega
             have hBj:B<=wr.heap.size:=Nat.le_trans hB hbj.size;obtain ⟨c,hce,hcw⟩:=hcell.out j (by omega);have hcw:=(hkj.cell j).trans hcw;replace hce:=Hd hce;have hzj:(s1++D.extract 0 j).size+(⟨#[c]⟩:ByteArray).size<=140737488355328:=by
               have e1:(⟨#[c]⟩:ByteArray).size=1:=rfl;rw [ByteArray.size_append,ByteArray.size_extract,e1];omega
             replace hQj:=Hd hQj;replace hbj:=Hd hbj;replace hkj:=Hd hkj;go_wp2_with (at_builtin;refine Au ⟨#[c]⟩ rfl rfl rfl hQj.out rfl rfl hzj hBj ?_)
             intro v9 w9 hQ9 hb9 hk9;replace hQ9:=Hd hQ9;replace hk9:=Hd hk9;go_wp2_with fail
             go_roundw
             case rel=>exact ⟨j+1,by omega,by go_num,by rw [ext_succ0 s1 D hce.out];exact hQ9.out,hbj.out.trans hb9,hkj.out.trans hk9.out⟩
             case measure=>simp [intOf]<;>omega
           · have hjm:n=j:=by omega
             subst hjm;have hlti:¬(n:Int)<(n:Int):=by omega
             obtain ⟨s2,hs2⟩:∃s2,s2=s1++D.extract 0 n:=⟨_,rfl⟩;have hs2n:s2.size<=1030:=by rw [hs2,ByteArray.size_append,ByteArray.size_extract];omega
             rw [<-hs2] at hQj;have hQ2:=Hd hQj;have hb2:=Hd hbj;have hk2:=Hd hkj;replace hs2:=Hd hs2;clear hQj hbj hkj hQ1 hb01 hk01;go_wp2_with fail
             go_loopw [0,203] (fun u0 i wr=>∃j:Nat,j<=z/\i=.int .i64 j/\RowK B k wr u0 (s2++zerB j)/\Below B w wr/\Kept k w wr) (fun _ i _=>z - (intOf i).toNat)
             case atStart=>exact ⟨0,Nat.zero_le _,rfl,by rw [Dq];exact hQ2.out,hb2.out,hk2.out⟩
             case round=>
               obtain ⟨j,hj,rfl,hQj,hbj,hkj⟩:=hrel;by_cases hlt:j<z
               · first
                 | exact absurd hlt (Nat.not_lt_zero _)
                 | (
                   have hlti:(j:Int)<((z:Nat):Int):=by omega
                   have hBj:B<=wr.heap.size:=Nat.le_trans hB hbj.size
                   have hzj:(s2++zerB j).size+(⟨#[48]⟩:ByteArray).size<=140737488355328:=by rw [ByteArray.size_append,Bb,e48.out];omega
                   replace hQj:=Hd hQj
                   replace hbj:=Hd hbj
                   replace hkj:=Hd hkj
                   go_wp2_with (at_builtin;refine Au ⟨#[48]⟩ rfl rfl rfl hQj.out rfl rfl hzj hBj ?_)
                   intro v9 w9 hQ9 hb9 hk9
                   replace hQ9:=Hd hQ9
                   replace hk9:=Hd hk9
                   go_wp2_with fail
                   go_roundw
                   case rel=>exact ⟨j+1,by omega,by go_num,by rw [Dw];exact hQ9.out,hbj.out.trans hb9,hkj.out.trans hk9.out⟩
                   case measure=>simp [intOf]<;>omega
                   )
               · have hjz:z=j:=by omega
                 subst hjz;have hlti:¬((z:Nat):Int)<((z:Nat):Int):=by omega
                 go_wp2_with fail
                 go_meet
                 refine ⟨D.extract 0 n++zerB z,hhead'.out.symm,?_,?_,hbj,hkj⟩
                 · rw [ByteArray.size_append,ByteArray.size_extract,Bb];omega
                 · rw [hs2.out,ByteArray.append_assoc] at hQj
                   exact hQj
     · have hhead:headL D.data.toList dp=[48]:=if_neg h0
       have hz:s1.size+(⟨#[48]⟩:ByteArray).size<=140737488355328:=by rw [e48.out];omega
       replace hhead:=Hd hhead;go_wp2_with (at_builtin;refine Au ⟨#[48]⟩ rfl rfl rfl hQ1.out rfl rfl hz hB1 ?_)
       intro v2 w2 hQ2 hb2 hk2;replace hQ2:=Hd hQ2;replace hk2:=Hd hk2;go_wp2_with fail
       go_meet
       exact ⟨⟨#[48]⟩,hhead.out.symm,by decide,hQ2.out,hb01.out.trans hb2,hk01.out.trans hk2.out⟩
   case rest=>
     rename World=>w2
     rename Value=>v2
     obtain ⟨T2,hT2,hT2s,hQ2,hb02,hk02⟩:=hcut;have hB2:B<=w2.heap.size:=Nat.le_trans hB hb02.size;obtain ⟨s2,hs2⟩:∃s2,s2=s1++T2:=⟨_,rfl⟩;have hs2n:s2.size<=2005:=by rw [hs2,ByteArray.size_append];omega
     rw [<-hs2] at hQ2;clear hQ1 hb01 hk01;replace hT2:=Hd hT2;replace hb02:=Hd hb02;replace hk02:=Hd hk02;replace hQ2:=Hd hQ2;replace hs2:=Hd hs2
     go_upto_if 213 with fail
     go_cut [0] from 213 to 266 (fun s0 wx=>∃T:ByteArray,T.data.toList=tailL D.data.toList dp/\Row B wx s0 (s2++T)/\Below B w wx)
     case first=>
       obtain ⟨dp', hdpe⟩:∃x,x=dp:=⟨_,rfl⟩;by_cases h0:0<prec
       · have hpe:=hp0.out h0
         clear hp0 hp1;by_cases hz0:dp=0
         · have hn0:n≠0:=by omega
           have hsl0:=hsl.out hn0;subst hsl0;clear hsl;subst hz0;have hpn:prec=(n:Int):=by omega
           subst hpn;have hL0:(L:Int)<=100:=by omega
           clear hpe;obtain ⟨o,ho⟩:∃o,o=0:=⟨_,rfl⟩;replace ho:=Hd ho;have hz3:s2.size+(⟨#[46]⟩:ByteArray).size<=140737488355328:=by rw [e46.out];omega
           have htail:tailL D.data.toList dp' = 46 :: (List.replicate 0 48++D.data.toList.drop o):=by
             unfold tailL;rw [if_pos (by rw [hlenD.out];omega)];have hO:=ho.out;congr 3;all_goals omega
           replace htail:=Hd htail;replace hdpe:=Hd hdpe;go_wp2_with (at_builtin;refine Au ⟨#[46]⟩ rfl rfl rfl hQ2.out rfl rfl hz3 hB2 ?_)
           intro v3 w3 hQ3 hb3 hk3;have hb03:=hb02.out.trans hb3;have hk03:=hk02.out.trans hk3;obtain ⟨s3,hs3⟩:∃s3,s3=s2++(⟨#[46]⟩:ByteArray):=⟨_,rfl⟩;have hs3n:s3.size<=2010:=by rw [hs3,ByteArray.size_append,e46.out];omega
           rw [<-hs3] at hQ3;clear hQ2 hb02 hk02 hb3 hk3;replace hs3:=Hd hs3;replace hQ3:=Hd hQ3;replace hb03:=Hd hb03;replace hk03:=Hd hk03;go_wp2_with fail
           go_loopw [0,240] (fun u0 i wr=>∃j:Nat,j<=0/\i=.int .i64 j/\RowK B k wr u0 (s3++zerB j)/\Below B w wr/\Kept k w wr) (fun _ i _=>0 - (intOf i).toNat)
           case atStart=>exact ⟨0,Nat.zero_le _,rfl,by rw [Dq];exact hQ3.out,hb03.out,hk03.out⟩
           case round=>
             obtain ⟨j,hj,rfl,hQj,hbj,hkj⟩:=hrel;by_cases hlt:j<0
             · first
               | exact absurd hlt (Nat.not_lt_zero _)
               | (
                 have hlti:(j:Int)<((0:Nat):Int):=by omega
                 have hBj:B<=wr.heap.size:=Nat.le_trans hB hbj.size
                 have hzj:(s3++zerB j).size+(⟨#[48]⟩:ByteArray).size<=140737488355328:=by rw [ByteArray.size_append,Bb,e48.out];omega
                 replace hQj:=Hd hQj
                 replace hbj:=Hd hbj
                 replace hkj:=Hd hkj
                 go_wp2_with (at_builtin;refine Au ⟨#[48]⟩ rfl rfl rfl hQj.out rfl rfl hzj hBj ?_)
                 intro v9 w9 hQ9 hb9 hk9
                 replace hQ9:=Hd hQ9
                 replace hk9:=Hd hk9
                 go_wp2_with fail
                 go_roundw
                 case rel=>exact ⟨j+1,by omega,by go_num,by rw [Dw];exact hQ9.out,hbj.out.trans hb9,hkj.out.trans hk9.out⟩
                 case measure=>simp [intOf]<;>omega
                 )
             · have hjz:0=j:=by omega
               subst hjz;have hlti:¬((0:Nat):Int)<((0:Nat):Int):=by omega
               obtain ⟨s4,hs4⟩:∃s4,s4=s3++zerB 0:=⟨_,rfl⟩;have hs4n:s4.size<=3000:=by rw [hs4,ByteArray.size_append,Bb];omega
               rw [<-hs4] at hQj;have hQ4:=Hd hQj;have hb4:=Hd hbj;have hk4:=Hd hkj;replace hs4:=Hd hs4;clear hQj hbj hkj hQ3 hb03 hk03;go_wp2_with fail
               go_loopw [0,30,247] (fun u0 u30 i wr=>∃j:Nat,j<=n/\i=.int .i64 j/\RowK B k wr u0 (s4++D.extract o (o+j))/\Below B w wr/\Kept k w wr) (fun _ _ i _=>n - (intOf i).toNat)
               case atStart=>exact ⟨0,Nat.zero_le _,rfl,by rw [Nat.add_zero,F8];exact hQ4.out,hb4.out,hk4.out⟩
               case round=>
                 obtain ⟨j,hj,rfl,hQj,hbj,hkj⟩:=hrel;by_cases hlt:j<n
                 · have hlti:(j:Int)<(n:Int):=by omega
                   have hBj:B<=wr.heap.size:=Nat.le_trans hB hbj.size;obtain ⟨i,hie⟩:∃i,i=o+j:=⟨_,rfl⟩;have hij:(j:Int)=(i:Int):=by have hO:=ho.out;omega
                   have hiL:(i:Int)<(L:Int):=by have hO:=ho.out;omega
                   obtain ⟨c,hce,hcw⟩:=hcell.out i (by have hO:=ho.out;omega);have hcw:=(hkj.cell i).trans hcw;have hzj:(s4++D.extract o (o+j)).size+(⟨#[c]⟩:ByteArray).size<=140737488355328:=by
                     have e1:(⟨#[c]⟩:ByteArray).size=1:=rfl;rw [ByteArray.size_append,ByteArray.size_extract,e1];omega
                   rw [hie] at hce;replace hce:=Hd hce;replace hie:=Hd hie;replace hQj:=Hd hQj;replace hbj:=Hd hbj;replace hkj:=Hd hkj;go_wp2_with (at_builtin;refine Au ⟨#[c]⟩ rfl rfl rfl hQj.out rfl rfl hzj hBj ?_)
                   intro v9 w9 hQ9 hb9 hk9;replace hQ9:=Hd hQ9;replace hk9:=Hd hk9;go_wp2_with fail
                   go_roundw
                   case rel=>exact ⟨j+1,by omega,by go_num,by rw [ext_succ s4 D hce.out];exact hQ9.out,hbj.out.trans hb9,hkj.out.trans hk9.out⟩
                   case measure=>simp [intOf]<;>omega
                 · have hjm:n=j:=by omega
                   subst hjm;have hlti:¬(n:Int)<(n:Int):=by omega
                   have hQ5:=Hd hQj;have hb5:=Hd hbj;clear hQj hbj hkj;go_wp2_with fail
                   go_loopw [0,261] (fun u0 i wr=>i=.int .i64 0/\RowK B k wr u0 (s4++D.extract o (o+n))/\Below B w wr) (fun _ _ _=>0)
                   case atStart=>exact ⟨rfl,hQ5.out,hb5.out⟩
                   case round=>
                     obtain ⟨rfl,hQj,hbj⟩:=hrel;go_wp2_with fail
                     go_meet
                     refine ⟨(⟨#[46]⟩:ByteArray)++zerB 0++D.extract o (o+n),?_,?_,hbj⟩
                     · rw [<-hdpe.out,htail.out,ByteArray.data_append,ByteArray.data_append,Array.toList_append,Array.toList_append,Ek,F3,List.take_of_length_le (by have hO:=ho.out;rw [List.length_drop,hlenD.out];omega)]
                       simp
                     · rw [hs4.out,hs3.out] at hQj
                       simp only [ByteArray.append_assoc] at hQj ⊢;exact hQj.row
         · have hn0:=hdp.out hz0
           have hsl0:=hsl.out hn0;subst hsl0;clear hsl;have hL0:(L:Int)<=100:=by omega
           by_cases hneg:dp<0
           · obtain ⟨z,hz⟩:∃z:Nat,dp=-(z:Int):=⟨(-dp).toNat,by omega⟩
             subst hz;have hzp:(0:Int)<(z:Int):=by omega
             have hlz:(z:Int)<prec:=by omega
             have hpz:prec - (z:Int)=(n:Int):=by omega
             have hnp:(0:Int)<(n:Int):=by omega
             have hz9:z<=900:=by omega
             replace hpe:=Hd hpe;have hzz:-(z:Int)+(z:Int)=0:=by omega
             obtain ⟨o,ho⟩:∃o,o=0:=⟨_,rfl⟩;replace ho:=Hd ho;have hz3:s2.size+(⟨#[46]⟩:ByteArray).size<=140737488355328:=by rw [e46.out];omega
             have htail:tailL D.data.toList dp' = 46 :: (List.replicate z 48++D.data.toList.drop o):=by
               unfold tailL;rw [if_pos (by rw [hlenD.out];omega)];have hO:=ho.out;congr 3;all_goals omega
             replace htail:=Hd htail;replace hdpe:=Hd hdpe;go_wp2_with (at_builtin;refine Au ⟨#[46]⟩ rfl rfl rfl hQ2.out rfl rfl hz3 hB2 ?_)
             intro v3 w3 hQ3 hb3 hk3;have hb03:=hb02.out.trans hb3;have hk03:=hk02.out.trans hk3;obtain ⟨s3,hs3⟩:∃s3,s3=s2++(⟨#[46]⟩:ByteArray):=⟨_,rfl⟩;have hs3n:s3.size<=2010:=by rw [hs3,ByteArray.size_append,e46.out];omega
             rw [<-hs3] at hQ3;clear hQ2 hb02 hk02 hb3 hk3;replace hs3:=Hd hs3;replace hQ3:=Hd hQ3;replace hb03:=Hd hb03;replace hk03:=Hd hk03;go_wp2_with fail
             go_loopw [0,240] (fun u0 i wr=>∃j:Nat,j<=z/\i=.int .i64 j/\RowK B k wr u0 (s3++zerB j)/\Below B w wr/\Kept k w wr) (fun _ i _=>z - (intOf i).toNat)
             case atStart=>exact ⟨0,Nat.zero_le _,rfl,by rw [Dq];exact hQ3.out,hb03.out,hk03.out⟩
             case round=>
               obtain ⟨j,hj,rfl,hQj,hbj,hkj⟩:=hrel;by_cases hlt:j<z
               · first
                 | exact absurd hlt (Nat.not_lt_zero _)
                 | (
                   have hlti:(j:Int)<((z:Nat):Int):=by omega
                   have hBj:B<=wr.heap.size:=Nat.le_trans hB hbj.size
                   have hzj:(s3++zerB j).size+(⟨#[48]⟩:ByteArray).size<=140737488355328:=by rw [ByteArray.size_append,Bb,e48.out];omega
                   replace hQj:=Hd hQj
                   replace hbj:=Hd hbj
                   replace hkj:=Hd hkj
                   go_wp2_with (at_builtin;refine Au ⟨#[48]⟩ rfl rfl rfl hQj.out rfl rfl hzj hBj ?_)
                   intro v9 w9 hQ9 hb9 hk9
                   replace hQ9:=Hd hQ9
                   replace hk9:=Hd hk9
                   go_wp2_with fail
                   go_roundw
                   case rel=>exact ⟨j+1,by omega,by go_num,by rw [Dw];exact hQ9.out,hbj.out.trans hb9,hkj.out.trans hk9.out⟩
                   case measure=>simp [intOf]<;>omega
                   )
               · have hjz:z=j:=by omega
                 subst hjz;have hlti:¬((z:Nat):Int)<((z:Nat):Int):=by omega
                 obtain ⟨s4,hs4⟩:∃s4,s4=s3++zerB z:=⟨_,rfl⟩;have hs4n:s4.size<=3000:=by rw [hs4,ByteArray.size_append,Bb];omega
                 rw [<-hs4] at hQj;have hQ4:=Hd hQj;have hb4:=Hd hbj;have hk4:=Hd hkj;replace hs4:=Hd hs4;clear hQj hbj hkj hQ3 hb03 hk03;go_wp2_with fail
                 go_loopw [0,30,247] (fun u0 u30 i wr=>∃j:Nat,j<=n/\i=.int .i64 j/\RowK B k wr u0 (s4++D.extract o (o+j))/\Below B w wr/\Kept k w wr) (fun _ _ i _=>n - (intOf i).toNat)
                 case atStart=>exact ⟨0,Nat.zero_le _,rfl,by rw [Nat.add_zero,F8];exact hQ4.out,hb4.out,hk4.out⟩
                 case round=>
                   obtain ⟨j,hj,rfl,hQj,hbj,hkj⟩:=hrel;by_cases hlt:j<n
                   · have hlti:(j:Int)<(n:Int):=by omega
                     have hBj:B<=wr.heap.size:=Nat.le_trans hB hbj.size;obtain ⟨i,hie⟩:∃i,i=o+j:=⟨_,rfl⟩;have hij:(j:Int)=(i:Int):=by have hO:=ho.out;omega
                     have hiL:(i:Int)<(L:Int):=by have hO:=ho.out;omega
                     obtain ⟨c,hce,hcw⟩:=hcell.out i (by have hO:=ho.out;omega);have hcw:=(hkj.cell i).trans hcw;have hzj:(s4++D.extract o (o+j)).size+(⟨#[c]⟩:ByteArray).size<=140737488355328:=by
                       have e1:(⟨#[c]⟩:ByteArray).size=1:=rfl;rw [ByteArray.size_append,ByteArray.size_extract,e1];omega
                     rw [hie] at hce;replace hce:=Hd hce;replace hie:=Hd hie;replace hQj:=Hd hQj;replace hbj:=Hd hbj;replace hkj:=Hd hkj;go_wp2_with (at_builtin;refine Au ⟨#[c]⟩ rfl rfl rfl hQj.out rfl rfl hzj hBj ?_)
                     intro v9 w9 hQ9 hb9 hk9;replace hQ9:=Hd hQ9;replace hk9:=Hd hk9;go_wp2_with fail
                     go_roundw
                     case rel=>exact ⟨j+1,by omega,by go_num,by rw [ext_succ s4 D hce.out];exact hQ9.out,hbj.out.trans hb9,hkj.out.trans hk9.out⟩
                     case measure=>simp [intOf]<;>omega
                   · have hjm:n=j:=by omega
                     subst hjm;have hlti:¬(n:Int)<(n:Int):=by omega
                     have hQ5:=Hd hQj;have hb5:=Hd hbj;clear hQj hbj hkj;go_wp2_with fail
                     go_loopw [0,261] (fun u0 i wr=>i=.int .i64 0/\RowK B k wr u0 (s4++D.extract o (o+n))/\Below B w wr) (fun _ _ _=>0)
                     case atStart=>exact ⟨rfl,hQ5.out,hb5.out⟩
                     case round=>
                       obtain ⟨rfl,hQj,hbj⟩:=hrel;go_wp2_with fail
                       go_meet
                       refine ⟨(⟨#[46]⟩:ByteArray)++zerB z++D.extract o (o+n),?_,?_,hbj⟩
                       · rw [<-hdpe.out,htail.out,ByteArray.data_append,ByteArray.data_append,Array.toList_append,Array.toList_append,Ek,F3,List.take_of_length_le (by have hO:=ho.out;rw [List.length_drop,hlenD.out];omega)]
                         simp
                       · rw [hs4.out,hs3.out] at hQj
                         simp only [ByteArray.append_assoc] at hQj ⊢;exact hQj.row
           · obtain ⟨p,hp⟩:∃p:Nat,dp=(p:Int):=⟨dp.toNat,by omega⟩
             subst hp;have hpp:(0:Int)<(p:Int):=by omega
             have hpp2:¬(0:Int) < -(p:Int):=by omega
             obtain ⟨q,hq⟩:∃q:Nat,prec=(q:Int):=⟨prec.toNat,by omega⟩;subst hq;have hqe:(n:Int) - (p:Int)=(q:Int):=by omega
             clear hpe;have ho:=Hd (rfl:p=p);have hz3:s2.size+(⟨#[46]⟩:ByteArray).size<=140737488355328:=by rw [e46.out];omega
             have htail:tailL D.data.toList dp' = 46 :: (List.replicate 0 48++D.data.toList.drop p):=by
               unfold tailL;rw [if_pos (by rw [hlenD.out];omega)];have hO:=ho.out;congr 3;all_goals omega
             replace htail:=Hd htail;replace hdpe:=Hd hdpe;go_wp2_with (at_builtin;refine Au ⟨#[46]⟩ rfl rfl rfl hQ2.out rfl rfl hz3 hB2 ?_)
             intro v3 w3 hQ3 hb3 hk3;have hb03:=hb02.out.trans hb3;have hk03:=hk02.out.trans hk3;obtain ⟨s3,hs3⟩:∃s3,s3=s2++(⟨#[46]⟩:ByteArray):=⟨_,rfl⟩;have hs3n:s3.size<=2010:=by rw [hs3,ByteArray.size_append,e46.out];omega
             rw [<-hs3] at hQ3;clear hQ2 hb02 hk02 hb3 hk3;replace hs3:=Hd hs3;replace hQ3:=Hd hQ3;replace hb03:=Hd hb03;replace hk03:=Hd hk03;go_wp2_with fail
             go_loopw [0,240] (fun u0 i wr=>∃j:Nat,j<=0/\i=.int .i64 j/\RowK B k wr u0 (s3++zerB j)/\Below B w wr/\Kept k w wr) (fun _ i _=>0 - (intOf i).toNat)
             case atStart=>exact ⟨0,Nat.zero_le _,rfl,by rw [Dq];exact hQ3.out,hb03.out,hk03.out⟩
             case round=>
               obtain ⟨j,hj,rfl,hQj,hbj,hkj⟩:=hrel;by_cases hlt:j<0
               · first
                 | exact absurd hlt (Nat.not_lt_zero _)
                 | (
                   have hlti:(j:Int)<((0:Nat):Int):=by omega
                   have hBj:B<=wr.heap.size:=Nat.le_trans hB hbj.size
                   have hzj:(s3++zerB j).size+(⟨#[48]⟩:ByteArray).size<=140737488355328:=by rw [ByteArray.size_append,Bb,e48.out];omega
                   replace hQj:=Hd hQj
                   replace hbj:=Hd hbj
                   replace hkj:=Hd hkj
                   go_wp2_with (at_builtin;refine Au ⟨#[48]⟩ rfl rfl rfl hQj.out rfl rfl hzj hBj ?_)
                   intro v9 w9 hQ9 hb9 hk9
                   replace hQ9:=Hd hQ9
                   replace hk9:=Hd hk9
                   go_wp2_with fail
                   go_roundw
                   case rel=>exact ⟨j+1,by omega,by go_num,by rw [Dw];exact hQ9.out,hbj.out.trans hb9,hkj.out.trans hk9.out⟩
                   case measure=>simp [intOf]<;>omega
                   )
               · have hjz:0=j:=by omega
                 subst hjz;have hlti:¬((0:Nat):Int)<((0:Nat):Int):=by omega
                 obtain ⟨s4,hs4⟩:∃s4,s4=s3++zerB 0:=⟨_,rfl⟩;have hs4n:s4.size<=3000:=by rw [hs4,ByteArray.size_append,Bb];omega
                 rw [<-hs4] at hQj;have hQ4:=Hd hQj;have hb4:=Hd hbj;have hk4:=Hd hkj;replace hs4:=Hd hs4;clear hQj hbj hkj hQ3 hb03 hk03;go_wp2_with fail
                 go_loopw [0,30,247] (fun u0 u30 i wr=>∃j:Nat,j<=q/\i=.int .i64 j/\RowK B k wr u0 (s4++D.extract p (p+j))/\Below B w wr/\Kept k w wr) (fun _ _ i _=>q - (intOf i).toNat)
                 case atStart=>exact ⟨0,Nat.zero_le _,rfl,by rw [Nat.add_zero,F8];exact hQ4.out,hb4.out,hk4.out⟩
                 case round=>
                   obtain ⟨j,hj,rfl,hQj,hbj,hkj⟩:=hrel;by_cases hlt:j<q
                   · have hlti:(j:Int)<(q:Int):=by omega
                     have hBj:B<=wr.heap.size:=Nat.le_trans hB hbj.size;obtain ⟨i,hie⟩:∃i,i=p+j:=⟨_,rfl⟩;have hij:(p:Int)+(j:Int)=(i:Int):=by have hO:=ho.out;omega
                     have hiL:(i:Int)<(L:Int):=by have hO:=ho.out;omega
                     obtain ⟨c,hce,hcw⟩:=hcell.out i (by have hO:=ho.out;omega);have hcw:=(hkj.cell i).trans hcw;have hzj:(s4++D.extract p (p+j)).size+(⟨#[c]⟩:ByteArray).size<=140737488355328:=by
                       have e1:(⟨#[c]⟩:ByteArray).size=1:=rfl;rw [ByteArray.size_append,ByteArray.size_extract,e1];omega
                     rw [hie] at hce;replace hce:=Hd hce;replace hie:=Hd hie;replace hQj:=Hd hQj;replace hbj:=Hd hbj;replace hkj:=Hd hkj;go_wp2_with (at_builtin;refine Au ⟨#[c]⟩ rfl rfl rfl hQj.out rfl rfl hzj hBj ?_)
                     intro v9 w9 hQ9 hb9 hk9;replace hQ9:=Hd hQ9;replace hk9:=Hd hk9;go_wp2_with fail
                     go_roundw
                     case rel=>exact ⟨j+1,by omega,by go_num,by rw [ext_succ s4 D hce.out];exact hQ9.out,hbj.out.trans hb9,hkj.out.trans hk9.out⟩
                     case measure=>simp [intOf]<;>omega
                   · have hjm:q=j:=by omega
                     subst hjm;have hlti:¬(q:Int)<(q:Int):=by omega
                     have hQ5:=Hd hQj;have hb5:=Hd hbj;clear hQj hbj hkj;go_wp2_with fail
                     go_loopw [0,261] (fun u0 i wr=>i=.int .i64 0/\RowK B k wr u0 (s4++D.extract p (p+q))/\Below B w wr) (fun _ _ _=>0)
                     case atStart=>exact ⟨rfl,hQ5.out,hb5.out⟩
                     case round=>
                       obtain ⟨rfl,hQj,hbj⟩:=hrel;go_wp2_with fail
                       go_meet
                       refine ⟨(⟨#[46]⟩:ByteArray)++zerB 0++D.extract p (p+q),?_,?_,hbj⟩
                       · rw [<-hdpe.out,htail.out,ByteArray.data_append,ByteArray.data_append,Array.toList_append,Array.toList_append,Ek,F3,List.take_of_length_le (by have hO:=ho.out;rw [List.length_drop,hlenD.out];omega)]
                         simp
                       · rw [hs4.out,hs3.out] at hQj
                         simp only [ByteArray.append_assoc] at hQj ⊢;exact hQj.row
       · have hpe:=hp1.out (by omega)
         have htail:tailL D.data.toList dp=[]:=if_neg (by rw [hlenD.out];omega);replace htail:=Hd htail;go_wp2_with fail
         go_meet
         exact ⟨⟨#[]⟩,htail.out.symm,by rw [Bj];exact hQ2.out.row,hb02.out⟩
     case rest=>
       rename World=>w5
       rename Value=>v5
       obtain ⟨T3,hT3,hQ5,hb05⟩:=hcut;replace hQ5:=Hd hQ5;replace hb05:=Hd hb05;replace hT3:=Hd hT3;go_wp2_with fail
       go_ret;refine ⟨_,T1++T2++T3,rfl,?_,?_,hb05.out⟩
       · rw [effF_parts,<-hT1.out,<-hT2.out,<-hT3.out,ByteArray.data_append,ByteArray.data_append,Array.toList_append,Array.toList_append]
       · have:=hQ5.out
         rw [hs2.out,hs1.out] at this;simp only [ByteArray.append_assoc] at this ⊢;exact this
end Go.Proofs.YtagkgfniihiinaaGreatDoor
