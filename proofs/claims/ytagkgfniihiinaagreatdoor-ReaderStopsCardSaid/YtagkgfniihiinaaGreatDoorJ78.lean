/- internal/strconv.fmtEFG, 'e'. -/
import Derived.Test.YtagkgfniihiinaaGreatDoorJ22
import Derived.Test.YtagkgfniihiinaaGreatDoorJ79
import Derived.Deep.DeepCutAuto
import Derived.Deep.CutBlock
set_option linter.all false
set_option maxHeartbeats 6400000
set_option maxRecDepth 100000
namespace Go.Proofs.YtagkgfniihiinaaGreatDoor
open Go.RowKit
theorem Cz {n:Nat} (h:n<10):(dg8 n).toNat=48+n:=by unfold dg8;rw [UInt8.toNat_ofNat'];omega
theorem expL_at {x:Int} {y:Nat} {sg:UInt8} {l:List UInt8} (hx:x.natAbs=y) (hs:sg=if x<0 then 45 else 43)
  (hl:l=(if y<10 then [48,dg8 y] else if y<100 then [dg8 (y / 10),dg8 (y % 10)] else [dg8 (y / 100),dg8 (y / 10 % 10),dg8 (y % 10)])):sg :: l=expL x:=by
 unfold expL;rw [hx,hs,hl]
theorem repl_snoc (n:Nat) (c:UInt8):(⟨(List.replicate n c).toArray⟩:ByteArray)++(⟨#[c]⟩:ByteArray)=⟨(List.replicate (n+1) c).toArray⟩:=by
 apply ByteArray.ext;rw [ByteArray.data_append];apply Array.toList_inj.1;simp [List.replicate_succ']
def zerB (n:Nat):ByteArray:=⟨(List.replicate n (48:UInt8)).toArray⟩
theorem Bi (n:Nat):(zerB n).size=n:=by show (List.replicate n (48:UInt8)).toArray.size=n;simp
theorem Dz (s:ByteArray):s++zerB 0=s:=Bq s
theorem D0 (s:ByteArray) (n:Nat):s++zerB (n+1)=s++zerB n++(⟨#[48]⟩:ByteArray):=by
 rw [ByteArray.append_assoc];congr 1;exact (repl_snoc n 48).symm
theorem Eu (n:Nat):(zerB n).data.toList=List.replicate n 48:=by simp [zerB]
theorem fmtE_any {B k L:Nat} {w:World} {v sl:Value} {s D:ByteArray} {dp prec:Int} {neg sh:Bool} (hR:RowK B k w v s) (hs:s.size<=1000) (hD2:D.size<=20) (d0:-900<=dp) (d1:dp<=900) (p0:-1<=prec) (p1:prec<=30)
  (hp:(D.size:Int)<=prec+1) (hL:D.size<=L) (hL2:L<=100) (hB:B<=w.heap.size) (hsl:D.size≠0->sl=.slice (some ⟨k,0,none⟩) L L)
  (hc:∀j (h:j<D.size),w.cell? ⟨k,j,none⟩=some (.int .u8 ((D.data[j]'h).toNat:Int))) :
  Calls Tryz.prog 140 #[v,.bool neg,sl,.int .i64 dp,.int .i64 (D.size:Int),.int .i64 prec,.int .u8 101,.bool sh] w fun e w' => ∃v' t,e=.returned v' /\ t.data.toList=effP neg D.data.toList dp prec.toNat/\Row B w' v' (s++t)/\Below B w w' := by
 obtain ⟨n,hn⟩:∃n,n=D.size:=⟨_,rfl⟩;rw [<-hn] at hD2 hp hL hsl ⊢;replace hc:=Hd hc;replace hn:=Hd hn;replace hsl:=Hd hsl;replace hR:=Hd hR;have a8:(⟨#[45]⟩:ByteArray).size=1:=rfl;have ao:(⟨#[46]⟩:ByteArray).size=1:=rfl;have a1:(⟨#[48]⟩:ByteArray).size=1:=rfl;have an:(⟨#[101]⟩:ByteArray).size=1:=rfl;replace a8:=Hd a8;replace ao:=Hd ao;replace a1:=Hd a1;replace an:=Hd an
 go_enter Tryz.func140,Tryz.ntmps140
 go_upto_if 78 with fail
 go_cut [0] from 80 to 81 (fun s0 wx=>∃T:ByteArray,T.data.toList=A7 neg/\T.size<=1/\RowK B k wx s0 (s++T)/\Below B w wx/\Kept k w wx)
 case first=>
  cases neg
  ·go_wp2_with fail
   go_meet
   exact ⟨⟨#[]⟩,rfl,by decide,by rw [Bq];exact hR.out,Below.refl _ _,Kept.refl _ _⟩
  ·have hz:s.size+(⟨#[45]⟩:ByteArray).size<=140737488355328:=by rw [a8.out];omega
   go_wp2_with (at_builtin;refine Ay ⟨#[45]⟩ rfl rfl rfl hR.out rfl rfl hz hB ?_)
   intro v1 w1 ad b2 b3;replace ad:=Hd ad;go_wp2_with fail
   go_meet
   exact ⟨⟨#[45]⟩,rfl,by decide,ad.out,b2,b3⟩
 case rest=>
  rename World=>w1
  rename Value=>v1
  obtain ⟨T1,bd,hT1s,ad,ai,aj⟩:=hcut;have bl:B<=w1.heap.size:=Nat.le_trans hB ai.size;obtain ⟨ch,hch,hcn⟩:∃ch:UInt8,ch=D.data.toList.headD 48/\(n≠0->w1.cell? ⟨k,0,none⟩=some (.int .u8 (ch.toNat:Int))):=by
   refine ⟨_,rfl,fun h=>?_⟩;rw [aj.cell,hc.out 0 (by have:=hn.out;omega)];have:0<D.data.toList.length:=by rw [Array.length_toList];show 0<D.size;have:=hn.out;omega
   cases h2:D.data.toList with
   | nil=>rw [h2] at this;simp at this
   | cons a m=>
    have h3:D.data[0]'(by have:=hn.out;show 0<D.size;omega)=D.data.toList[0]'this:=(Array.getElem_toList _).symm;rw [h3];simp [h2]
  replace hch:=Hd hch;replace bd:=Hd bd;replace ai:=Hd ai;replace aj:=Hd aj;replace hcn:=Hd hcn;obtain ⟨s1,hs1⟩:∃s1,s1=s++T1:=⟨_,rfl⟩;have hs1n:s1.size<=1001:=by rw [hs1,ByteArray.size_append];omega
  rw [<-hs1] at ad;replace ad:=Hd ad;replace hs1:=Hd hs1;clear hR
  go_upto_if 83 with fail
  go_cut [19] from 83 to 86 (fun s19 wx=>s19=.int .u8 (ch.toNat:Int)/\wx=w1)
  case first=>
   by_cases h0:n=0
   ·have bx:ch=48:=by
     have h1:=hch.out;have h2:D.data.toList=[]:=List.length_eq_zero_iff.1 (by rw [Array.length_toList];show D.size=0;have:=hn.out;omega);rw [h2] at h1;exact h1
    subst bx;subst h0;go_wp2_with fail
    go_meet
    exact ⟨rfl,rfl⟩
   ·have hc0:=hcn.out h0
    have au:=hsl.out h0;subst au;have bz:((n:Int) != 0)=true:=by simp;omega
    have hLp:(0:Int)<(L:Int):=by omega
    go_wp2_with fail
    go_meet
    exact ⟨rfl,rfl⟩
  case rest=>
   obtain ⟨rfl,rfl⟩:=hcut;have bm:s1.size+(⟨#[ch]⟩:ByteArray).size<=140737488355328:=by have:(⟨#[ch]⟩:ByteArray).size=1:=rfl;omega
   go_wp2_with (at_builtin;refine Ay ⟨#[ch]⟩ rfl rfl rfl ad.out rfl rfl bm bl ?_)
   intro v2 w2 al be bu;have bn:B<=w2.heap.size:=Nat.le_trans bl be.size;have ac:=ai.out.trans be;have ae:=aj.out.trans bu;obtain ⟨s2,hs2⟩:∃s2,s2=s1++(⟨#[ch]⟩:ByteArray):=⟨_,rfl⟩;have hs2n:s2.size<=1002:=by have:(⟨#[ch]⟩:ByteArray).size=1:=rfl;rw [hs2,ByteArray.size_append];omega
   rw [<-hs2] at al;clear ad be bu bm ai aj;replace al:=Hd al;replace ac:=Hd ac;replace ae:=Hd ae;replace hs2:=Hd hs2
   go_upto_if 92 with fail
   go_cut [0] from 92 to 119 (fun s0 wx=>∃T:ByteArray,T.data.toList=midL D.data.toList prec.toNat/\T.size<=60/\RowK B k wx s0 (s2++T)/\Below B w wx)
   case first=>
    by_cases hp0:0<prec
    ·have a2:0<prec.toNat:=by omega
     have bo:s2.size+(⟨#[46]⟩:ByteArray).size<=140737488355328:=by rw [ao.out];omega
     go_wp2_with (at_builtin;refine Ay ⟨#[46]⟩ rfl rfl rfl al.out rfl rfl bo bn ?_)
     intro v3 w3 p bf bv;have a3:B<=w3.heap.size:=Nat.le_trans bn bf.size;have f:=ac.out.trans bf;have av:=ae.out.trans bv;obtain ⟨s3,hs3⟩:∃s3,s3=s2++(⟨#[46]⟩:ByteArray):=⟨_,rfl⟩;have hs3n:s3.size<=1003:=by rw [hs3,ByteArray.size_append,ao.out];omega
     rw [<-hs3] at p;clear al ac ae bf bv bo;replace hs3:=Hd hs3;have b:D.data.toList.length=n:=by rw [Array.length_toList];exact hn.out.symm
     by_cases h2:2<=n
     ·obtain ⟨z,hz⟩:∃z:Nat,prec+1 - (n:Int)=(z:Int):=⟨(prec+1 - n).toNat,by omega⟩
      have b0:z<=30:=by omega
      have aw:min (n:Int) (prec+1)=(n:Int):=by omega
      have bp:(1:Int)<(n:Int):=by omega
      have hnL:(n:Int)<=(L:Int):=by omega
      have hL0:(L:Int)<=100:=by omega
      have au:=hsl.out (by omega);subst au;obtain ⟨T4,hT⟩:∃T4,T4=D.extract 1 D.size:=⟨_,rfl⟩;have ap:T4.size=n - 1:=by rw [hT,ByteArray.size_extract,hn.out];omega
      have a4:∀j (h:j<T4.size),w3.cell? ⟨k,1+j,none⟩=some (.int .u8 ((T4.data[j]'h).toNat:Int)):=fun j h=>by
       rw [av.cell,hc.out (1+j) (by have:=hn.out;omega)];congr 4;subst hT;show D.data[1+j]'_=(D.extract 1 D.size).data[j]'_;simp [ByteArray.data_extract]
      have ak:D.data.toList.tail=T4.data.toList:=by
       rw [hT,ByteArray.data_extract,Array.toList_extract,List.extract_eq_take_drop,<-List.drop_one];exact (List.take_of_length_le (by rw [List.length_drop,b,hn.out];omega)).symm
      have u:prec.toNat - (D.data.toList.length - 1)=z:=by rw [b];omega
      replace a4:=Hd a4;replace p:=Hd p;replace hT:=Hd hT;replace ap:=Hd ap;replace ak:=Hd ak;replace u:=Hd u;replace b:=Hd b;have ax:s3.size+T4.size<=140737488355328:=by rw [ap.out];omega
      go_wp2_with (at_builtin;refine app_bytesK (t:=T4) (off:=1) (cx:=L - 1) rfl rfl rfl p.out (by rw [ap.out];rfl) a4.out ax a3 ?_)
      intro v4 w4 l aq bg;have g:=f.trans aq;obtain ⟨s4,hs4⟩:∃s4,s4=s3++T4:=⟨_,rfl⟩;have a6:s4.size<=1030:=by rw [hs4,ByteArray.size_append,ap.out];omega
      have bq:T4.size<=20:=by rw [ap.out];omega
      rw [<-hs4] at l;clear aq bg av a4 ax aw bp;clear p f;replace g:=Hd g;replace l:=Hd l;replace hs4:=Hd hs4;go_wp2_with fail
      go_loopw [0,114] (fun u0 i wr=>∃j:Nat,j<=z/\i=.int .i64 j/\RowK B k wr u0 (s4++zerB j)/\Below B w wr) (fun _ i _=>z - (intOf i).toNat)
      case atStart=>exact ⟨0,Nat.zero_le _,rfl,by rw [Dz];exact l.out,g.out⟩
      case round=>
       obtain ⟨j,hj,rfl,o,aa⟩:=hrel;by_cases hlt:j<z
       ·have ay:(j:Int)<(z:Int):=by omega
        have a9:B<=wr.heap.size:=Nat.le_trans hB aa.size;have u:(s4++zerB j).size+(⟨#[48]⟩:ByteArray).size<=140737488355328:=by rw [ByteArray.size_append,Bi,a1.out];omega
        replace o:=Hd o;replace aa:=Hd aa;go_wp2_with (at_builtin;refine Ay ⟨#[48]⟩ rfl rfl rfl o.out rfl rfl u a9 ?_)
        intro v9 w9 am bh b4;replace am:=Hd am;go_wp2_with fail
        go_roundw
        case rel=>exact ⟨j+1,by omega,by go_num,by rw [D0];exact am.out,aa.out.trans bh⟩
        case measure=>simp [intOf];omega
       ·obtain rfl:j=z:=by omega
        have ay:¬(j:Int)<(j:Int):=by omega
        go_wp2_with fail
        go_meet
        refine ⟨(⟨#[46]⟩:ByteArray)++T4++zerB j,?_,?_,?_,aa⟩
        ·rw [midL_pos a2,ByteArray.data_append,ByteArray.data_append,Array.toList_append,Array.toList_append,Eu,ak.out,u.out];rfl
        ·rw [ByteArray.size_append,ByteArray.size_append,ao.out,Bi];omega
        ·rw [hs4.out,hs3.out] at o
         simp only [ByteArray.append_assoc] at o ⊢;exact o
     ·obtain ⟨z,hz⟩:∃z:Nat,prec=(z:Int):=⟨prec.toNat,by omega⟩
      have hz' : prec+1 - 1=(z:Int):=by omega
      have b0:z<=30:=by omega
      have aw:min (n:Int) (prec+1)=(n:Int):=by omega
      have bp:¬(1:Int)<(n:Int):=by omega
      obtain ⟨T4,hT4⟩:∃T4:ByteArray,T4=⟨#[]⟩:=⟨_,rfl⟩;have ak:D.data.toList.tail=T4.data.toList:=by
       rw [hT4];show _=[];exact List.length_eq_zero_iff.1 (by rw [List.length_tail,b];omega)
      have u:prec.toNat - (D.data.toList.length - 1)=z:=by rw [b];omega
      have bq:T4.size<=20:=by rw [hT4];decide
      obtain ⟨s4,hs4⟩:∃s4,s4=s3++T4:=⟨_,rfl⟩;have a6:s4.size<=1030:=by rw [hs4,hT4,Bq];omega
      have l:RowK B k w3 v3 s4:=by rw [hs4,hT4,Bq];exact p
      have g:=Hd (f);replace ak:=Hd ak;replace u:=Hd u;replace b:=Hd b;replace hT4:=Hd hT4;replace hz:=Hd hz;clear av;clear p f;replace l:=Hd l;replace hs4:=Hd hs4;go_wp2_with fail
      go_loopw [0,114] (fun u0 i wr=>∃j:Nat,j<=z/\i=.int .i64 j/\RowK B k wr u0 (s4++zerB j)/\Below B w wr) (fun _ i _=>z - (intOf i).toNat)
      case atStart=>exact ⟨0,Nat.zero_le _,rfl,by rw [Dz];exact l.out,g.out⟩
      case round=>
       obtain ⟨j,hj,rfl,o,aa⟩:=hrel;by_cases hlt:j<z
       ·have ay:(j:Int)<(z:Int):=by omega
        have a9:B<=wr.heap.size:=Nat.le_trans hB aa.size;have u:(s4++zerB j).size+(⟨#[48]⟩:ByteArray).size<=140737488355328:=by rw [ByteArray.size_append,Bi,a1.out];omega
        replace o:=Hd o;replace aa:=Hd aa;go_wp2_with (at_builtin;refine Ay ⟨#[48]⟩ rfl rfl rfl o.out rfl rfl u a9 ?_)
        intro v9 w9 am bh b4;replace am:=Hd am;go_wp2_with fail
        go_roundw
        case rel=>exact ⟨j+1,by omega,by go_num,by rw [D0];exact am.out,aa.out.trans bh⟩
        case measure=>simp [intOf];omega
       ·obtain rfl:j=z:=by omega
        have ay:¬(j:Int)<(j:Int):=by omega
        go_wp2_with fail
        go_meet
        refine ⟨(⟨#[46]⟩:ByteArray)++T4++zerB j,?_,?_,?_,aa⟩
        ·rw [midL_pos a2,ByteArray.data_append,ByteArray.data_append,Array.toList_append,Array.toList_append,Eu,ak.out,u.out];rfl
        ·rw [ByteArray.size_append,ByteArray.size_append,ao.out,Bi];omega
        ·rw [hs4.out,hs3.out] at o
         simp only [ByteArray.append_assoc] at o ⊢;exact o
    ·have a2:¬0<prec.toNat:=by omega
     go_wp2_with fail
     go_meet
     exact ⟨⟨#[]⟩,(midL_neg a2).symm,by decide,by rw [Bq];exact al.out,ac.out⟩
   case rest=>
    rename World=>w3
    rename Value=>v3
    obtain ⟨T3,bi,hT3s,p,f⟩:=hcut;have a3:B<=w3.heap.size:=Nat.le_trans hB f.size;have br:(s2++T3).size+(⟨#[101]⟩:ByteArray).size<=140737488355328:=by rw [ByteArray.size_append,an.out];omega
    clear al ac ae;replace p:=Hd p;replace f:=Hd f;replace bi:=Hd bi;go_wp2_with (at_builtin;refine Ay ⟨#[101]⟩ rfl rfl rfl p.out rfl rfl br a3 ?_)
    intro v4 w4 l aq bg;have bs:B<=w4.heap.size:=Nat.le_trans a3 aq.size;have g:=f.out.trans aq;obtain ⟨s4,hs4⟩:∃s4,s4=s2++T3++(⟨#[101]⟩:ByteArray):=⟨_,rfl⟩;have a6:s4.size<=1063:=by rw [hs4,ByteArray.size_append,ByteArray.size_append,an.out];omega
    rw [<-hs4] at l;clear p f aq bg br;replace l:=Hd l;replace g:=Hd g;replace hs4:=Hd hs4;obtain ⟨x,hxe⟩:∃x:Int,x=if D.data.toList.length=0 then 0 else dp - 1:=⟨_,rfl⟩;have b:D.data.toList.length=n:=by rw [Array.length_toList];exact hn.out.symm
    have hx0:-901<=x:=by rw [hxe];split<;>omega
    have hx1:x<=899:=by rw [hxe];split<;>omega
    have a5:x=if n=0 then 0 else dp - 1:=by rw [hxe,b]
    replace hxe:=Hd hxe;replace b:=Hd b;replace a5:=Hd a5
    go_upto_if 127 with fail
    go_cut [22] from 127 to 127 (fun s22 wx=>s22=.int .i64 x/\wx=w4)
    case first=>
     by_cases h0:n=0
     ·have ba:x=0:=by rw [a5.out,if_pos h0]
      subst ba;subst h0;go_wp2_with fail
      go_meet
      exact ⟨rfl,rfl⟩
     ·have ba:dp - 1=x:=by rw [a5.out,if_neg h0]
      have bz:((n:Int) == 0)=false:=by simp;omega
      go_wp2_with fail
      go_meet
      exact ⟨by rw [ba],rfl⟩
    case rest=>
     obtain ⟨rfl,bj⟩:=hcut;obtain rfl:=bj.symm;obtain ⟨sg,hsg⟩:∃sg:UInt8,sg=if x<0 then 45 else 43:=⟨_,rfl⟩;obtain ⟨y,hx⟩:∃y:Nat,x.natAbs=y:=⟨_,rfl⟩;have hy9:y<=999:=by omega
     replace hsg:=Hd hsg;replace hx:=Hd hx
     go_upto_if 129 with fail
     go_cut [19,22] from 129 to 131 (fun s19 s22 wx=>s19=.int .u8 (sg.toNat:Int)/\s22=.int .i64 (y:Int)/\wx=w4)
     case first=>
      by_cases h0:x<0
      ·have bb:sg=45:=by rw [hsg.out,if_pos h0]
       have bt:-x=(y:Int):=by have:=hx.out;omega
       subst bb;go_wp2_with fail
       go_meet
       exact ⟨rfl,rfl,rfl⟩
      ·have bb:sg=43:=by rw [hsg.out,if_neg h0]
       have bt:x=(y:Int):=by have:=hx.out;omega
       subst bb;subst bt;go_wp2_with fail
       go_meet
       exact ⟨rfl,rfl,rfl⟩
     case rest=>
      obtain ⟨rfl,rfl,bj⟩:=hcut;obtain rfl:=bj.symm;have ax:s4.size+(⟨#[sg]⟩:ByteArray).size<=140737488355328:=by have:(⟨#[sg]⟩:ByteArray).size=1:=rfl;omega
      go_wp2_with (at_builtin;refine Ay ⟨#[sg]⟩ rfl rfl rfl l.out rfl rfl ax bs ?_)
      intro v5 w5 ar bk b5;have bc:B<=w5.heap.size:=Nat.le_trans bs bk.size;have af:=g.out.trans bk;obtain ⟨s5,ag⟩:∃s5,s5=s4++(⟨#[sg]⟩:ByteArray):=⟨_,rfl⟩;have hs5n:s5.size<=1064:=by have:(⟨#[sg]⟩:ByteArray).size=1:=rfl;rw [ag,ByteArray.size_append];omega
      obtain ⟨T,hTe⟩:∃T,T=T1++(⟨#[ch]⟩:ByteArray)++T3++(⟨#[101]⟩:ByteArray):=⟨_,rfl⟩;have a7 : s5=s++T++(⟨#[sg]⟩:ByteArray):=by rw [ag,hs4.out,hs2.out,hs1.out,hTe];simp only [ByteArray.append_assoc]
      have hT:∀E:List UInt8,sg :: E=expL x->∀E' : ByteArray,E'.data.toList=E->(T++(⟨#[sg]⟩:ByteArray)++E').data.toList=effP neg D.data.toList dp prec.toNat:=fun E hE E' hE' => by
       unfold effP;rw [<-hxe.out,<-hE,<-bi.out,<-bd.out,<-hch.out,hTe,<-hE'];simp [ByteArray.data_append]
      rw [<-ag] at ar;clear l g bk b5 ax ag;have ag:=Hd (a7);clear a7;replace hT:=Hd hT;replace ar:=Hd ar;replace af:=Hd af;by_cases h10:y<10
      ·have hd:(y:Int)+48=((dg8 y).toNat:Int):=by rw [Cz h10];omega
       have az:s5.size+(⟨#[48,dg8 y]⟩:ByteArray).size<=140737488355328:=by
        have e5:(⟨#[48,dg8 y]⟩:ByteArray).size<=3:=by show (#[48,dg8 y]:Array UInt8).size<=3;simp
        omega
       go_wp2_with (at_builtin;refine Ay ⟨#[48,dg8 y]⟩ rfl rfl rfl ar.out rfl rfl az bc ?_)
       intro v6 w6 ab a0 bw;have ah:=af.out.trans a0;replace ab:=Hd ab;go_wp2_with fail
       go_ret;refine ⟨v6,T++⟨#[sg]⟩++⟨#[48,dg8 y]⟩,rfl,?_,?_,ah⟩
       ·refine hT.out _ (expL_at hx.out hsg.out ?_) ⟨#[48,dg8 y]⟩ rfl
        rw [if_pos h10]
       ·have:=ab.out.row
        rw [ag.out] at this;simp only [ByteArray.append_assoc] at this ⊢;exact this
      ·obtain ⟨q,hqe⟩:∃q,q=y / 10:=⟨_,rfl⟩
       obtain ⟨r,hre⟩:∃r,r=y % 10:=⟨_,rfl⟩;have hq:(y:Int).tdiv 10=(q:Int):=by rw [Int.tdiv_eq_ediv_of_nonneg (by omega)];omega
       have hr:(y:Int).tmod 10=(r:Int):=by rw [Int.tmod_eq_emod_of_nonneg (by omega)];omega
       have hd2:(r:Int)+48=((dg8 r).toNat:Int):=by rw [Cz (by omega)];omega
       have hb1' : q<=99:=by omega
       have hb2' : r<=9:=by omega
       have hb3' : (dg8 r).toNat<=57:=by rw [Cz (by omega)];omega
       by_cases h100:y<100
       ·have hb4' : (dg8 q).toNat<=57:=by rw [Cz (by omega)];omega
        have b1:(q:Int)+48=((dg8 q).toNat:Int):=by rw [Cz (by omega)];omega
        replace hqe:=Hd hqe;replace hre:=Hd hre;have az:s5.size+(⟨#[dg8 q,dg8 r]⟩:ByteArray).size<=140737488355328:=by
         have e5:(⟨#[dg8 q,dg8 r]⟩:ByteArray).size<=3:=by show (#[dg8 q,dg8 r]:Array UInt8).size<=3;simp
         omega
        go_wp2_with (at_builtin;refine Ay ⟨#[dg8 q,dg8 r]⟩ rfl rfl rfl ar.out rfl rfl az bc ?_)
        intro v6 w6 ab a0 bw;have ah:=af.out.trans a0;replace ab:=Hd ab;go_wp2_with fail
        go_ret;refine ⟨v6,T++⟨#[sg]⟩++⟨#[dg8 q,dg8 r]⟩,rfl,?_,?_,ah⟩
        ·refine hT.out _ (expL_at hx.out hsg.out ?_) ⟨#[dg8 q,dg8 r]⟩ rfl
         rw [if_neg h10,if_pos h100,<-hqe.out,<-hre.out]
        ·have:=ab.out.row
         rw [ag.out] at this;simp only [ByteArray.append_assoc] at this ⊢;exact this
       ·obtain ⟨c,hce⟩:∃c,c=y / 100:=⟨_,rfl⟩
        obtain ⟨d,hde⟩:∃d,d=q % 10:=⟨_,rfl⟩;have hc9:(y:Int).tdiv 100=(c:Int):=by rw [Int.tdiv_eq_ediv_of_nonneg (by omega)];omega
        have hd9:(q:Int).tmod 10=(d:Int):=by rw [Int.tmod_eq_emod_of_nonneg (by omega)];omega
        have hd10:(q:Int) % 10=(d:Int):=by omega
        have b1:(c:Int)+48=((dg8 c).toNat:Int):=by rw [Cz (by omega)];omega
        have hd3:(d:Int)+48=((dg8 d).toNat:Int):=by rw [Cz (by omega)];omega
        have hb5' : c<=9:=by omega
        have hb6' : d<=9:=by omega
        have hb7' : (dg8 c).toNat<=57:=by rw [Cz (by omega)];omega
        have hb8' : (dg8 d).toNat<=57:=by rw [Cz (by omega)];omega
        replace hqe:=Hd hqe;replace hre:=Hd hre;replace hce:=Hd hce;replace hde:=Hd hde;have az:s5.size+(⟨#[dg8 c,dg8 d,dg8 r]⟩:ByteArray).size<=140737488355328:=by
         have e5:(⟨#[dg8 c,dg8 d,dg8 r]⟩:ByteArray).size<=3:=by show (#[dg8 c,dg8 d,dg8 r]:Array UInt8).size<=3;simp
         omega
        go_wp2_with (at_builtin;refine Ay ⟨#[dg8 c,dg8 d,dg8 r]⟩ rfl rfl rfl ar.out rfl rfl az bc ?_)
        intro v6 w6 ab a0 bw;have ah:=af.out.trans a0;replace ab:=Hd ab;go_wp2_with fail
        go_ret;refine ⟨v6,T++⟨#[sg]⟩++⟨#[dg8 c,dg8 d,dg8 r]⟩,rfl,?_,?_,ah⟩
        ·refine hT.out _ (expL_at hx.out hsg.out ?_) ⟨#[dg8 c,dg8 d,dg8 r]⟩ rfl
         rw [if_neg h10,if_neg h100,<-hqe.out,<-hre.out,<-hce.out,<-hde.out]
        ·have:=ab.out.row
         rw [ag.out] at this;simp only [ByteArray.append_assoc] at this ⊢;exact this
theorem ext_zero (s D:ByteArray) (o:Nat):s++D.extract o o=s:=by
 have:D.extract o o=(⟨#[]⟩:ByteArray):=by apply ByteArray.ext;simp
 rw [this,Bq]
theorem ext_succ (s D:ByteArray) {o j:Nat} {c:UInt8} (h:D.data[o+j]?=some c):s++D.extract o (o+(j+1))=s++D.extract o (o+j)++(⟨#[c]⟩:ByteArray):=by
 rw [ByteArray.append_assoc];congr 1;apply ByteArray.ext;rw [ByteArray.data_append,ByteArray.data_extract,ByteArray.data_extract];obtain ⟨h1,h2⟩:=Array.getElem?_eq_some_iff.1 h;apply Array.toList_inj.1;rw [Array.toList_append,Array.toList_extract,Array.toList_extract,List.extract_eq_take_drop,List.extract_eq_take_drop];rw [show o+(j+1) - o=j+1 by omega,show o+j - o=j by omega,List.take_add_one];congr 1;rw [List.getElem?_drop,Array.getElem?_toList,h];rfl
theorem ext_succ0 (s D:ByteArray) {j:Nat} {c:UInt8} (h:D.data[j]?=some c):s++D.extract 0 (j+1)=s++D.extract 0 j++(⟨#[c]⟩:ByteArray):=by
 have:=ext_succ s D (o:=0) (j:=j) (c:=c) (by rw [Nat.zero_add];exact h);rwa [Nat.zero_add,Nat.zero_add] at this
theorem ext_list (D:ByteArray) (o m:Nat):(D.extract o m).data.toList=(D.data.toList.drop o).take (m - o):=by
 rw [ByteArray.data_extract,Array.toList_extract,List.extract_eq_take_drop]
def headL (D:List UInt8) (dp:Int):List UInt8:=if 0<dp then D.take dp.toNat++List.replicate (dp.toNat - D.length) 48 else [48]
def tailL (D:List UInt8) (dp:Int):List UInt8:=if dp<D.length then 46 :: (List.replicate (-dp).toNat 48++D.drop dp.toNat) else []
theorem effF_parts (neg:Bool) (D:List UInt8) (dp:Int):effF neg D dp=A7 neg++headL D dp++tailL D dp:=rfl
theorem fmtF_any {B k L:Nat} {w:World} {v sl:Value} {s D:ByteArray} {dp prec:Int} {neg sh:Bool} (hR:RowK B k w v s) (hs:s.size<=1000) (hD2:D.size<=20) (d0:-900<=dp) (d1:dp<=900)
  (hp0:0<prec->prec=D.size - dp) (hp1:prec<=0->(D.size:Int)<=dp) (p0:-1<=prec) (p1:prec<=920) (hdp:dp≠0->D.size≠0) (hL:D.size<=L) (hL2:L<=100) (hB:B<=w.heap.size) (hsl:D.size≠0->sl=.slice (some ⟨k,0,none⟩) L L)
  (hc:∀j (h:j<D.size),w.cell? ⟨k,j,none⟩=some (.int .u8 ((D.data[j]'h).toNat:Int))) :
  Calls Tryz.prog 140 #[v,.bool neg,sl,.int .i64 dp,.int .i64 (D.size:Int),.int .i64 prec,.int .u8 102,.bool sh] w fun e w' => ∃v' t,e=.returned v' /\ t.data.toList=effF neg D.data.toList dp/\Row B w' v' (s++t)/\Below B w w' := by
 have ag:∀j,j<D.size->∃c:UInt8,D.data[j]?=some c/\w.cell? ⟨k,j,none⟩=some (.int .u8 (c.toNat:Int)):=fun j h=>⟨_,Array.getElem?_eq_getElem (show j<D.data.size from h),hc j h⟩;have u:D.data.toList.length=D.size:=by rw [Array.length_toList];rfl
 obtain ⟨n,hn⟩:∃n,n=D.size:=⟨_,rfl⟩;rw [<-hn] at hD2 hp0 hp1 hdp hL hsl ag u ⊢;clear hc;replace ag:=Hd ag;replace u:=Hd u;replace hn:=Hd hn;replace hsl:=Hd hsl;replace hR:=Hd hR;replace hdp:=Hd hdp;replace hp0:=Hd hp0;replace hp1:=Hd hp1;have bd:(⟨#[45]⟩:ByteArray).size=1:=rfl;have av:(⟨#[46]⟩:ByteArray).size=1:=rfl;have aw:(⟨#[48]⟩:ByteArray).size=1:=rfl;replace bd:=Hd bd;replace av:=Hd av;replace aw:=Hd aw
 go_enter Tryz.func140,Tryz.ntmps140
 go_upto_if 178 with fail
 go_cut [0] from 178 to 181 (fun s0 wx=>∃T:ByteArray,T.data.toList=A7 neg/\T.size<=1/\RowK B k wx s0 (s++T)/\Below B w wx/\Kept k w wx)
 case first=>
  cases neg
  ·go_wp2_with fail
   go_meet
   exact ⟨⟨#[]⟩,rfl,by decide,by rw [Bq];exact hR.out,Below.refl _ _,Kept.refl _ _⟩
  ·have hz:s.size+(⟨#[45]⟩:ByteArray).size<=140737488355328:=by rw [bd.out];omega
   go_wp2_with (at_builtin;refine Ay ⟨#[45]⟩ rfl rfl rfl hR.out rfl rfl hz hB ?_)
   intro v1 w1 am bp bq;replace am:=Hd am;go_wp2_with fail
   go_meet
   exact ⟨⟨#[45]⟩,rfl,by decide,am.out,bp,bq⟩
 case rest=>
  rename World=>w1
  rename Value=>v1
  obtain ⟨T1,bf,hT1s,am,al,an⟩:=hcut;have bl:B<=w1.heap.size:=Nat.le_trans hB al.size;obtain ⟨s1,hs1⟩:∃s1,s1=s++T1:=⟨_,rfl⟩;have hs1n:s1.size<=1001:=by rw [hs1,ByteArray.size_append];omega
  rw [<-hs1] at am;replace bf:=Hd bf;replace al:=Hd al;replace an:=Hd an;replace am:=Hd am;replace hs1:=Hd hs1;clear hR
  go_upto_if 183 with fail
  go_cut [0] from 183 to 211 (fun s0 wx=>∃T:ByteArray,T.data.toList=headL D.data.toList dp/\T.size<=1000/\RowK B k wx s0 (s1++T)/\Below B w wx/\Kept k w wx)
  case first=>
   by_cases h0:0<dp
   ·have a1:=hdp.out (by omega)
    have ax:=hsl.out a1;subst ax;obtain ⟨p,rfl⟩:∃p:Nat,dp=(p:Int):=⟨dp.toNat,by omega⟩;have bi:(L:Int)<=100:=by omega
    have ah:∀m z:Nat,(p<n/\m=p/\z=0)\/(n<=p/\m=n/\z=p - n)->headL D.data.toList p=(D.extract 0 m++zerB z).data.toList:=fun m z h=>by
     unfold headL;rw [if_pos h0,ByteArray.data_append,Array.toList_append,ext_list,Eu,u.out,List.drop_zero,Int.toNat_natCast];have e1:D.data.toList.take p=D.data.toList.take (m - 0):=by
      rw [show m - 0=m by omega];rcases h with ⟨h1,h2,h3⟩ | ⟨h1,h2,h3⟩
      ·rw [h2]
      ·rw [List.take_of_length_le (by rw [u.out];omega),List.take_of_length_le (by rw [u.out];omega)]
     rw [e1];congr 2;omega
    by_cases h9:p<n
    ·have bm:(p:Int)<(n:Int):=by omega
     have bn:(p:Int)<=(L:Int):=by omega
     have ap := Hd (ah p 0 (.inl ⟨h9,rfl,rfl⟩));clear ah;go_wp2_with fail
     go_loopw [0,25,191] (fun u0 u25 i wr=>∃j:Nat,j<=p/\i=.int .i64 j/\RowK B k wr u0 (s1++D.extract 0 j)/\Below B w wr/\Kept k w wr) (fun _ _ i _=>p - (intOf i).toNat)
     case atStart=>exact ⟨0,Nat.zero_le _,rfl,by rw [ext_zero];exact am.out,al.out,an.out⟩
     case round=>
      obtain ⟨j,hj,rfl,a,b,d⟩:=hrel;by_cases hlt:j<p
      ·have r:(j:Int)<(p:Int):=by omega
       have ac:B<=wr.heap.size:=Nat.le_trans hB b.size;obtain ⟨c,y,ak⟩:=ag.out j (by omega);have ak:=(d.cell j).trans ak;replace y:=Hd y;have ad:(s1++D.extract 0 j).size+(⟨#[c]⟩:ByteArray).size<=140737488355328:=by
        have e1:(⟨#[c]⟩:ByteArray).size=1:=rfl;rw [ByteArray.size_append,ByteArray.size_extract,e1];omega
       replace a:=Hd a;replace b:=Hd b;replace d:=Hd d;go_wp2_with (at_builtin;refine Ay ⟨#[c]⟩ rfl rfl rfl a.out rfl rfl ad ac ?_)
       intro v9 w9 f ae g;replace f:=Hd f;replace g:=Hd g;go_wp2_with fail
       go_roundw
       case rel=>exact ⟨j+1,by omega,by go_num,by rw [ext_succ0 s1 D y.out];exact f.out,b.out.trans ae,d.out.trans g.out⟩
       case measure=>simp [intOf]<;>omega
      ·have aq:p=j:=by omega
       subst aq;have r:¬(p:Int)<(p:Int):=by omega
       obtain ⟨s2,hs2⟩:∃s2,s2=s1++D.extract 0 p:=⟨_,rfl⟩;have ba:s2.size<=1030:=by rw [hs2,ByteArray.size_append,ByteArray.size_extract];omega
       rw [<-hs2] at a;have af:=Hd a;have a2:=Hd b;have a0:=Hd d;replace hs2:=Hd hs2;clear a b d am al an;go_wp2_with fail
       go_loopw [0,203] (fun u0 i wr=>∃j:Nat,j<=0/\i=.int .i64 j/\RowK B k wr u0 (s2++zerB j)/\Below B w wr/\Kept k w wr) (fun _ i _=>0 - (intOf i).toNat)
       case atStart=>exact ⟨0,Nat.zero_le _,rfl,by rw [Dz];exact af.out,a2.out,a0.out⟩
       case round=>
        obtain ⟨j,hj,rfl,a,b,d⟩:=hrel;by_cases hlt:j<0
        ·first
         | exact absurd hlt (Nat.not_lt_zero _)
         | (
          have r:(j:Int)<((0:Nat):Int):=by omega
          have ac:B<=wr.heap.size:=Nat.le_trans hB b.size
          have ad:(s2++zerB j).size+(⟨#[48]⟩:ByteArray).size<=140737488355328:=by rw [ByteArray.size_append,Bi,aw.out];omega
          replace a:=Hd a
          replace b:=Hd b
          replace d:=Hd d
          go_wp2_with (at_builtin;refine Ay ⟨#[48]⟩ rfl rfl rfl a.out rfl rfl ad ac ?_)
          intro v9 w9 f ae g
          replace f:=Hd f
          replace g:=Hd g
          go_wp2_with fail
          go_roundw
          case rel=>exact ⟨j+1,by omega,by go_num,by rw [D0];exact f.out,b.out.trans ae,d.out.trans g.out⟩
          case measure=>simp [intOf]<;>omega
          )
        ·have ar:0=j:=by omega
         subst ar;have r:¬((0:Nat):Int)<((0:Nat):Int):=by omega
         go_wp2_with fail
         go_meet
         refine ⟨D.extract 0 p++zerB 0,ap.out.symm,?_,?_,b,d⟩
         ·rw [ByteArray.size_append,ByteArray.size_extract,Bi];omega
         ·rw [hs2.out,ByteArray.append_assoc] at a
          exact a
    ·obtain ⟨z,hz⟩:∃z:Nat,z=p - n:=⟨_,rfl⟩
     have bm:(n:Int)<=(p:Int):=by omega
     have hz1:(p:Int) - (n:Int)=(z:Int):=by omega
     have hzm:z<=900:=by omega
     have bn:(n:Int)<=(L:Int):=by omega
     have ap := Hd (ah n z (.inr ⟨by omega,rfl,hz⟩));replace hz:=Hd hz;clear ah;go_wp2_with fail
     go_loopw [0,25,191] (fun u0 u25 i wr=>∃j:Nat,j<=n/\i=.int .i64 j/\RowK B k wr u0 (s1++D.extract 0 j)/\Below B w wr/\Kept k w wr) (fun _ _ i _=>n - (intOf i).toNat)
     case atStart=>exact ⟨0,Nat.zero_le _,rfl,by rw [ext_zero];exact am.out,al.out,an.out⟩
     case round=>
      obtain ⟨j,hj,rfl,a,b,d⟩:=hrel;by_cases hlt:j<n
      ·have r:(j:Int)<(n:Int):=by omega
       have ac:B<=wr.heap.size:=Nat.le_trans hB b.size;obtain ⟨c,y,ak⟩:=ag.out j (by omega);have ak:=(d.cell j).trans ak;replace y:=Hd y;have ad:(s1++D.extract 0 j).size+(⟨#[c]⟩:ByteArray).size<=140737488355328:=by
        have e1:(⟨#[c]⟩:ByteArray).size=1:=rfl;rw [ByteArray.size_append,ByteArray.size_extract,e1];omega
       replace a:=Hd a;replace b:=Hd b;replace d:=Hd d;go_wp2_with (at_builtin;refine Ay ⟨#[c]⟩ rfl rfl rfl a.out rfl rfl ad ac ?_)
       intro v9 w9 f ae g;replace f:=Hd f;replace g:=Hd g;go_wp2_with fail
       go_roundw
       case rel=>exact ⟨j+1,by omega,by go_num,by rw [ext_succ0 s1 D y.out];exact f.out,b.out.trans ae,d.out.trans g.out⟩
       case measure=>simp [intOf]<;>omega
      ·have aq:n=j:=by omega
       subst aq;have r:¬(n:Int)<(n:Int):=by omega
       obtain ⟨s2,hs2⟩:∃s2,s2=s1++D.extract 0 n:=⟨_,rfl⟩;have ba:s2.size<=1030:=by rw [hs2,ByteArray.size_append,ByteArray.size_extract];omega
       rw [<-hs2] at a;have af:=Hd a;have a2:=Hd b;have a0:=Hd d;replace hs2:=Hd hs2;clear a b d am al an;go_wp2_with fail
       go_loopw [0,203] (fun u0 i wr=>∃j:Nat,j<=z/\i=.int .i64 j/\RowK B k wr u0 (s2++zerB j)/\Below B w wr/\Kept k w wr) (fun _ i _=>z - (intOf i).toNat)
       case atStart=>exact ⟨0,Nat.zero_le _,rfl,by rw [Dz];exact af.out,a2.out,a0.out⟩
       case round=>
        obtain ⟨j,hj,rfl,a,b,d⟩:=hrel;by_cases hlt:j<z
        ·first
         | exact absurd hlt (Nat.not_lt_zero _)
         | (
          have r:(j:Int)<((z:Nat):Int):=by omega
          have ac:B<=wr.heap.size:=Nat.le_trans hB b.size
          have ad:(s2++zerB j).size+(⟨#[48]⟩:ByteArray).size<=140737488355328:=by rw [ByteArray.size_append,Bi,aw.out];omega
          replace a:=Hd a
          replace b:=Hd b
          replace d:=Hd d
          go_wp2_with (at_builtin;refine Ay ⟨#[48]⟩ rfl rfl rfl a.out rfl rfl ad ac ?_)
          intro v9 w9 f ae g
          replace f:=Hd f
          replace g:=Hd g
          go_wp2_with fail
          go_roundw
          case rel=>exact ⟨j+1,by omega,by go_num,by rw [D0];exact f.out,b.out.trans ae,d.out.trans g.out⟩
          case measure=>simp [intOf]<;>omega
          )
        ·have ar:z=j:=by omega
         subst ar;have r:¬((z:Nat):Int)<((z:Nat):Int):=by omega
         go_wp2_with fail
         go_meet
         refine ⟨D.extract 0 n++zerB z,ap.out.symm,?_,?_,b,d⟩
         ·rw [ByteArray.size_append,ByteArray.size_extract,Bi];omega
         ·rw [hs2.out,ByteArray.append_assoc] at a
          exact a
   ·have ah:headL D.data.toList dp=[48]:=if_neg h0
    have hz:s1.size+(⟨#[48]⟩:ByteArray).size<=140737488355328:=by rw [aw.out];omega
    replace ah:=Hd ah;go_wp2_with (at_builtin;refine Ay ⟨#[48]⟩ rfl rfl rfl am.out rfl rfl hz bl ?_)
    intro v2 w2 af a2 a0;replace af:=Hd af;replace a0:=Hd a0;go_wp2_with fail
    go_meet
    exact ⟨⟨#[48]⟩,ah.out.symm,by decide,af.out,al.out.trans a2,an.out.trans a0.out⟩
  case rest=>
   rename World=>w2
   rename Value=>v2
   obtain ⟨T2,bg,hT2s,af,aj,ao⟩:=hcut;have be:B<=w2.heap.size:=Nat.le_trans hB aj.size;obtain ⟨s2,hs2⟩:∃s2,s2=s1++T2:=⟨_,rfl⟩;have ba:s2.size<=2005:=by rw [hs2,ByteArray.size_append];omega
   rw [<-hs2] at af;clear am al an;replace bg:=Hd bg;replace aj:=Hd aj;replace ao:=Hd ao;replace af:=Hd af;replace hs2:=Hd hs2
   go_upto_if 213 with fail
   go_cut [0] from 213 to 266 (fun s0 wx=>∃T:ByteArray,T.data.toList=tailL D.data.toList dp/\Row B wx s0 (s2++T)/\Below B w wx)
   case first=>
    obtain ⟨dp', hdpe⟩:∃x,x=dp:=⟨_,rfl⟩;by_cases h0:0<prec
    ·have a3:=hp0.out h0
     clear hp0 hp1;by_cases hz0:dp=0
     ·have a1:n≠0:=by omega
      have ax:=hsl.out a1;subst ax;clear hsl;subst hz0;have bo:prec=(n:Int):=by omega
      subst bo;have bi:(L:Int)<=100:=by omega
      clear a3;obtain ⟨o,ho⟩:∃o,o=0:=⟨_,rfl⟩;replace ho:=Hd ho;have a4:s2.size+(⟨#[46]⟩:ByteArray).size<=140737488355328:=by rw [av.out];omega
      have l:tailL D.data.toList dp' = 46 :: (List.replicate 0 48++D.data.toList.drop o):=by
       unfold tailL;rw [if_pos (by rw [u.out];omega)];have hO:=ho.out;congr 3;all_goals omega
      replace l:=Hd l;replace hdpe:=Hd hdpe;go_wp2_with (at_builtin;refine Ay ⟨#[46]⟩ rfl rfl rfl af.out rfl rfl a4 be ?_)
      intro v3 w3 ai ay az;have aa:=aj.out.trans ay;have ab:=ao.out.trans az;obtain ⟨s3,hs3⟩:∃s3,s3=s2++(⟨#[46]⟩:ByteArray):=⟨_,rfl⟩;have bb:s3.size<=2010:=by rw [hs3,ByteArray.size_append,av.out];omega
      rw [<-hs3] at ai;clear af aj ao ay az;replace hs3:=Hd hs3;replace ai:=Hd ai;replace aa:=Hd aa;replace ab:=Hd ab;go_wp2_with fail
      go_loopw [0,240] (fun u0 i wr=>∃j:Nat,j<=0/\i=.int .i64 j/\RowK B k wr u0 (s3++zerB j)/\Below B w wr/\Kept k w wr) (fun _ i _=>0 - (intOf i).toNat)
      case atStart=>exact ⟨0,Nat.zero_le _,rfl,by rw [Dz];exact ai.out,aa.out,ab.out⟩
      case round=>
       obtain ⟨j,hj,rfl,a,b,d⟩:=hrel;by_cases hlt:j<0
       ·first
        | exact absurd hlt (Nat.not_lt_zero _)
        | (
         have r:(j:Int)<((0:Nat):Int):=by omega
         have ac:B<=wr.heap.size:=Nat.le_trans hB b.size
         have ad:(s3++zerB j).size+(⟨#[48]⟩:ByteArray).size<=140737488355328:=by rw [ByteArray.size_append,Bi,aw.out];omega
         replace a:=Hd a
         replace b:=Hd b
         replace d:=Hd d
         go_wp2_with (at_builtin;refine Ay ⟨#[48]⟩ rfl rfl rfl a.out rfl rfl ad ac ?_)
         intro v9 w9 f ae g
         replace f:=Hd f
         replace g:=Hd g
         go_wp2_with fail
         go_roundw
         case rel=>exact ⟨j+1,by omega,by go_num,by rw [D0];exact f.out,b.out.trans ae,d.out.trans g.out⟩
         case measure=>simp [intOf]<;>omega
         )
       ·have ar:0=j:=by omega
        subst ar;have r:¬((0:Nat):Int)<((0:Nat):Int):=by omega
        obtain ⟨s4,hs4⟩:∃s4,s4=s3++zerB 0:=⟨_,rfl⟩;have bc:s4.size<=3000:=by rw [hs4,ByteArray.size_append,Bi];omega
        rw [<-hs4] at a;have a5:=Hd a;have a6:=Hd b;have a7:=Hd d;replace hs4:=Hd hs4;clear a b d ai aa ab;go_wp2_with fail
        go_loopw [0,30,247] (fun u0 u30 i wr=>∃j:Nat,j<=n/\i=.int .i64 j/\RowK B k wr u0 (s4++D.extract o (o+j))/\Below B w wr/\Kept k w wr) (fun _ _ i _=>n - (intOf i).toNat)
        case atStart=>exact ⟨0,Nat.zero_le _,rfl,by rw [Nat.add_zero,ext_zero];exact a5.out,a6.out,a7.out⟩
        case round=>
         obtain ⟨j,hj,rfl,a,b,d⟩:=hrel;by_cases hlt:j<n
         ·have r:(j:Int)<(n:Int):=by omega
          have ac:B<=wr.heap.size:=Nat.le_trans hB b.size;obtain ⟨i,hie⟩:∃i,i=o+j:=⟨_,rfl⟩;have bj:(j:Int)=(i:Int):=by have hO:=ho.out;omega
          have bk:(i:Int)<(L:Int):=by have hO:=ho.out;omega
          obtain ⟨c,y,ak⟩:=ag.out i (by have hO:=ho.out;omega);have ak:=(d.cell i).trans ak;have ad:(s4++D.extract o (o+j)).size+(⟨#[c]⟩:ByteArray).size<=140737488355328:=by
           have e1:(⟨#[c]⟩:ByteArray).size=1:=rfl;rw [ByteArray.size_append,ByteArray.size_extract,e1];omega
          rw [hie] at y;replace y:=Hd y;replace hie:=Hd hie;replace a:=Hd a;replace b:=Hd b;replace d:=Hd d;go_wp2_with (at_builtin;refine Ay ⟨#[c]⟩ rfl rfl rfl a.out rfl rfl ad ac ?_)
          intro v9 w9 f ae g;replace f:=Hd f;replace g:=Hd g;go_wp2_with fail
          go_roundw
          case rel=>exact ⟨j+1,by omega,by go_num,by rw [ext_succ s4 D y.out];exact f.out,b.out.trans ae,d.out.trans g.out⟩
          case measure=>simp [intOf]<;>omega
         ·have aq:n=j:=by omega
          subst aq;have r:¬(n:Int)<(n:Int):=by omega
          have au:=Hd a;have a8:=Hd b;clear a b d;go_wp2_with fail
          go_loopw [0,261] (fun u0 i wr=>i=.int .i64 0/\RowK B k wr u0 (s4++D.extract o (o+n))/\Below B w wr) (fun _ _ _=>0)
          case atStart=>exact ⟨rfl,au.out,a8.out⟩
          case round=>
           obtain ⟨rfl,a,b⟩:=hrel;go_wp2_with fail
           go_meet
           refine ⟨(⟨#[46]⟩:ByteArray)++zerB 0++D.extract o (o+n),?_,?_,b⟩
           ·rw [<-hdpe.out,l.out,ByteArray.data_append,ByteArray.data_append,Array.toList_append,Array.toList_append,Eu,ext_list,List.take_of_length_le (by have hO:=ho.out;rw [List.length_drop,u.out];omega)]
            simp
           ·rw [hs4.out,hs3.out] at a
            simp only [ByteArray.append_assoc] at a ⊢;exact a.row
     ·have a1:=hdp.out hz0
      have ax:=hsl.out a1;subst ax;clear hsl;have bi:(L:Int)<=100:=by omega
      by_cases hneg:dp<0
      ·obtain ⟨z,hz⟩:∃z:Nat,dp=-(z:Int):=⟨(-dp).toNat,by omega⟩
       subst hz;have hzp:(0:Int)<(z:Int):=by omega
       have hlz:(z:Int)<prec:=by omega
       have hpz:prec - (z:Int)=(n:Int):=by omega
       have hnp:(0:Int)<(n:Int):=by omega
       have hz9:z<=900:=by omega
       replace a3:=Hd a3;have hzz:-(z:Int)+(z:Int)=0:=by omega
       obtain ⟨o,ho⟩:∃o,o=0:=⟨_,rfl⟩;replace ho:=Hd ho;have a4:s2.size+(⟨#[46]⟩:ByteArray).size<=140737488355328:=by rw [av.out];omega
       have l:tailL D.data.toList dp' = 46 :: (List.replicate z 48++D.data.toList.drop o):=by
        unfold tailL;rw [if_pos (by rw [u.out];omega)];have hO:=ho.out;congr 3;all_goals omega
       replace l:=Hd l;replace hdpe:=Hd hdpe;go_wp2_with (at_builtin;refine Ay ⟨#[46]⟩ rfl rfl rfl af.out rfl rfl a4 be ?_)
       intro v3 w3 ai ay az;have aa:=aj.out.trans ay;have ab:=ao.out.trans az;obtain ⟨s3,hs3⟩:∃s3,s3=s2++(⟨#[46]⟩:ByteArray):=⟨_,rfl⟩;have bb:s3.size<=2010:=by rw [hs3,ByteArray.size_append,av.out];omega
       rw [<-hs3] at ai;clear af aj ao ay az;replace hs3:=Hd hs3;replace ai:=Hd ai;replace aa:=Hd aa;replace ab:=Hd ab;go_wp2_with fail
       go_loopw [0,240] (fun u0 i wr=>∃j:Nat,j<=z/\i=.int .i64 j/\RowK B k wr u0 (s3++zerB j)/\Below B w wr/\Kept k w wr) (fun _ i _=>z - (intOf i).toNat)
       case atStart=>exact ⟨0,Nat.zero_le _,rfl,by rw [Dz];exact ai.out,aa.out,ab.out⟩
       case round=>
        obtain ⟨j,hj,rfl,a,b,d⟩:=hrel;by_cases hlt:j<z
        ·first
         | exact absurd hlt (Nat.not_lt_zero _)
         | (
          have r:(j:Int)<((z:Nat):Int):=by omega
          have ac:B<=wr.heap.size:=Nat.le_trans hB b.size
          have ad:(s3++zerB j).size+(⟨#[48]⟩:ByteArray).size<=140737488355328:=by rw [ByteArray.size_append,Bi,aw.out];omega
          replace a:=Hd a
          replace b:=Hd b
          replace d:=Hd d
          go_wp2_with (at_builtin;refine Ay ⟨#[48]⟩ rfl rfl rfl a.out rfl rfl ad ac ?_)
          intro v9 w9 f ae g
          replace f:=Hd f
          replace g:=Hd g
          go_wp2_with fail
          go_roundw
          case rel=>exact ⟨j+1,by omega,by go_num,by rw [D0];exact f.out,b.out.trans ae,d.out.trans g.out⟩
          case measure=>simp [intOf]<;>omega
          )
        ·have ar:z=j:=by omega
         subst ar;have r:¬((z:Nat):Int)<((z:Nat):Int):=by omega
         obtain ⟨s4,hs4⟩:∃s4,s4=s3++zerB z:=⟨_,rfl⟩;have bc:s4.size<=3000:=by rw [hs4,ByteArray.size_append,Bi];omega
         rw [<-hs4] at a;have a5:=Hd a;have a6:=Hd b;have a7:=Hd d;replace hs4:=Hd hs4;clear a b d ai aa ab;go_wp2_with fail
         go_loopw [0,30,247] (fun u0 u30 i wr=>∃j:Nat,j<=n/\i=.int .i64 j/\RowK B k wr u0 (s4++D.extract o (o+j))/\Below B w wr/\Kept k w wr) (fun _ _ i _=>n - (intOf i).toNat)
         case atStart=>exact ⟨0,Nat.zero_le _,rfl,by rw [Nat.add_zero,ext_zero];exact a5.out,a6.out,a7.out⟩
         case round=>
          obtain ⟨j,hj,rfl,a,b,d⟩:=hrel;by_cases hlt:j<n
          ·have r:(j:Int)<(n:Int):=by omega
           have ac:B<=wr.heap.size:=Nat.le_trans hB b.size;obtain ⟨i,hie⟩:∃i,i=o+j:=⟨_,rfl⟩;have bj:(j:Int)=(i:Int):=by have hO:=ho.out;omega
           have bk:(i:Int)<(L:Int):=by have hO:=ho.out;omega
           obtain ⟨c,y,ak⟩:=ag.out i (by have hO:=ho.out;omega);have ak:=(d.cell i).trans ak;have ad:(s4++D.extract o (o+j)).size+(⟨#[c]⟩:ByteArray).size<=140737488355328:=by
            have e1:(⟨#[c]⟩:ByteArray).size=1:=rfl;rw [ByteArray.size_append,ByteArray.size_extract,e1];omega
           rw [hie] at y;replace y:=Hd y;replace hie:=Hd hie;replace a:=Hd a;replace b:=Hd b;replace d:=Hd d;go_wp2_with (at_builtin;refine Ay ⟨#[c]⟩ rfl rfl rfl a.out rfl rfl ad ac ?_)
           intro v9 w9 f ae g;replace f:=Hd f;replace g:=Hd g;go_wp2_with fail
           go_roundw
           case rel=>exact ⟨j+1,by omega,by go_num,by rw [ext_succ s4 D y.out];exact f.out,b.out.trans ae,d.out.trans g.out⟩
           case measure=>simp [intOf]<;>omega
          ·have aq:n=j:=by omega
           subst aq;have r:¬(n:Int)<(n:Int):=by omega
           have au:=Hd a;have a8:=Hd b;clear a b d;go_wp2_with fail
           go_loopw [0,261] (fun u0 i wr=>i=.int .i64 0/\RowK B k wr u0 (s4++D.extract o (o+n))/\Below B w wr) (fun _ _ _=>0)
           case atStart=>exact ⟨rfl,au.out,a8.out⟩
           case round=>
            obtain ⟨rfl,a,b⟩:=hrel;go_wp2_with fail
            go_meet
            refine ⟨(⟨#[46]⟩:ByteArray)++zerB z++D.extract o (o+n),?_,?_,b⟩
            ·rw [<-hdpe.out,l.out,ByteArray.data_append,ByteArray.data_append,Array.toList_append,Array.toList_append,Eu,ext_list,List.take_of_length_le (by have hO:=ho.out;rw [List.length_drop,u.out];omega)]
             simp
            ·rw [hs4.out,hs3.out] at a
             simp only [ByteArray.append_assoc] at a ⊢;exact a.row
      ·obtain ⟨p,hp⟩:∃p:Nat,dp=(p:Int):=⟨dp.toNat,by omega⟩
       subst hp;have hpp:(0:Int)<(p:Int):=by omega
       have hpp2:¬(0:Int) < -(p:Int):=by omega
       obtain ⟨q,hq⟩:∃q:Nat,prec=(q:Int):=⟨prec.toNat,by omega⟩;subst hq;have hqe:(n:Int) - (p:Int)=(q:Int):=by omega
       clear a3;have ho:=Hd (rfl:p=p);have a4:s2.size+(⟨#[46]⟩:ByteArray).size<=140737488355328:=by rw [av.out];omega
       have l:tailL D.data.toList dp' = 46 :: (List.replicate 0 48++D.data.toList.drop p):=by
        unfold tailL;rw [if_pos (by rw [u.out];omega)];have hO:=ho.out;congr 3;all_goals omega
       replace l:=Hd l;replace hdpe:=Hd hdpe;go_wp2_with (at_builtin;refine Ay ⟨#[46]⟩ rfl rfl rfl af.out rfl rfl a4 be ?_)
       intro v3 w3 ai ay az;have aa:=aj.out.trans ay;have ab:=ao.out.trans az;obtain ⟨s3,hs3⟩:∃s3,s3=s2++(⟨#[46]⟩:ByteArray):=⟨_,rfl⟩;have bb:s3.size<=2010:=by rw [hs3,ByteArray.size_append,av.out];omega
       rw [<-hs3] at ai;clear af aj ao ay az;replace hs3:=Hd hs3;replace ai:=Hd ai;replace aa:=Hd aa;replace ab:=Hd ab;go_wp2_with fail
       go_loopw [0,240] (fun u0 i wr=>∃j:Nat,j<=0/\i=.int .i64 j/\RowK B k wr u0 (s3++zerB j)/\Below B w wr/\Kept k w wr) (fun _ i _=>0 - (intOf i).toNat)
       case atStart=>exact ⟨0,Nat.zero_le _,rfl,by rw [Dz];exact ai.out,aa.out,ab.out⟩
       case round=>
        obtain ⟨j,hj,rfl,a,b,d⟩:=hrel;by_cases hlt:j<0
        ·first
         | exact absurd hlt (Nat.not_lt_zero _)
         | (
          have r:(j:Int)<((0:Nat):Int):=by omega
          have ac:B<=wr.heap.size:=Nat.le_trans hB b.size
          have ad:(s3++zerB j).size+(⟨#[48]⟩:ByteArray).size<=140737488355328:=by rw [ByteArray.size_append,Bi,aw.out];omega
          replace a:=Hd a
          replace b:=Hd b
          replace d:=Hd d
          go_wp2_with (at_builtin;refine Ay ⟨#[48]⟩ rfl rfl rfl a.out rfl rfl ad ac ?_)
          intro v9 w9 f ae g
          replace f:=Hd f
          replace g:=Hd g
          go_wp2_with fail
          go_roundw
          case rel=>exact ⟨j+1,by omega,by go_num,by rw [D0];exact f.out,b.out.trans ae,d.out.trans g.out⟩
          case measure=>simp [intOf]<;>omega
          )
        ·have ar:0=j:=by omega
         subst ar;have r:¬((0:Nat):Int)<((0:Nat):Int):=by omega
         obtain ⟨s4,hs4⟩:∃s4,s4=s3++zerB 0:=⟨_,rfl⟩;have bc:s4.size<=3000:=by rw [hs4,ByteArray.size_append,Bi];omega
         rw [<-hs4] at a;have a5:=Hd a;have a6:=Hd b;have a7:=Hd d;replace hs4:=Hd hs4;clear a b d ai aa ab;go_wp2_with fail
         go_loopw [0,30,247] (fun u0 u30 i wr=>∃j:Nat,j<=q/\i=.int .i64 j/\RowK B k wr u0 (s4++D.extract p (p+j))/\Below B w wr/\Kept k w wr) (fun _ _ i _=>q - (intOf i).toNat)
         case atStart=>exact ⟨0,Nat.zero_le _,rfl,by rw [Nat.add_zero,ext_zero];exact a5.out,a6.out,a7.out⟩
         case round=>
          obtain ⟨j,hj,rfl,a,b,d⟩:=hrel;by_cases hlt:j<q
          ·have r:(j:Int)<(q:Int):=by omega
           have ac:B<=wr.heap.size:=Nat.le_trans hB b.size;obtain ⟨i,hie⟩:∃i,i=p+j:=⟨_,rfl⟩;have bj:(p:Int)+(j:Int)=(i:Int):=by have hO:=ho.out;omega
           have bk:(i:Int)<(L:Int):=by have hO:=ho.out;omega
           obtain ⟨c,y,ak⟩:=ag.out i (by have hO:=ho.out;omega);have ak:=(d.cell i).trans ak;have ad:(s4++D.extract p (p+j)).size+(⟨#[c]⟩:ByteArray).size<=140737488355328:=by
            have e1:(⟨#[c]⟩:ByteArray).size=1:=rfl;rw [ByteArray.size_append,ByteArray.size_extract,e1];omega
           rw [hie] at y;replace y:=Hd y;replace hie:=Hd hie;replace a:=Hd a;replace b:=Hd b;replace d:=Hd d;go_wp2_with (at_builtin;refine Ay ⟨#[c]⟩ rfl rfl rfl a.out rfl rfl ad ac ?_)
           intro v9 w9 f ae g;replace f:=Hd f;replace g:=Hd g;go_wp2_with fail
           go_roundw
           case rel=>exact ⟨j+1,by omega,by go_num,by rw [ext_succ s4 D y.out];exact f.out,b.out.trans ae,d.out.trans g.out⟩
           case measure=>simp [intOf]<;>omega
          ·have aq:q=j:=by omega
           subst aq;have r:¬(q:Int)<(q:Int):=by omega
           have au:=Hd a;have a8:=Hd b;clear a b d;go_wp2_with fail
           go_loopw [0,261] (fun u0 i wr=>i=.int .i64 0/\RowK B k wr u0 (s4++D.extract p (p+q))/\Below B w wr) (fun _ _ _=>0)
           case atStart=>exact ⟨rfl,au.out,a8.out⟩
           case round=>
            obtain ⟨rfl,a,b⟩:=hrel;go_wp2_with fail
            go_meet
            refine ⟨(⟨#[46]⟩:ByteArray)++zerB 0++D.extract p (p+q),?_,?_,b⟩
            ·rw [<-hdpe.out,l.out,ByteArray.data_append,ByteArray.data_append,Array.toList_append,Array.toList_append,Eu,ext_list,List.take_of_length_le (by have hO:=ho.out;rw [List.length_drop,u.out];omega)]
             simp
            ·rw [hs4.out,hs3.out] at a
             simp only [ByteArray.append_assoc] at a ⊢;exact a.row
    ·have a3:=hp1.out (by omega)
     have l:tailL D.data.toList dp=[]:=if_neg (by rw [u.out];omega);replace l:=Hd l;go_wp2_with fail
     go_meet
     exact ⟨⟨#[]⟩,l.out.symm,by rw [Bq];exact af.out.row,aj.out⟩
   case rest=>
    rename World=>w5
    rename Value=>v5
    obtain ⟨T3,bh,au,a9⟩:=hcut;replace au:=Hd au;replace a9:=Hd a9;replace bh:=Hd bh;go_wp2_with fail
    go_ret;refine ⟨_,T1++T2++T3,rfl,?_,?_,a9.out⟩
    ·rw [effF_parts,<-bf.out,<-bg.out,<-bh.out,ByteArray.data_append,ByteArray.data_append,Array.toList_append,Array.toList_append]
    ·have:=au.out
     rw [hs2.out,hs1.out] at this;simp only [ByteArray.append_assoc] at this ⊢;exact this
