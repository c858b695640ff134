/- The document's reader: a line. -/
import Derived.Test.YtagkgfniihiinaaGreatDoorJ81
set_option linter.all false
namespace Go.Proofs.YtagkgfniihiinaaGreatDoor
open Go.RowKit
theorem Fh:∀{t:List UInt8} {c:UInt8} (z:List UInt8),c ∉ t->Lib.indexByte (t++z) c=-1\/(t.length:Int)<=Lib.indexByte (t++z) c
 | [],c,z,_=>by
   have:=Lib.indexByte_ge z c;simp only [List.nil_append,List.length_nil];omega
 | b :: t,c,z,h=>by
   have ih:=Fh (t:=t) z (fun hc=>h (List.mem_cons_of_mem _ hc));have hbc:¬b=c:=fun e=>h (by rw [e];exact List.mem_cons_self);rw [List.cons_append,Lib.indexByte];have hbf:(b == c)=false:=by simpa using hbc
   rw [hbf];simp only [Bool.false_eq_true,if_false];split
   · exact .inl rfl
   · rename_i h1
     have h1' : ¬Lib.indexByte (t++z) c=-1:=by simpa using h1
     right;rw [List.length_cons];omega
def lineA (o:Out (List UInt8 × Nat)):Ending:=match o with
 | .got p=>.returned (.tuple #[.string ⟨p.1.toArray⟩,.int .i64 (p.2:Int),.int .i64 0])
 | .stop e=>.returned (.tuple #[.string ⟨#[]⟩,.int .i64 0,.int .i64 (if e=51 then 2 else 1)])
structure LineI (L:List UInt8) (i:Nat):Prop where
 le:i<=L.length
 most:i<=4200
 no10:(10:UInt8) ∉ L.take i
 no13:(13:UInt8) ∉ L.take (i - 1)
theorem take_at {L:List UInt8} {i:Nat} (h:i<L.length) (m:Nat) (hm:i<m):L.take m=L.take i++L[i] :: (L.take m).drop (i+1):=by
 have h1:i<(L.take m).length:=by rw [List.length_take];omega
 have h2:=List.take_append_drop i (L.take m);rw [List.drop_eq_getElem_cons h1,List.getElem_take,List.take_take,Nat.min_eq_left (by omega)] at h2;exact h2.symm
theorem no13_all {L:List UInt8} {i:Nat} (h:LineI L i) (hp:∀k,i=k+1->L[k]?≠some 13):(13:UInt8) ∉ L.take i:=by
 cases i with
 | zero=>simp
 | succ k=>
   have hk:k<L.length:=by have:=h.le;omega
   rw [List.take_add_one,List.getElem?_eq_getElem hk];intro hm;rcases List.mem_append.1 hm with hm | hm
   · exact h.no13 hm
   · have h1:=hp k rfl
     rw [List.getElem?_eq_getElem hk] at h1;simp only [Option.toList_some,List.mem_singleton] at hm;rw [<-hm] at h1;exact h1 rfl
theorem line_there {L:List UInt8} {k:Nat} (h:LineI L (k+1)) (hk:k+1<L.length) (hm:k+1<4200) (h13:L[k]'(by omega)=13) (h10:L[k+1]=10):Aw L=.got (L.take k,k+2):=by
 have e:L=L.take k++13 :: 10 :: L.drop (k+2):=by
   conv=>lhs;rw [<-List.take_append_drop k L]
   rw [List.drop_eq_getElem_cons (by omega),List.drop_eq_getElem_cons (by omega),h13,h10]
 have hl:(L.take k).length=k:=by rw [List.length_take];omega
 have h1:(10:UInt8) ∉ L.take k:=fun hh=>h.no10 (by rw [List.take_add_one];exact List.mem_append_left _ hh);have h2:=lineS_got (t:=L.take k) (z:=L.drop (k+2)) h.no13 h1 (by omega);rw [<-e,hl] at h2;exact h2
theorem line_bad1 {L:List UInt8} {i:Nat} (h:LineI L i) (hi:i<L.length) (hm:i<4200) (h10:L[i]=10) (hp:∀k,i=k+1->L[k]?≠some 13):Aw L=.stop 51:=by
 have h13:=no13_all h hp;have e:=take_at hi 4200 hm;have hl:(L.take i).length=i:=by rw [List.length_take];omega
 have n1:Lib.indexByte (L.take 4200) 10=(i:Int):=by
   rw [e,h10,E8 _ h.no10,hl]
 have n2:Lib.indexByte (L.take 4200) 13=-1\/(i:Int)<=Lib.indexByte (L.take 4200) 13:=by
   have:=Fh (t:=L.take i) (L[i] :: (L.take 4200).drop (i+1)) h13;rw [<-e,hl] at this;exact this
 unfold Aw;dsimp only;rw [n1,if_pos (by omega)]
theorem line_bad2 {L:List UInt8} {k:Nat} (h:LineI L (k+1)) (hk:k+1<L.length) (hm:k+1<4200) (h13:L[k]'(by omega)=13) (h10:L[k+1]≠10):Aw L=.stop 51:=by
 have e:=take_at (i:=k) (L:=L) (by omega) 4200 (by omega);have hl:(L.take k).length=k:=by rw [List.length_take];omega
 have n1:Lib.indexByte (L.take 4200) 13=(k:Int):=by
   have hno:=h.no13;rw [Nat.add_sub_cancel] at hno;rw [e,h13,E8 _ hno,hl]
 have e2:=take_at (i:=k+1) (L:=L) hk 4200 hm;have hl2:(L.take (k+1)).length=k+1:=by rw [List.length_take];omega
 have n2:Lib.indexByte (L.take 4200) 10=-1\/(k:Int)+2<=Lib.indexByte (L.take 4200) 10:=by
   have hno:(10:UInt8) ∉ L.take (k+1)++[L[k+1]]:=fun hh=>by
     rcases List.mem_append.1 hh with hh | hh
     · exact h.no10 hh
     · simp only [List.mem_singleton] at hh
       exact h10 hh.symm
   have:=Fh ((L.take 4200).drop (k+1+1)) hno;rw [List.append_assoc,List.singleton_append,<-e2,List.length_append,hl2,List.length_singleton] at this;omega
 have hR:((L.take 4200).length:Int) ≥ (k:Int)+2:=by rw [List.length_take];omega
 unfold Aw;dsimp only;rw [n1,if_pos (by omega)]
theorem line_end {L:List UInt8} {i:Nat} (h:LineI L i) (hi:i=L.length\/i=4200):Aw L=.stop (if 4200<=L.length then 51 else 0):=by
 have hle:=h.le;have hm:=h.most;have e:L.take 4200=L.take i:=by
   rcases hi with hi | hi
   · rw [hi,List.take_of_length_le (Nat.le_refl _),List.take_of_length_le (by omega)]
   · rw [hi]
 have hl:(L.take i).length=i:=by rw [List.length_take];omega
 have n1:Lib.indexByte (L.take i) 10=-1:=index_no h.no10;have n2:Lib.indexByte (L.take i) 13=-1\/(i:Int) - 1<=Lib.indexByte (L.take i) 13:=by
   have hl2:(L.take (i - 1)).length=i - 1:=by rw [List.length_take];omega
   have:=Fh (t:=L.take (i - 1)) ((L.take i).drop (i - 1)) h.no13;have e3:L.take (i - 1)++(L.take i).drop (i - 1)=L.take i:=by
     have h3:=List.take_append_drop (i - 1) (L.take i);rw [List.take_take,Nat.min_eq_left (by omega)] at h3;exact h3
   rw [e3,hl2] at this;omega
 unfold Aw;dsimp only;rw [e,n1,hl];by_cases h4:4200<=L.length
 · rw [if_pos (by omega),if_pos h4]
 · rw [if_neg (by omega),if_pos (by omega),if_neg h4]
theorem LineI.next {L:List UInt8} {i:Nat} (h:LineI L i) (hi:i<L.length) (hm:i<4200) (h10:L[i]≠10) (hp:∀k,i=k+1->L[k]?≠some 13):LineI L (i+1):=by
 refine ⟨by omega,by omega,fun hh=>?_,by rw [Nat.add_sub_cancel];exact no13_all h hp⟩;rw [List.take_add_one,List.getElem?_eq_getElem hi] at hh;rcases List.mem_append.1 hh with hh | hh
 · exact h.no10 hh
 · simp only [Option.toList_some,List.mem_singleton] at hh
   exact h10 hh.symm
theorem get_list {s:ByteArray} {j:Nat} (h:j<s.size):∃hj:j<s.data.toList.length,s.data.toList[j]'hj=s[j]'h:=by
 have hj:j<s.data.toList.length:=by rw [Array.length_toList];exact h
 have h1:=Lib.data_getElem? s j h;rw [List.getElem?_eq_getElem hj] at h1;exact ⟨hj,Option.some.inj h1⟩
set_option maxRecDepth 100000 in
set_option maxHeartbeats 3200000 in
theorem Dc {s:ByteArray} (hs:s.size<=1000000) (w:World):Calls Tryz.prog 73 #[.string s] w fun e w' => e=lineA (Aw s.data.toList)/\w' = w:=by
 obtain ⟨A,hA⟩:∃A,A=Aw s.data.toList:=⟨_,rfl⟩;rw [<-hA];have hlen:s.data.toList.length=s.size:=by rw [Array.length_toList];rfl
 replace hA:=Hd hA;replace hlen:=Hd hlen
 go_enter Tryz.func73,Tryz.ntmps73
 go_wp2_with fail
 go_loop [5] (fun s5=>∃i:Nat,s5=.int .i64 (i:Int)/\LineI s.data.toList i) (fun s5=>s.size - (intOf s5).toNat)
 case atStart=>exact ⟨0,rfl,⟨Nat.zero_le _,by omega,by simp,by simp⟩⟩
 case round=>
   obtain ⟨i,rfl,hl⟩:=hrel;by_cases hlt:i<s.size
   · have hlti:(i:Int)<(s.size:Int):=by omega
     by_cases h4:i<4200
     · have h4i:(i:Int)<4200:=by omega
       obtain ⟨c,hcc⟩:∃c,s[i]'hlt=c:=⟨_,rfl⟩;obtain ⟨hj,hge⟩:=get_list hlt;rw [hcc] at hge;by_cases h0:i=0
       · have hp:∀k,i=k+1->s.data.toList[k]?≠some 13:=fun k hk=>by omega
         by_cases h10:c=10
         · have hb:=line_bad1 hl hj h4 (by rw [hge];exact h10) hp
           rw [<-hA.out] at hb;have e10:((c.toNat:Int) == 10)=true:=by rw [h10];rfl
           subst h0;replace hb:=Hd hb;clear hl hge h10 hp;go_wp2;refine bodyPost_ret (v:=.tuple #[.string ⟨#[]⟩,.int .i64 0,.int .i64 2]) (by simp [results,Tryz.results73,go_sem]) rfl ⟨by rw [hb.out];rfl,rfl⟩
         · have hn:=hl.next hj h4 (by rw [hge];exact h10) hp
           have e10:((c.toNat:Int) == 10)=false:=by
             rw [beq_eq_false_iff_ne];intro e;exact h10 (UInt8.toNat_inj.1 (by show c.toNat=10;omega))
           subst h0;replace hn:=Hd hn;clear hl hge h10 hp;go_wp2_with fail
           go_round
           case rel=>exact ⟨1,rfl,hn.out⟩
           case measure=>simp [intOf];omega
       · obtain ⟨k,rfl⟩:∃k,i=k+1:=⟨i - 1,by omega⟩
         have h0i:(0:Int)<((k+1:Nat):Int):=by omega
         have hkl:k<s.size:=by omega
         obtain ⟨d,hdd⟩:∃d,s[k]'hkl=d:=⟨_,rfl⟩;obtain ⟨hj2,hge2⟩:=get_list hkl;rw [hdd] at hge2;have hw1:IntKind.i64.wrap (((k+1:Nat):Int) - 1)=(k:Int):=by rw [IntWalk.i64_in _ (by omega)];omega
         have hw2:((k+1:Nat):Int) - 1=(k:Int):=by omega
         by_cases h13:d=13
         · have e13:((d.toNat:Int) == 13)=true:=by rw [h13];rfl
           by_cases h10:c=10
           · have hb:=line_there hl hj h4 (by rw [hge2];exact h13) (by rw [hge];exact h10)
             rw [<-hA.out] at hb;have e10:((c.toNat:Int) == 10)=true:=by rw [h10];rfl
             have hx:s.extract 0 k=⟨(s.data.toList.take k).toArray⟩:=ByteArray.ext (Array.ext' (by rw [ByteArray.data_extract,Array.toList_extract,List.extract_eq_take_drop,List.drop_zero,Nat.sub_zero]));replace hb:=Hd hb;replace hx:=Hd hx;clear hl hge hge2 h10 h13;go_wp2;refine bodyPost_ret (v:=.tuple #[.string (s.extract 0 k),.int .i64 ((k+2:Nat):Int),.int .i64 0]) (by simp [results,Tryz.results73,go_sem];omega) rfl ⟨by rw [hb.out,hx.out];rfl,rfl⟩
           · have hb:=line_bad2 hl hj h4 (by rw [hge2];exact h13) (by rw [hge];exact h10)
             rw [<-hA.out] at hb;have e10:((c.toNat:Int) == 10)=false:=by
               rw [beq_eq_false_iff_ne];intro e;exact h10 (UInt8.toNat_inj.1 (by show c.toNat=10;omega))
             replace hb:=Hd hb;clear hl hge hge2 h10 h13;go_wp2;refine bodyPost_ret (v:=.tuple #[.string ⟨#[]⟩,.int .i64 0,.int .i64 2]) (by simp [results,Tryz.results73,go_sem]) rfl ⟨by rw [hb.out];rfl,rfl⟩
         · have hp:∀q,k+1=q+1->s.data.toList[q]?≠some 13:=fun q hq=>by
             obtain rfl:k=q:=by omega
             rw [List.getElem?_eq_getElem hj2,hge2];exact fun e=>h13 (Option.some.inj e)
           have e13:((d.toNat:Int) == 13)=false:=by
             rw [beq_eq_false_iff_ne];intro e;exact h13 (UInt8.toNat_inj.1 (by show d.toNat=13;omega))
           by_cases h10:c=10
           · have hb:=line_bad1 hl hj h4 (by rw [hge];exact h10) hp
             rw [<-hA.out] at hb;have e10:((c.toNat:Int) == 10)=true:=by rw [h10];rfl
             replace hb:=Hd hb;clear hl hge hge2 h10 h13 hp;go_wp2;refine bodyPost_ret (v:=.tuple #[.string ⟨#[]⟩,.int .i64 0,.int .i64 2]) (by simp [results,Tryz.results73,go_sem]) rfl ⟨by rw [hb.out];rfl,rfl⟩
           · have hn:=hl.next hj h4 (by rw [hge];exact h10) hp
             have e10:((c.toNat:Int) == 10)=false:=by
               rw [beq_eq_false_iff_ne];intro e;exact h10 (UInt8.toNat_inj.1 (by show c.toNat=10;omega))
             replace hn:=Hd hn;clear hl hge hge2 h10 h13 hp;go_wp2_with fail
             go_round
             case rel=>exact ⟨k+1+1,by first | rfl | (congr 1;omega),hn.out⟩
             case measure=>simp [intOf];omega
     · have h4i:¬(i:Int)<4200:=by omega
       have hb:=line_end hl (.inr (by have:=hl.most;omega));have h42:(4200:Int)<=(s.size:Int):=by omega
       rw [hlen.out,if_pos (by omega),<-hA.out] at hb;replace hb:=Hd hb;clear hl;go_wp2;refine bodyPost_ret (v:=.tuple #[.string ⟨#[]⟩,.int .i64 0,.int .i64 2]) (by simp [results,Tryz.results73,go_sem]) rfl ⟨by rw [hb.out];rfl,rfl⟩
   · have hlti:¬(i:Int)<(s.size:Int):=by omega
     have hb:=line_end hl (.inl (by have:=hl.le;have:=hlen.out;omega));rw [hlen.out,<-hA.out] at hb;by_cases h42:4200<=s.size
     · rw [if_pos h42] at hb
       have h42i:(4200:Int)<=(s.size:Int):=by omega
       replace hb:=Hd hb;clear hl;go_wp2;refine bodyPost_ret (v:=.tuple #[.string ⟨#[]⟩,.int .i64 0,.int .i64 2]) (by simp [results,Tryz.results73,go_sem]) rfl ⟨by rw [hb.out];rfl,rfl⟩
     · rw [if_neg h42] at hb
       have h42i:¬(4200:Int)<=(s.size:Int):=by omega
       replace hb:=Hd hb;clear hl;go_wp2;refine bodyPost_ret (v:=.tuple #[.string ⟨#[]⟩,.int .i64 0,.int .i64 1]) (by simp [results,Tryz.results73,go_sem]) rfl ⟨by rw [hb.out];rfl,rfl⟩
end Go.Proofs.YtagkgfniihiinaaGreatDoor
