/- The document's look at a number's text, by states. -/
import Derived.Test.YtagkgfniihiinaaGreatDoorJ22
set_option linter.all false
namespace Go.Proofs.YtagkgfniihiinaaGreatDoor
open Go.RowKit
set_option maxRecDepth 100000 in
set_option maxHeartbeats 6400000 in
theorem rform_any {s:ByteArray} (hs:s.size<=1000) (w:World):Calls Tryz.prog 110 #[.string s] w fun e w' => e=.returned (.bool (runF 0 s.data.toList))/\w' = w:=by
 obtain ⟨R,hR⟩:∃R,R=runF 0 s.data.toList:=⟨_,rfl⟩;rw [<-hR];replace hR:=Hd hR;have hsz:(s.size:Int)<=1000:=by omega
 go_enter Tryz.func110,Tryz.ntmps110
 go_wp2_with fail
 go_loop [3,4,5,6] (fun s3 s4 _ _=>∃st i:Nat,st<=7/\i<=s.size/\s3=.int .i64 (st:Int)/\s4=.int .i64 (i:Int)/\runF st (s.data.toList.drop i)=R) (fun _ s4 _ _=>s.size - (intOf s4).toNat)
 case atStart=>exact ⟨0,0,by omega,Nat.zero_le _,rfl,rfl,hR.out.symm⟩
 case round=>
   obtain ⟨st,i,hst,hi,rfl,rfl,hl⟩:=hrel;by_cases hlt:i<s.size
   · have hlti:(i:Int)<(s.size:Int):=by omega
     obtain ⟨c,hcc⟩:∃c,s[i]'hlt=c:=⟨_,rfl⟩;have hcl:s.data.toList.drop i=c :: s.data.toList.drop (i+1):=by
       have hlt' : i<s.data.toList.length:=by rw [Array.length_toList];exact hlt
       have h1:=Lib.data_getElem? s i hlt;rw [List.getElem?_eq_getElem hlt', hcc] at h1;rw [List.drop_eq_getElem_cons hlt', Option.some.inj h1]
     rw [hcl,Bx] at hl;replace hcl:=Hd hcl;have hc256:c.toNat<256:=c.toNat_lt;by_cases hdg:isD c=true
     · have hd:=hdg
       have hdr:48<=c.toNat/\c.toNat<=57:=by simp [isD] at hdg;exact hdg
       have r1:(48:Int)<=(c.toNat:Int):=by omega
       have r2:(c.toNat:Int)<=57:=by omega
       have n45:¬c.toNat=45:=by omega
       have n46:¬c.toNat=46:=by omega
       have n101:¬c.toNat=101:=by omega
       have n43:¬c.toNat=43:=by omega
       have e45:((c.toNat:Int) == 45)=false:=by rw [beq_eq_false_iff_ne];omega
       have e46:((c.toNat:Int) == 46)=false:=by rw [beq_eq_false_iff_ne];omega
       have e101:((c.toNat:Int) == 101)=false:=by rw [beq_eq_false_iff_ne];omega
       have e43:((c.toNat:Int) == 43)=false:=by rw [beq_eq_false_iff_ne];omega
       clear hdg hdr hc256;obtain rfl | rfl | rfl | rfl | rfl | rfl | rfl | rfl:st=0\/st=1\/st=2\/st=3\/st=4\/st=5\/st=6\/st=7:=by omega
       all_goals
         simp [Bu,hd,n45,n46,n101,n43] at hl
         replace hl:=Hd hl
         replace hd:=Hd hd
         replace n45:=Hd n45
         replace n46:=Hd n46
         replace n101:=Hd n101
         replace n43:=Hd n43
         first
           | (go_wp2_with fail
              go_round
              case rel=>refine ⟨_,i+1,?_,by omega,?_,by go_num,hl.out⟩<;>first | rfl | omega
              case measure=>simp [intOf];omega)
           | (go_wp2
              go_ret
              first
                | exact ⟨by rw [hl.out];rfl,rfl⟩
                | exact ⟨by rw [<-hl.out];rfl,rfl⟩)
     · have hd:isD c=false:=by simpa using hdg
       have hdr:¬(48<=c.toNat/\c.toNat<=57):=by simp [isD] at hdg;omega
       by_cases k45:c.toNat=45
       · have n45:=k45
         have n46:¬c.toNat=46:=by omega
         have n101:¬c.toNat=101:=by omega
         have n43:¬c.toNat=43:=by omega
         have hv:(c.toNat:Int)=45:=by omega
         clear hdg hdr hc256 k45;obtain rfl | rfl | rfl | rfl | rfl | rfl | rfl | rfl:st=0\/st=1\/st=2\/st=3\/st=4\/st=5\/st=6\/st=7:=by omega
         all_goals
           simp [Bu,hd,n45,n46,n101,n43] at hl
           replace hl:=Hd hl
           replace hd:=Hd hd
           replace n45:=Hd n45
           replace n46:=Hd n46
           replace n101:=Hd n101
           replace n43:=Hd n43
           first
             | (go_wp2_with fail
                go_round
                case rel=>refine ⟨_,i+1,?_,by omega,?_,by go_num,hl.out⟩<;>first | rfl | omega
                case measure=>simp [intOf];omega)
             | (go_wp2
                go_ret
                first
                  | exact ⟨by rw [hl.out];rfl,rfl⟩
                  | exact ⟨by rw [<-hl.out];rfl,rfl⟩)
       by_cases k46:c.toNat=46
       · have n45:=k45
         have n46:=k46;have n101:¬c.toNat=101:=by omega
         have n43:¬c.toNat=43:=by omega
         have hv:(c.toNat:Int)=46:=by omega
         clear hdg hdr hc256 k45 k46;obtain rfl | rfl | rfl | rfl | rfl | rfl | rfl | rfl:st=0\/st=1\/st=2\/st=3\/st=4\/st=5\/st=6\/st=7:=by omega
         all_goals
           simp [Bu,hd,n45,n46,n101,n43] at hl
           replace hl:=Hd hl
           replace hd:=Hd hd
           replace n45:=Hd n45
           replace n46:=Hd n46
           replace n101:=Hd n101
           replace n43:=Hd n43
           first
             | (go_wp2_with fail
                go_round
                case rel=>refine ⟨_,i+1,?_,by omega,?_,by go_num,hl.out⟩<;>first | rfl | omega
                case measure=>simp [intOf];omega)
             | (go_wp2
                go_ret
                first
                  | exact ⟨by rw [hl.out];rfl,rfl⟩
                  | exact ⟨by rw [<-hl.out];rfl,rfl⟩)
       by_cases k101:c.toNat=101
       · have n45:=k45
         have n46:=k46;have n101:=k101;have n43:¬c.toNat=43:=by omega
         have hv:(c.toNat:Int)=101:=by omega
         clear hdg hdr hc256 k45 k46 k101;obtain rfl | rfl | rfl | rfl | rfl | rfl | rfl | rfl:st=0\/st=1\/st=2\/st=3\/st=4\/st=5\/st=6\/st=7:=by omega
         all_goals
           simp [Bu,hd,n45,n46,n101,n43] at hl
           replace hl:=Hd hl
           replace hd:=Hd hd
           replace n45:=Hd n45
           replace n46:=Hd n46
           replace n101:=Hd n101
           replace n43:=Hd n43
           first
             | (go_wp2_with fail
                go_round
                case rel=>refine ⟨_,i+1,?_,by omega,?_,by go_num,hl.out⟩<;>first | rfl | omega
                case measure=>simp [intOf];omega)
             | (go_wp2
                go_ret
                first
                  | exact ⟨by rw [hl.out];rfl,rfl⟩
                  | exact ⟨by rw [<-hl.out];rfl,rfl⟩)
       by_cases k43:c.toNat=43
       · have n45:=k45
         have n46:=k46;have n101:=k101;have n43:=k43;have hv:(c.toNat:Int)=43:=by omega
         clear hdg hdr hc256 k45 k46 k101 k43;obtain rfl | rfl | rfl | rfl | rfl | rfl | rfl | rfl:st=0\/st=1\/st=2\/st=3\/st=4\/st=5\/st=6\/st=7:=by omega
         all_goals
           simp [Bu,hd,n45,n46,n101,n43] at hl
           replace hl:=Hd hl
           replace hd:=Hd hd
           replace n45:=Hd n45
           replace n46:=Hd n46
           replace n101:=Hd n101
           replace n43:=Hd n43
           first
             | (go_wp2_with fail
                go_round
                case rel=>refine ⟨_,i+1,?_,by omega,?_,by go_num,hl.out⟩<;>first | rfl | omega
                case measure=>simp [intOf];omega)
             | (go_wp2
                go_ret
                first
                  | exact ⟨by rw [hl.out];rfl,rfl⟩
                  | exact ⟨by rw [<-hl.out];rfl,rfl⟩)
       have n45:=k45;have n46:=k46;have n101:=k101;have n43:=k43;have e45:((c.toNat:Int) == 45)=false:=by rw [beq_eq_false_iff_ne];omega
       have e46:((c.toNat:Int) == 46)=false:=by rw [beq_eq_false_iff_ne];omega
       have e101:((c.toNat:Int) == 101)=false:=by rw [beq_eq_false_iff_ne];omega
       have e43:((c.toNat:Int) == 43)=false:=by rw [beq_eq_false_iff_ne];omega
       by_cases h48:48<=c.toNat
       · have r1:(48:Int)<=(c.toNat:Int):=by omega
         have r2:¬(c.toNat:Int)<=57:=by omega
         clear hdg hdr hc256 k45 k46 k101 k43 h48;obtain rfl | rfl | rfl | rfl | rfl | rfl | rfl | rfl:st=0\/st=1\/st=2\/st=3\/st=4\/st=5\/st=6\/st=7:=by omega
         all_goals
           simp [Bu,hd,n45,n46,n101,n43] at hl
           replace hl:=Hd hl
           replace hd:=Hd hd
           replace n45:=Hd n45
           replace n46:=Hd n46
           replace n101:=Hd n101
           replace n43:=Hd n43
           first
             | (go_wp2_with fail
                go_round
                case rel=>refine ⟨_,i+1,?_,by omega,?_,by go_num,hl.out⟩<;>first | rfl | omega
                case measure=>simp [intOf];omega)
             | (go_wp2
                go_ret
                first
                  | exact ⟨by rw [hl.out];rfl,rfl⟩
                  | exact ⟨by rw [<-hl.out];rfl,rfl⟩)
       · have r1:¬(48:Int)<=(c.toNat:Int):=by omega
         clear hdg hdr hc256 k45 k46 k101 k43 h48;obtain rfl | rfl | rfl | rfl | rfl | rfl | rfl | rfl:st=0\/st=1\/st=2\/st=3\/st=4\/st=5\/st=6\/st=7:=by omega
         all_goals
           simp [Bu,hd,n45,n46,n101,n43] at hl
           replace hl:=Hd hl
           replace hd:=Hd hd
           replace n45:=Hd n45
           replace n46:=Hd n46
           replace n101:=Hd n101
           replace n43:=Hd n43
           first
             | (go_wp2_with fail
                go_round
                case rel=>refine ⟨_,i+1,?_,by omega,?_,by go_num,hl.out⟩<;>first | rfl | omega
                case measure=>simp [intOf];omega)
             | (go_wp2
                go_ret
                first
                  | exact ⟨by rw [hl.out];rfl,rfl⟩
                  | exact ⟨by rw [<-hl.out];rfl,rfl⟩)
   · have hie:i=s.size:=by omega
     have hlti:¬(i:Int)<(s.size:Int):=by omega
     have hnil:s.data.toList.drop i=[]:=List.drop_eq_nil_of_le (by rw [Array.length_toList];show s.size<=i;omega);rw [hnil] at hl;replace hnil:=Hd hnil;replace hie:=Hd hie;obtain rfl | rfl | rfl | rfl | rfl | rfl | rfl | rfl:st=0\/st=1\/st=2\/st=3\/st=4\/st=5\/st=6\/st=7:=by omega
     all_goals
       replace hl:=Hd hl
       go_wp2
       go_ret
       exact ⟨by rw [<-hl.out];rfl,rfl⟩
end Go.Proofs.YtagkgfniihiinaaGreatDoor
