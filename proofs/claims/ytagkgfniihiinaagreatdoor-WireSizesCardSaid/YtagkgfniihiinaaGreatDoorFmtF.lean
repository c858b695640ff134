/- internal/strconv.fmtEFG, 'f': sign, digits, point, digits. -/
import Derived.Test.YtagkgfniihiinaaGreatDoorFmtE
namespace Go.Proofs.YtagkgfniihiinaaGreatDoor
open Go.RowKit
theorem Do (s D : ByteArray) (o : Nat) : s ++ D.extract o o = s := by
 have : D.extract o o = (⟨#[]⟩ : ByteArray) := by apply ByteArray.ext; simp
 rw [this, Aq]
theorem En (s D : ByteArray) {o j : Nat} {c : UInt8} (h : D.data[o + j]? = some c) : s ++ D.extract o (o + (j + 1)) = s ++ D.extract o (o + j) ++ (⟨#[c]⟩ : ByteArray) := by
 rw [ByteArray.append_assoc]
 congr 1
 apply ByteArray.ext
 rw [ByteArray.data_append, ByteArray.data_extract, ByteArray.data_extract]
 obtain ⟨h1, h2⟩ := Array.getElem?_eq_some_iff.1 h
 apply Array.toList_inj.1
 rw [Array.toList_append, Array.toList_extract, Array.toList_extract, List.extract_eq_take_drop, List.extract_eq_take_drop]
 rw [show o + (j + 1) - o = j + 1 by omega, show o + j - o = j by omega, List.take_add_one]
 congr 1
 rw [List.getElem?_drop, Array.getElem?_toList, h]; rfl
theorem ext_succ0 (s D : ByteArray) {j : Nat} {c : UInt8} (h : D.data[j]? = some c) : s ++ D.extract 0 (j + 1) = s ++ D.extract 0 j ++ (⟨#[c]⟩ : ByteArray) := by
 have := En s D (o := 0) (j := j) (c := c) (by rw [Nat.zero_add]; exact h)
 rwa [Nat.zero_add, Nat.zero_add] at this
theorem Dr (D : ByteArray) (o m : Nat) : (D.extract o m).data.toList = (D.data.toList.drop o).take (m - o) := by
 rw [ByteArray.data_extract, Array.toList_extract, List.extract_eq_take_drop]
def headL (D : List UInt8) (dp : Int) : List UInt8 := if 0 < dp then D.take dp.toNat ++ List.replicate (dp.toNat - D.length) 48 else [48]
def Ep (D : List UInt8) (dp : Int) : List UInt8 := if dp < D.length then 46 :: (List.replicate (-dp).toNat 48 ++ D.drop dp.toNat) else []
theorem effF_parts (neg : Bool) (D : List UInt8) (dp : Int) : effF neg D dp = A4 neg ++ headL D dp ++ Ep D dp := rfl
set_option maxRecDepth 100000 in
set_option maxHeartbeats 6400000 in
theorem F2 {B k L : Nat} {w : World} {v sl : Value} {s D : ByteArray} {dp prec : Int} {neg sh : Bool} (hR : RowK B k w v s) (hs : s.size <= 1000) (hD2 : D.size <= 20) (d0 : -900 <= dp) (d1 : dp <= 900)
   (hp0 : 0 < prec -> prec = D.size - dp) (hp1 : prec <= 0 -> (D.size : Int) <= dp) (p0 : -1 <= prec) (p1 : prec <= 920) (hdp : dp ≠ 0 -> D.size ≠ 0) (hL : D.size <= L) (hL2 : L <= 100) (hB : B <= w.heap.size) (hsl : D.size ≠ 0 -> sl = .slice (some ⟨k, 0, none⟩) L L)
   (hc : ∀ j (h : j < D.size), w.cell? ⟨k, j, none⟩ = some (.int .u8 ((D.data[j]'h).toNat : Int))) :
   Calls Tryz.prog 140 #[v, .bool neg, sl, .int .i64 dp, .int .i64 (D.size : Int), .int .i64 prec, .int .u8 102, .bool sh] w fun e w' => ∃ v' t, e = .returned v' /\ t.data.toList = effF neg D.data.toList dp /\ Row B w' v' (s ++ t) /\ Below B w w' := by
 have hcell : ∀ j, j < D.size -> ∃ c : UInt8, D.data[j]? = some c /\ w.cell? ⟨k, j, none⟩ = some (.int .u8 (c.toNat : Int)) := fun j h => ⟨_, Array.getElem?_eq_getElem (show j < D.data.size from h), hc j h⟩
 have hlenD : D.data.toList.length = D.size := by rw [Array.length_toList]; rfl
 obtain ⟨n, hn⟩ : ∃ n, n = D.size := ⟨_, rfl⟩
 rw [<- hn] at hD2 hp0 hp1 hdp hL hsl hcell hlenD ⊢
 clear hc
 replace hcell := Hd hcell
 replace hlenD := Hd hlenD
 replace hn := Hd hn
 replace hsl := Hd hsl
 replace hR := Hd hR
 replace hdp := Hd hdp
 replace hp0 := Hd hp0
 replace hp1 := Hd hp1
 have e45 : (⟨#[45]⟩ : ByteArray).size = 1 := rfl
 have e46 : (⟨#[46]⟩ : ByteArray).size = 1 := rfl
 have e48 : (⟨#[48]⟩ : ByteArray).size = 1 := rfl
 replace e45 := Hd e45
 replace e46 := Hd e46
 replace e48 := Hd e48
 go_enter Tryz.func140, Tryz.ntmps140
 go_upto_if 178 with fail
 go_cut [0] from 178 to 181 (fun s0 wx => ∃ T : ByteArray, T.data.toList = A4 neg /\ T.size <= 1 /\ RowK B k wx s0 (s ++ T) /\ Below B w wx /\ Kept k w wx)
 case first =>
   cases neg
   · go_wp2_with fail
     go_meet
     exact ⟨⟨#[]⟩, rfl, by decide, by rw [Aq]; exact hR.out, Below.refl _ _, Kept.refl _ _⟩
   · have hz : s.size + (⟨#[45]⟩ : ByteArray).size <= 140737488355328 := by rw [e45.out]; omega
     go_wp2_with (at_builtin; refine Ar ⟨#[45]⟩ rfl rfl rfl hR.out rfl rfl hz hB ?_)
     intro v1 w1 hQ1 hb1 hk1
     replace hQ1 := Hd hQ1
     go_wp2_with fail
     go_meet
     exact ⟨⟨#[45]⟩, rfl, by decide, hQ1.out, hb1, hk1⟩
 case rest =>
   rename World => w1
   rename Value => v1
   obtain ⟨T1, hT1, hT1s, hQ1, hb01, hk01⟩ := hcut
   have hB1 : B <= w1.heap.size := Nat.le_trans hB hb01.size
   obtain ⟨s1, hs1⟩ : ∃ s1, s1 = s ++ T1 := ⟨_, rfl⟩
   have hs1n : s1.size <= 1001 := by rw [hs1, ByteArray.size_append]; omega
   rw [<- hs1] at hQ1
   replace hT1 := Hd hT1
   replace hb01 := Hd hb01
   replace hk01 := Hd hk01
   replace hQ1 := Hd hQ1
   replace hs1 := Hd hs1
   clear hR
   go_upto_if 183 with fail
   go_cut [0] from 183 to 211 (fun s0 wx => ∃ T : ByteArray, T.data.toList = headL D.data.toList dp /\ T.size <= 1000 /\ RowK B k wx s0 (s1 ++ T) /\ Below B w wx /\ Kept k w wx)
   case first =>
     by_cases h0 : 0 < dp
     · have hn0 := hdp.out (by omega)
       have hsl0 := hsl.out hn0
       subst hsl0
       obtain ⟨p, rfl⟩ : ∃ p : Nat, dp = (p : Int) := ⟨dp.toNat, by omega⟩
       have hL0 : (L : Int) <= 100 := by omega
       have hhead : ∀ m z : Nat, (p < n /\ m = p /\ z = 0) \/ (n <= p /\ m = n /\ z = p - n) -> headL D.data.toList p = (D.extract 0 m ++ zerB z).data.toList := fun m z h => by
         unfold headL
         rw [if_pos h0, ByteArray.data_append, Array.toList_append, Dr, Cs, hlenD.out, List.drop_zero, Int.toNat_natCast]
         have e1 : D.data.toList.take p = D.data.toList.take (m - 0) := by
           rw [show m - 0 = m by omega]
           rcases h with ⟨h1, h2, h3⟩ | ⟨h1, h2, h3⟩
           · rw [h2]
           · rw [List.take_of_length_le (by rw [hlenD.out]; omega), List.take_of_length_le (by rw [hlenD.out]; omega)]
         rw [e1]
         congr 2; omega
       by_cases h9 : p < n
       · have hmn : (p : Int) < (n : Int) := by omega
         have hmL : (p : Int) <= (L : Int) := by omega
         have hhead' := hhead p 0 (.inl ⟨h9, rfl, rfl⟩)
         replace hhead' := Hd hhead'
         clear hhead
         go_wp2_with fail
         go_loopw [0, 25, 191] (fun u0 u25 i wr => ∃ j : Nat, j <= p /\ i = .int .i64 j /\ RowK B k wr u0 (s1 ++ D.extract 0 j) /\ Below B w wr /\ Kept k w wr) (fun _ _ i _ => p - (intOf i).toNat)
         case atStart => exact ⟨0, Nat.zero_le _, rfl, by rw [Do]; exact hQ1.out, hb01.out, hk01.out⟩
         case round =>
           obtain ⟨j, hj, rfl, hQj, hbj, hkj⟩ := hrel
           by_cases hlt : j < p
           · have hlti : (j : Int) < (p : Int) := by omega
             have hBj : B <= wr.heap.size := Nat.le_trans hB hbj.size
             obtain ⟨c, hce, hcw⟩ := hcell.out j (by omega)
             have hcw := (hkj.cell j).trans hcw
             replace hce := Hd hce
             have hzj : (s1 ++ D.extract 0 j).size + (⟨#[c]⟩ : ByteArray).size <= 140737488355328 := by
               have e1 : (⟨#[c]⟩ : ByteArray).size = 1 := rfl
               rw [ByteArray.size_append, ByteArray.size_extract, e1]; omega
             replace hQj := Hd hQj
             replace hbj := Hd hbj
             replace hkj := Hd hkj
             go_wp2_with (at_builtin; refine Ar ⟨#[c]⟩ rfl rfl rfl hQj.out rfl rfl hzj hBj ?_)
             intro v9 w9 hQ9 hb9 hk9
             replace hQ9 := Hd hQ9
             replace hk9 := Hd hk9
             go_wp2_with fail
             go_roundw
             case rel => exact ⟨j + 1, by omega, by go_num, by rw [ext_succ0 s1 D hce.out]; exact hQ9.out, hbj.out.trans hb9, hkj.out.trans hk9.out⟩
             case measure => simp [intOf] <;> omega
           · have hjm : p = j := by omega
             subst hjm
             have hlti : ¬ (p : Int) < (p : Int) := by omega
             obtain ⟨s2, hs2⟩ : ∃ s2, s2 = s1 ++ D.extract 0 p := ⟨_, rfl⟩
             have hs2n : s2.size <= 1030 := by rw [hs2, ByteArray.size_append, ByteArray.size_extract]; omega
             rw [<- hs2] at hQj
             have hQ2 := Hd hQj
             have hb2 := Hd hbj
             have hk2 := Hd hkj
             replace hs2 := Hd hs2
             clear hQj hbj hkj hQ1 hb01 hk01
             go_wp2_with fail
             go_loopw [0, 203] (fun u0 i wr => ∃ j : Nat, j <= 0 /\ i = .int .i64 j /\ RowK B k wr u0 (s2 ++ zerB j) /\ Below B w wr /\ Kept k w wr) (fun _ i _ => 0 - (intOf i).toNat)
             case atStart => exact ⟨0, Nat.zero_le _, rfl, by rw [Cb]; exact hQ2.out, hb2.out, hk2.out⟩
             case round =>
               obtain ⟨j, hj, rfl, hQj, hbj, hkj⟩ := hrel
               by_cases hlt : j < 0
               · first
                 | exact absurd hlt (Nat.not_lt_zero _)
                 | (
                   have hlti : (j : Int) < ((0 : Nat) : Int) := by omega
                   have hBj : B <= wr.heap.size := Nat.le_trans hB hbj.size
                   have hzj : (s2 ++ zerB j).size + (⟨#[48]⟩ : ByteArray).size <= 140737488355328 := by rw [ByteArray.size_append, Az, e48.out]; omega
                   replace hQj := Hd hQj
                   replace hbj := Hd hbj
                   replace hkj := Hd hkj
                   go_wp2_with (at_builtin; refine Ar ⟨#[48]⟩ rfl rfl rfl hQj.out rfl rfl hzj hBj ?_)
                   intro v9 w9 hQ9 hb9 hk9
                   replace hQ9 := Hd hQ9
                   replace hk9 := Hd hk9
                   go_wp2_with fail
                   go_roundw
                   case rel => exact ⟨j + 1, by omega, by go_num, by rw [Ca]; exact hQ9.out, hbj.out.trans hb9, hkj.out.trans hk9.out⟩
                   case measure => simp [intOf] <;> omega
                   )
               · have hjz : 0 = j := by omega
                 subst hjz
                 have hlti : ¬ ((0 : Nat) : Int) < ((0 : Nat) : Int) := by omega
                 go_wp2_with fail
                 go_meet
                 refine ⟨D.extract 0 p ++ zerB 0, hhead'.out.symm, ?_, ?_, hbj, hkj⟩
                 · rw [ByteArray.size_append, ByteArray.size_extract, Az]; omega
                 · rw [hs2.out, ByteArray.append_assoc] at hQj
                   exact hQj
       · obtain ⟨z, hz⟩ : ∃ z : Nat, z = p - n := ⟨_, rfl⟩
         have hmn : (n : Int) <= (p : Int) := by omega
         have hz1 : (p : Int) - (n : Int) = (z : Int) := by omega
         have hzm : z <= 900 := by omega
         have hmL : (n : Int) <= (L : Int) := by omega
         have hhead' := hhead n z (.inr ⟨by omega, rfl, hz⟩)
         replace hhead' := Hd hhead'
         replace hz := Hd hz
         clear hhead
         go_wp2_with fail
         go_loopw [0, 25, 191] (fun u0 u25 i wr => ∃ j : Nat, j <= n /\ i = .int .i64 j /\ RowK B k wr u0 (s1 ++ D.extract 0 j) /\ Below B w wr /\ Kept k w wr) (fun _ _ i _ => n - (intOf i).toNat)
         case atStart => exact ⟨0, Nat.zero_le _, rfl, by rw [Do]; exact hQ1.out, hb01.out, hk01.out⟩
         case round =>
           obtain ⟨j, hj, rfl, hQj, hbj, hkj⟩ := hrel
           by_cases hlt : j < n
           · have hlti : (j : Int) < (n : Int) := by omega
             have hBj : B <= wr.heap.size := Nat.le_trans hB hbj.size
             obtain ⟨c, hce, hcw⟩ := hcell.out j (by omega)
             have hcw := (hkj.cell j).trans hcw
             replace hce := Hd hce
             have hzj : (s1 ++ D.extract 0 j).size + (⟨#[c]⟩ : ByteArray).size <= 140737488355328 := by
               have e1 : (⟨#[c]⟩ : ByteArray).size = 1 := rfl
               rw [ByteArray.size_append, ByteArray.size_extract, e1]; omega
             replace hQj := Hd hQj
             replace hbj := Hd hbj
             replace hkj := Hd hkj
             go_wp2_with (at_builtin; refine Ar ⟨#[c]⟩ rfl rfl rfl hQj.out rfl rfl hzj hBj ?_)
             intro v9 w9 hQ9 hb9 hk9
             replace hQ9 := Hd hQ9
             replace hk9 := Hd hk9
             go_wp2_with fail
             go_roundw
             case rel => exact ⟨j + 1, by omega, by go_num, by rw [ext_succ0 s1 D hce.out]; exact hQ9.out, hbj.out.trans hb9, hkj.out.trans hk9.out⟩
             case measure => simp [intOf] <;> omega
           · have hjm : n = j := by omega
             subst hjm
             have hlti : ¬ (n : Int) < (n : Int) := by omega
             obtain ⟨s2, hs2⟩ : ∃ s2, s2 = s1 ++ D.extract 0 n := ⟨_, rfl⟩
             have hs2n : s2.size <= 1030 := by rw [hs2, ByteArray.size_append, ByteArray.size_extract]; omega
             rw [<- hs2] at hQj
             have hQ2 := Hd hQj
             have hb2 := Hd hbj
             have hk2 := Hd hkj
             replace hs2 := Hd hs2
             clear hQj hbj hkj hQ1 hb01 hk01
             go_wp2_with fail
             go_loopw [0, 203] (fun u0 i wr => ∃ j : Nat, j <= z /\ i = .int .i64 j /\ RowK B k wr u0 (s2 ++ zerB j) /\ Below B w wr /\ Kept k w wr) (fun _ i _ => z - (intOf i).toNat)
             case atStart => exact ⟨0, Nat.zero_le _, rfl, by rw [Cb]; exact hQ2.out, hb2.out, hk2.out⟩
             case round =>
               obtain ⟨j, hj, rfl, hQj, hbj, hkj⟩ := hrel
               by_cases hlt : j < z
               · first
                 | exact absurd hlt (Nat.not_lt_zero _)
                 | (
                   have hlti : (j : Int) < ((z : Nat) : Int) := by omega
                   have hBj : B <= wr.heap.size := Nat.le_trans hB hbj.size
                   have hzj : (s2 ++ zerB j).size + (⟨#[48]⟩ : ByteArray).size <= 140737488355328 := by rw [ByteArray.size_append, Az, e48.out]; omega
                   replace hQj := Hd hQj
                   replace hbj := Hd hbj
                   replace hkj := Hd hkj
                   go_wp2_with (at_builtin; refine Ar ⟨#[48]⟩ rfl rfl rfl hQj.out rfl rfl hzj hBj ?_)
                   intro v9 w9 hQ9 hb9 hk9
                   replace hQ9 := Hd hQ9
                   replace hk9 := Hd hk9
                   go_wp2_with fail
                   go_roundw
                   case rel => exact ⟨j + 1, by omega, by go_num, by rw [Ca]; exact hQ9.out, hbj.out.trans hb9, hkj.out.trans hk9.out⟩
                   case measure => simp [intOf] <;> omega
                   )
               · have hjz : z = j := by omega
                 subst hjz
                 have hlti : ¬ ((z : Nat) : Int) < ((z : Nat) : Int) := by omega
                 go_wp2_with fail
                 go_meet
                 refine ⟨D.extract 0 n ++ zerB z, hhead'.out.symm, ?_, ?_, hbj, hkj⟩
                 · rw [ByteArray.size_append, ByteArray.size_extract, Az]; omega
                 · rw [hs2.out, ByteArray.append_assoc] at hQj
                   exact hQj
     · have hhead : headL D.data.toList dp = [48] := if_neg h0
       have hz : s1.size + (⟨#[48]⟩ : ByteArray).size <= 140737488355328 := by rw [e48.out]; omega
       replace hhead := Hd hhead
       go_wp2_with (at_builtin; refine Ar ⟨#[48]⟩ rfl rfl rfl hQ1.out rfl rfl hz hB1 ?_)
       intro v2 w2 hQ2 hb2 hk2
       replace hQ2 := Hd hQ2
       replace hk2 := Hd hk2
       go_wp2_with fail
       go_meet
       exact ⟨⟨#[48]⟩, hhead.out.symm, by decide, hQ2.out, hb01.out.trans hb2, hk01.out.trans hk2.out⟩
   case rest =>
     rename World => w2
     rename Value => v2
     obtain ⟨T2, hT2, hT2s, hQ2, hb02, hk02⟩ := hcut
     have hB2 : B <= w2.heap.size := Nat.le_trans hB hb02.size
     obtain ⟨s2, hs2⟩ : ∃ s2, s2 = s1 ++ T2 := ⟨_, rfl⟩
     have hs2n : s2.size <= 2005 := by rw [hs2, ByteArray.size_append]; omega
     rw [<- hs2] at hQ2
     clear hQ1 hb01 hk01
     replace hT2 := Hd hT2
     replace hb02 := Hd hb02
     replace hk02 := Hd hk02
     replace hQ2 := Hd hQ2
     replace hs2 := Hd hs2
     go_upto_if 213 with fail
     go_cut [0] from 213 to 266 (fun s0 wx => ∃ T : ByteArray, T.data.toList = Ep D.data.toList dp /\ Row B wx s0 (s2 ++ T) /\ Below B w wx)
     case first =>
       obtain ⟨dp', hdpe⟩ : ∃ x, x = dp := ⟨_, rfl⟩
       by_cases h0 : 0 < prec
       · have hpe := hp0.out h0
         clear hp0 hp1
         by_cases hz0 : dp = 0
         · have hn0 : n ≠ 0 := by omega
           have hsl0 := hsl.out hn0
           subst hsl0
           clear hsl
           subst hz0
           have hpn : prec = (n : Int) := by omega
           subst hpn
           have hL0 : (L : Int) <= 100 := by omega
           clear hpe
           obtain ⟨o, ho⟩ : ∃ o, o = 0 := ⟨_, rfl⟩
           replace ho := Hd ho
           have hz3 : s2.size + (⟨#[46]⟩ : ByteArray).size <= 140737488355328 := by rw [e46.out]; omega
           have htail : Ep D.data.toList dp' = 46 :: (List.replicate 0 48 ++ D.data.toList.drop o) := by
             unfold Ep
             rw [if_pos (by rw [hlenD.out]; omega)]
             have hO := ho.out
             congr 3
             all_goals omega
           replace htail := Hd htail
           replace hdpe := Hd hdpe
           go_wp2_with (at_builtin; refine Ar ⟨#[46]⟩ rfl rfl rfl hQ2.out rfl rfl hz3 hB2 ?_)
           intro v3 w3 hQ3 hb3 hk3
           have hb03 := hb02.out.trans hb3
           have hk03 := hk02.out.trans hk3
           obtain ⟨s3, hs3⟩ : ∃ s3, s3 = s2 ++ (⟨#[46]⟩ : ByteArray) := ⟨_, rfl⟩
           have hs3n : s3.size <= 2010 := by rw [hs3, ByteArray.size_append, e46.out]; omega
           rw [<- hs3] at hQ3
           clear hQ2 hb02 hk02 hb3 hk3
           replace hs3 := Hd hs3
           replace hQ3 := Hd hQ3
           replace hb03 := Hd hb03
           replace hk03 := Hd hk03
           go_wp2_with fail
           go_loopw [0, 240] (fun u0 i wr => ∃ j : Nat, j <= 0 /\ i = .int .i64 j /\ RowK B k wr u0 (s3 ++ zerB j) /\ Below B w wr /\ Kept k w wr) (fun _ i _ => 0 - (intOf i).toNat)
           case atStart => exact ⟨0, Nat.zero_le _, rfl, by rw [Cb]; exact hQ3.out, hb03.out, hk03.out⟩
           case round =>
             obtain ⟨j, hj, rfl, hQj, hbj, hkj⟩ := hrel
             by_cases hlt : j < 0
             · first
               | exact absurd hlt (Nat.not_lt_zero _)
               | (
                 have hlti : (j : Int) < ((0 : Nat) : Int) := by omega
                 have hBj : B <= wr.heap.size := Nat.le_trans hB hbj.size
                 have hzj : (s3 ++ zerB j).size + (⟨#[48]⟩ : ByteArray).size <= 140737488355328 := by rw [ByteArray.size_append, Az, e48.out]; omega
                 replace hQj := Hd hQj
                 replace hbj := Hd hbj
                 replace hkj := Hd hkj
                 go_wp2_with (at_builtin; refine Ar ⟨#[48]⟩ rfl rfl rfl hQj.out rfl rfl hzj hBj ?_)
                 intro v9 w9 hQ9 hb9 hk9
                 replace hQ9 := Hd hQ9
                 replace hk9 := Hd hk9
                 go_wp2_with fail
                 go_roundw
                 case rel => exact ⟨j + 1, by omega, by go_num, by rw [Ca]; exact hQ9.out, hbj.out.trans hb9, hkj.out.trans hk9.out⟩
                 case measure => simp [intOf] <;> omega
                 )
             · have hjz : 0 = j := by omega
               subst hjz
               have hlti : ¬ ((0 : Nat) : Int) < ((0 : Nat) : Int) := by omega
               obtain ⟨s4, hs4⟩ : ∃ s4, s4 = s3 ++ zerB 0 := ⟨_, rfl⟩
               have hs4n : s4.size <= 3000 := by rw [hs4, ByteArray.size_append, Az]; omega
               rw [<- hs4] at hQj
               have hQ4 := Hd hQj
               have hb4 := Hd hbj
               have hk4 := Hd hkj
               replace hs4 := Hd hs4
               clear hQj hbj hkj hQ3 hb03 hk03
               go_wp2_with fail
               go_loopw [0, 30, 247] (fun u0 u30 i wr => ∃ j : Nat, j <= n /\ i = .int .i64 j /\ RowK B k wr u0 (s4 ++ D.extract o (o + j)) /\ Below B w wr /\ Kept k w wr) (fun _ _ i _ => n - (intOf i).toNat)
               case atStart => exact ⟨0, Nat.zero_le _, rfl, by rw [Nat.add_zero, Do]; exact hQ4.out, hb4.out, hk4.out⟩
               case round =>
                 obtain ⟨j, hj, rfl, hQj, hbj, hkj⟩ := hrel
                 by_cases hlt : j < n
                 · have hlti : (j : Int) < (n : Int) := by omega
                   have hBj : B <= wr.heap.size := Nat.le_trans hB hbj.size
                   obtain ⟨i, hie⟩ : ∃ i, i = o + j := ⟨_, rfl⟩
                   have hij : (j : Int) = (i : Int) := by have hO := ho.out; omega
                   have hiL : (i : Int) < (L : Int) := by have hO := ho.out; omega
                   obtain ⟨c, hce, hcw⟩ := hcell.out i (by have hO := ho.out; omega)
                   have hcw := (hkj.cell i).trans hcw
                   have hzj : (s4 ++ D.extract o (o + j)).size + (⟨#[c]⟩ : ByteArray).size <= 140737488355328 := by
                     have e1 : (⟨#[c]⟩ : ByteArray).size = 1 := rfl
                     rw [ByteArray.size_append, ByteArray.size_extract, e1]; omega
                   rw [hie] at hce
                   replace hce := Hd hce
                   replace hie := Hd hie
                   replace hQj := Hd hQj
                   replace hbj := Hd hbj
                   replace hkj := Hd hkj
                   go_wp2_with (at_builtin; refine Ar ⟨#[c]⟩ rfl rfl rfl hQj.out rfl rfl hzj hBj ?_)
                   intro v9 w9 hQ9 hb9 hk9
                   replace hQ9 := Hd hQ9
                   replace hk9 := Hd hk9
                   go_wp2_with fail
                   go_roundw
                   case rel => exact ⟨j + 1, by omega, by go_num, by rw [En s4 D hce.out]; exact hQ9.out, hbj.out.trans hb9, hkj.out.trans hk9.out⟩
                   case measure => simp [intOf] <;> omega
                 · have hjm : n = j := by omega
                   subst hjm
                   have hlti : ¬ (n : Int) < (n : Int) := by omega
                   have hQ5 := Hd hQj
                   have hb5 := Hd hbj
                   clear hQj hbj hkj
                   go_wp2_with fail
                   go_loopw [0, 261] (fun u0 i wr => i = .int .i64 0 /\ RowK B k wr u0 (s4 ++ D.extract o (o + n)) /\ Below B w wr) (fun _ _ _ => 0)
                   case atStart => exact ⟨rfl, hQ5.out, hb5.out⟩
                   case round =>
                     obtain ⟨rfl, hQj, hbj⟩ := hrel
                     go_wp2_with fail
                     go_meet
                     refine ⟨(⟨#[46]⟩ : ByteArray) ++ zerB 0 ++ D.extract o (o + n), ?_, ?_, hbj⟩
                     · rw [<- hdpe.out, htail.out, ByteArray.data_append, ByteArray.data_append, Array.toList_append, Array.toList_append, Cs, Dr, List.take_of_length_le (by have hO := ho.out; rw [List.length_drop, hlenD.out]; omega)]
                       simp
                     · rw [hs4.out, hs3.out] at hQj
                       simp only [ByteArray.append_assoc] at hQj ⊢
                       exact hQj.row
         · have hn0 := hdp.out hz0
           have hsl0 := hsl.out hn0
           subst hsl0
           clear hsl
           have hL0 : (L : Int) <= 100 := by omega
           by_cases hneg : dp < 0
           · obtain ⟨z, hz⟩ : ∃ z : Nat, dp = -(z : Int) := ⟨(-dp).toNat, by omega⟩
             subst hz
             have hzp : (0 : Int) < (z : Int) := by omega
             have hlz : (z : Int) < prec := by omega
             have hpz : prec - (z : Int) = (n : Int) := by omega
             have hnp : (0 : Int) < (n : Int) := by omega
             have hz9 : z <= 900 := by omega
             replace hpe := Hd hpe
             have hzz : -(z : Int) + (z : Int) = 0 := by omega
             obtain ⟨o, ho⟩ : ∃ o, o = 0 := ⟨_, rfl⟩
             replace ho := Hd ho
             have hz3 : s2.size + (⟨#[46]⟩ : ByteArray).size <= 140737488355328 := by rw [e46.out]; omega
             have htail : Ep D.data.toList dp' = 46 :: (List.replicate z 48 ++ D.data.toList.drop o) := by
               unfold Ep
               rw [if_pos (by rw [hlenD.out]; omega)]
               have hO := ho.out
               congr 3
               all_goals omega
             replace htail := Hd htail
             replace hdpe := Hd hdpe
             go_wp2_with (at_builtin; refine Ar ⟨#[46]⟩ rfl rfl rfl hQ2.out rfl rfl hz3 hB2 ?_)
             intro v3 w3 hQ3 hb3 hk3
             have hb03 := hb02.out.trans hb3
             have hk03 := hk02.out.trans hk3
             obtain ⟨s3, hs3⟩ : ∃ s3, s3 = s2 ++ (⟨#[46]⟩ : ByteArray) := ⟨_, rfl⟩
             have hs3n : s3.size <= 2010 := by rw [hs3, ByteArray.size_append, e46.out]; omega
             rw [<- hs3] at hQ3
             clear hQ2 hb02 hk02 hb3 hk3
             replace hs3 := Hd hs3
             replace hQ3 := Hd hQ3
             replace hb03 := Hd hb03
             replace hk03 := Hd hk03
             go_wp2_with fail
             go_loopw [0, 240] (fun u0 i wr => ∃ j : Nat, j <= z /\ i = .int .i64 j /\ RowK B k wr u0 (s3 ++ zerB j) /\ Below B w wr /\ Kept k w wr) (fun _ i _ => z - (intOf i).toNat)
             case atStart => exact ⟨0, Nat.zero_le _, rfl, by rw [Cb]; exact hQ3.out, hb03.out, hk03.out⟩
             case round =>
               obtain ⟨j, hj, rfl, hQj, hbj, hkj⟩ := hrel
               by_cases hlt : j < z
               · first
                 | exact absurd hlt (Nat.not_lt_zero _)
                 | (
                   have hlti : (j : Int) < ((z : Nat) : Int) := by omega
                   have hBj : B <= wr.heap.size := Nat.le_trans hB hbj.size
                   have hzj : (s3 ++ zerB j).size + (⟨#[48]⟩ : ByteArray).size <= 140737488355328 := by rw [ByteArray.size_append, Az, e48.out]; omega
                   replace hQj := Hd hQj
                   replace hbj := Hd hbj
                   replace hkj := Hd hkj
                   go_wp2_with (at_builtin; refine Ar ⟨#[48]⟩ rfl rfl rfl hQj.out rfl rfl hzj hBj ?_)
                   intro v9 w9 hQ9 hb9 hk9
                   replace hQ9 := Hd hQ9
                   replace hk9 := Hd hk9
                   go_wp2_with fail
                   go_roundw
                   case rel => exact ⟨j + 1, by omega, by go_num, by rw [Ca]; exact hQ9.out, hbj.out.trans hb9, hkj.out.trans hk9.out⟩
                   case measure => simp [intOf] <;> omega
                   )
               · have hjz : z = j := by omega
                 subst hjz
                 have hlti : ¬ ((z : Nat) : Int) < ((z : Nat) : Int) := by omega
                 obtain ⟨s4, hs4⟩ : ∃ s4, s4 = s3 ++ zerB z := ⟨_, rfl⟩
                 have hs4n : s4.size <= 3000 := by rw [hs4, ByteArray.size_append, Az]; omega
                 rw [<- hs4] at hQj
                 have hQ4 := Hd hQj
                 have hb4 := Hd hbj
                 have hk4 := Hd hkj
                 replace hs4 := Hd hs4
                 clear hQj hbj hkj hQ3 hb03 hk03
                 go_wp2_with fail
                 go_loopw [0, 30, 247] (fun u0 u30 i wr => ∃ j : Nat, j <= n /\ i = .int .i64 j /\ RowK B k wr u0 (s4 ++ D.extract o (o + j)) /\ Below B w wr /\ Kept k w wr) (fun _ _ i _ => n - (intOf i).toNat)
                 case atStart => exact ⟨0, Nat.zero_le _, rfl, by rw [Nat.add_zero, Do]; exact hQ4.out, hb4.out, hk4.out⟩
                 case round =>
                   obtain ⟨j, hj, rfl, hQj, hbj, hkj⟩ := hrel
                   by_cases hlt : j < n
                   · have hlti : (j : Int) < (n : Int) := by omega
                     have hBj : B <= wr.heap.size := Nat.le_trans hB hbj.size
                     obtain ⟨i, hie⟩ : ∃ i, i = o + j := ⟨_, rfl⟩
                     have hij : (j : Int) = (i : Int) := by have hO := ho.out; omega
                     have hiL : (i : Int) < (L : Int) := by have hO := ho.out; omega
                     obtain ⟨c, hce, hcw⟩ := hcell.out i (by have hO := ho.out; omega)
                     have hcw := (hkj.cell i).trans hcw
                     have hzj : (s4 ++ D.extract o (o + j)).size + (⟨#[c]⟩ : ByteArray).size <= 140737488355328 := by
                       have e1 : (⟨#[c]⟩ : ByteArray).size = 1 := rfl
                       rw [ByteArray.size_append, ByteArray.size_extract, e1]; omega
                     rw [hie] at hce
                     replace hce := Hd hce
                     replace hie := Hd hie
                     replace hQj := Hd hQj
                     replace hbj := Hd hbj
                     replace hkj := Hd hkj
                     go_wp2_with (at_builtin; refine Ar ⟨#[c]⟩ rfl rfl rfl hQj.out rfl rfl hzj hBj ?_)
                     intro v9 w9 hQ9 hb9 hk9
                     replace hQ9 := Hd hQ9
                     replace hk9 := Hd hk9
                     go_wp2_with fail
                     go_roundw
                     case rel => exact ⟨j + 1, by omega, by go_num, by rw [En s4 D hce.out]; exact hQ9.out, hbj.out.trans hb9, hkj.out.trans hk9.out⟩
                     case measure => simp [intOf] <;> omega
                   · have hjm : n = j := by omega
                     subst hjm
                     have hlti : ¬ (n : Int) < (n : Int) := by omega
                     have hQ5 := Hd hQj
                     have hb5 := Hd hbj
                     clear hQj hbj hkj
                     go_wp2_with fail
                     go_loopw [0, 261] (fun u0 i wr => i = .int .i64 0 /\ RowK B k wr u0 (s4 ++ D.extract o (o + n)) /\ Below B w wr) (fun _ _ _ => 0)
                     case atStart => exact ⟨rfl, hQ5.out, hb5.out⟩
                     case round =>
                       obtain ⟨rfl, hQj, hbj⟩ := hrel
                       go_wp2_with fail
                       go_meet
                       refine ⟨(⟨#[46]⟩ : ByteArray) ++ zerB z ++ D.extract o (o + n), ?_, ?_, hbj⟩
                       · rw [<- hdpe.out, htail.out, ByteArray.data_append, ByteArray.data_append, Array.toList_append, Array.toList_append, Cs, Dr, List.take_of_length_le (by have hO := ho.out; rw [List.length_drop, hlenD.out]; omega)]
                         simp
                       · rw [hs4.out, hs3.out] at hQj
                         simp only [ByteArray.append_assoc] at hQj ⊢
                         exact hQj.row
           · obtain ⟨p, hp⟩ : ∃ p : Nat, dp = (p : Int) := ⟨dp.toNat, by omega⟩
             subst hp
             have hpp : (0 : Int) < (p : Int) := by omega
             have hpp2 : ¬ (0 : Int) < -(p : Int) := by omega
             obtain ⟨q, hq⟩ : ∃ q : Nat, prec = (q : Int) := ⟨prec.toNat, by omega⟩
             subst hq
             have hqe : (n : Int) - (p : Int) = (q : Int) := by omega
             clear hpe
             have ho := Hd (rfl : p = p)
             have hz3 : s2.size + (⟨#[46]⟩ : ByteArray).size <= 140737488355328 := by rw [e46.out]; omega
             have htail : Ep D.data.toList dp' = 46 :: (List.replicate 0 48 ++ D.data.toList.drop p) := by
               unfold Ep
               rw [if_pos (by rw [hlenD.out]; omega)]
               have hO := ho.out
               congr 3
               all_goals omega
             replace htail := Hd htail
             replace hdpe := Hd hdpe
             go_wp2_with (at_builtin; refine Ar ⟨#[46]⟩ rfl rfl rfl hQ2.out rfl rfl hz3 hB2 ?_)
             intro v3 w3 hQ3 hb3 hk3
             have hb03 := hb02.out.trans hb3
             have hk03 := hk02.out.trans hk3
             obtain ⟨s3, hs3⟩ : ∃ s3, s3 = s2 ++ (⟨#[46]⟩ : ByteArray) := ⟨_, rfl⟩
             have hs3n : s3.size <= 2010 := by rw [hs3, ByteArray.size_append, e46.out]; omega
             rw [<- hs3] at hQ3
             clear hQ2 hb02 hk02 hb3 hk3
             replace hs3 := Hd hs3
             replace hQ3 := Hd hQ3
             replace hb03 := Hd hb03
             replace hk03 := Hd hk03
             go_wp2_with fail
             go_loopw [0, 240] (fun u0 i wr => ∃ j : Nat, j <= 0 /\ i = .int .i64 j /\ RowK B k wr u0 (s3 ++ zerB j) /\ Below B w wr /\ Kept k w wr) (fun _ i _ => 0 - (intOf i).toNat)
             case atStart => exact ⟨0, Nat.zero_le _, rfl, by rw [Cb]; exact hQ3.out, hb03.out, hk03.out⟩
             case round =>
               obtain ⟨j, hj, rfl, hQj, hbj, hkj⟩ := hrel
               by_cases hlt : j < 0
               · first
                 | exact absurd hlt (Nat.not_lt_zero _)
                 | (
                   have hlti : (j : Int) < ((0 : Nat) : Int) := by omega
                   have hBj : B <= wr.heap.size := Nat.le_trans hB hbj.size
                   have hzj : (s3 ++ zerB j).size + (⟨#[48]⟩ : ByteArray).size <= 140737488355328 := by rw [ByteArray.size_append, Az, e48.out]; omega
                   replace hQj := Hd hQj
                   replace hbj := Hd hbj
                   replace hkj := Hd hkj
                   go_wp2_with (at_builtin; refine Ar ⟨#[48]⟩ rfl rfl rfl hQj.out rfl rfl hzj hBj ?_)
                   intro v9 w9 hQ9 hb9 hk9
                   replace hQ9 := Hd hQ9
                   replace hk9 := Hd hk9
                   go_wp2_with fail
                   go_roundw
                   case rel => exact ⟨j + 1, by omega, by go_num, by rw [Ca]; exact hQ9.out, hbj.out.trans hb9, hkj.out.trans hk9.out⟩
                   case measure => simp [intOf] <;> omega
                   )
               · have hjz : 0 = j := by omega
                 subst hjz
                 have hlti : ¬ ((0 : Nat) : Int) < ((0 : Nat) : Int) := by omega
                 obtain ⟨s4, hs4⟩ : ∃ s4, s4 = s3 ++ zerB 0 := ⟨_, rfl⟩
                 have hs4n : s4.size <= 3000 := by rw [hs4, ByteArray.size_append, Az]; omega
                 rw [<- hs4] at hQj
                 have hQ4 := Hd hQj
                 have hb4 := Hd hbj
                 have hk4 := Hd hkj
                 replace hs4 := Hd hs4
                 clear hQj hbj hkj hQ3 hb03 hk03
                 go_wp2_with fail
                 go_loopw [0, 30, 247] (fun u0 u30 i wr => ∃ j : Nat, j <= q /\ i = .int .i64 j /\ RowK B k wr u0 (s4 ++ D.extract p (p + j)) /\ Below B w wr /\ Kept k w wr) (fun _ _ i _ => q - (intOf i).toNat)
                 case atStart => exact ⟨0, Nat.zero_le _, rfl, by rw [Nat.add_zero, Do]; exact hQ4.out, hb4.out, hk4.out⟩
                 case round =>
                   obtain ⟨j, hj, rfl, hQj, hbj, hkj⟩ := hrel
                   by_cases hlt : j < q
                   · have hlti : (j : Int) < (q : Int) := by omega
                     have hBj : B <= wr.heap.size := Nat.le_trans hB hbj.size
                     obtain ⟨i, hie⟩ : ∃ i, i = p + j := ⟨_, rfl⟩
                     have hij : (p : Int) + (j : Int) = (i : Int) := by have hO := ho.out; omega
                     have hiL : (i : Int) < (L : Int) := by have hO := ho.out; omega
                     obtain ⟨c, hce, hcw⟩ := hcell.out i (by have hO := ho.out; omega)
                     have hcw := (hkj.cell i).trans hcw
                     have hzj : (s4 ++ D.extract p (p + j)).size + (⟨#[c]⟩ : ByteArray).size <= 140737488355328 := by
                       have e1 : (⟨#[c]⟩ : ByteArray).size = 1 := rfl
                       rw [ByteArray.size_append, ByteArray.size_extract, e1]; omega
                     rw [hie] at hce
                     replace hce := Hd hce
                     replace hie := Hd hie
                     replace hQj := Hd hQj
                     replace hbj := Hd hbj
                     replace hkj := Hd hkj
                     go_wp2_with (at_builtin; refine Ar ⟨#[c]⟩ rfl rfl rfl hQj.out rfl rfl hzj hBj ?_)
                     intro v9 w9 hQ9 hb9 hk9
                     replace hQ9 := Hd hQ9
                     replace hk9 := Hd hk9
                     go_wp2_with fail
                     go_roundw
                     case rel => exact ⟨j + 1, by omega, by go_num, by rw [En s4 D hce.out]; exact hQ9.out, hbj.out.trans hb9, hkj.out.trans hk9.out⟩
                     case measure => simp [intOf] <;> omega
                   · have hjm : q = j := by omega
                     subst hjm
                     have hlti : ¬ (q : Int) < (q : Int) := by omega
                     have hQ5 := Hd hQj
                     have hb5 := Hd hbj
                     clear hQj hbj hkj
                     go_wp2_with fail
                     go_loopw [0, 261] (fun u0 i wr => i = .int .i64 0 /\ RowK B k wr u0 (s4 ++ D.extract p (p + q)) /\ Below B w wr) (fun _ _ _ => 0)
                     case atStart => exact ⟨rfl, hQ5.out, hb5.out⟩
                     case round =>
                       obtain ⟨rfl, hQj, hbj⟩ := hrel
                       go_wp2_with fail
                       go_meet
                       refine ⟨(⟨#[46]⟩ : ByteArray) ++ zerB 0 ++ D.extract p (p + q), ?_, ?_, hbj⟩
                       · rw [<- hdpe.out, htail.out, ByteArray.data_append, ByteArray.data_append, Array.toList_append, Array.toList_append, Cs, Dr, List.take_of_length_le (by have hO := ho.out; rw [List.length_drop, hlenD.out]; omega)]
                         simp
                       · rw [hs4.out, hs3.out] at hQj
                         simp only [ByteArray.append_assoc] at hQj ⊢
                         exact hQj.row
       · have hpe := hp1.out (by omega)
         have htail : Ep D.data.toList dp = [] := if_neg (by rw [hlenD.out]; omega)
         replace htail := Hd htail
         go_wp2_with fail
         go_meet
         exact ⟨⟨#[]⟩, htail.out.symm, by rw [Aq]; exact hQ2.out.row, hb02.out⟩
     case rest =>
       rename World => w5
       rename Value => v5
       obtain ⟨T3, hT3, hQ5, hb05⟩ := hcut
       replace hQ5 := Hd hQ5
       replace hb05 := Hd hb05
       replace hT3 := Hd hT3
       go_wp2_with fail
       go_ret
       refine ⟨_, T1 ++ T2 ++ T3, rfl, ?_, ?_, hb05.out⟩
       · rw [effF_parts, <- hT1.out, <- hT2.out, <- hT3.out, ByteArray.data_append, ByteArray.data_append, Array.toList_append, Array.toList_append]
       · have := hQ5.out
         rw [hs2.out, hs1.out] at this
         simp only [ByteArray.append_assoc] at this ⊢
         exact this
end Go.Proofs.YtagkgfniihiinaaGreatDoor
