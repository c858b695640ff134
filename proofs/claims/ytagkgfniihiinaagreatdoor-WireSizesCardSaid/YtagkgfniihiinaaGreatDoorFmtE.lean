/- internal/strconv.fmtEFG, 'e': sign, digits, noughts behind, exponent. -/
import Derived.Test.YtagkgfniihiinaaGreatDoorJ24
import Derived.Deep.DeepCutAuto
import Derived.Deep.LoopGhost
import Derived.Deep.CutBlock
namespace Go.Proofs.YtagkgfniihiinaaGreatDoor
open Go.RowKit
theorem Bp {n : Nat} (h : n < 10) : (dg8 n).toNat = 48 + n := by unfold dg8; rw [UInt8.toNat_ofNat']; omega
theorem expL_at {x : Int} {y : Nat} {sg : UInt8} {l : List UInt8} (hx : x.natAbs = y) (hs : sg = if x < 0 then 45 else 43)
   (hl : l = (if y < 10 then [48, dg8 y] else if y < 100 then [dg8 (y / 10), dg8 (y % 10)] else [dg8 (y / 100), dg8 (y / 10 % 10), dg8 (y % 10)])) : sg :: l = expL x := by
 unfold expL
 rw [hx, hs, hl]
theorem repl_snoc (n : Nat) (c : UInt8) : (⟨(List.replicate n c).toArray⟩ : ByteArray) ++ (⟨#[c]⟩ : ByteArray) = ⟨(List.replicate (n + 1) c).toArray⟩ := by
 apply ByteArray.ext
 rw [ByteArray.data_append]
 apply Array.toList_inj.1
 simp [List.replicate_succ']
def zerB (n : Nat) : ByteArray := ⟨(List.replicate n (48 : UInt8)).toArray⟩
theorem Az (n : Nat) : (zerB n).size = n := by show (List.replicate n (48 : UInt8)).toArray.size = n; simp
theorem Cb (s : ByteArray) : s ++ zerB 0 = s := Aq s
theorem Ca (s : ByteArray) (n : Nat) : s ++ zerB (n + 1) = s ++ zerB n ++ (⟨#[48]⟩ : ByteArray) := by
 rw [ByteArray.append_assoc]; congr 1; exact (repl_snoc n 48).symm
theorem Cs (n : Nat) : (zerB n).data.toList = List.replicate n 48 := by simp [zerB]
set_option maxRecDepth 100000 in
set_option maxHeartbeats 6400000 in
theorem fmtE_any {B k L : Nat} {w : World} {v sl : Value} {s D : ByteArray} {dp prec : Int} {neg sh : Bool} (hR : RowK B k w v s) (hs : s.size <= 1000) (hD2 : D.size <= 20) (d0 : -900 <= dp) (d1 : dp <= 900) (p0 : -1 <= prec) (p1 : prec <= 30)
   (hp : (D.size : Int) <= prec + 1) (hL : D.size <= L) (hL2 : L <= 100) (hB : B <= w.heap.size) (hsl : D.size ≠ 0 -> sl = .slice (some ⟨k, 0, none⟩) L L)
   (hc : ∀ j (h : j < D.size), w.cell? ⟨k, j, none⟩ = some (.int .u8 ((D.data[j]'h).toNat : Int))) :
   Calls Tryz.prog 140 #[v, .bool neg, sl, .int .i64 dp, .int .i64 (D.size : Int), .int .i64 prec, .int .u8 101, .bool sh] w fun e w' => ∃ v' t, e = .returned v' /\ t.data.toList = effP neg D.data.toList dp prec.toNat /\ Row B w' v' (s ++ t) /\ Below B w w' := by
 obtain ⟨n, hn⟩ : ∃ n, n = D.size := ⟨_, rfl⟩
 rw [<- hn] at hD2 hp hL hsl ⊢
 replace hc := Hd hc
 replace hn := Hd hn
 replace hsl := Hd hsl
 replace hR := Hd hR
 have e45 : (⟨#[45]⟩ : ByteArray).size = 1 := rfl
 have e46 : (⟨#[46]⟩ : ByteArray).size = 1 := rfl
 have e48 : (⟨#[48]⟩ : ByteArray).size = 1 := rfl
 have e101 : (⟨#[101]⟩ : ByteArray).size = 1 := rfl
 replace e45 := Hd e45
 replace e46 := Hd e46
 replace e48 := Hd e48
 replace e101 := Hd e101
 go_enter Tryz.func140, Tryz.ntmps140
 go_upto_if 78 with fail
 go_cut [0] from 80 to 81 (fun s0 wx => ∃ T : ByteArray, T.data.toList = A4 neg /\ T.size <= 1 /\ RowK B k wx s0 (s ++ T) /\ Below B w wx /\ Kept k w wx)
 case first =>
   cases neg
   · go_wp2_with fail
     go_meet
     exact ⟨⟨#[]⟩, rfl, by decide, by rw [Aq]; exact hR.out, Below.refl _ _, Kept.refl _ _⟩
   · have hz : s.size + (⟨#[45]⟩ : ByteArray).size <= 140737488355328 := by rw [e45.out]; omega
     go_wp2_with (at_builtin; refine Ar ⟨#[45]⟩ rfl rfl rfl hR.out rfl rfl hz hB ?_)
     intro v1 w1 hQ1 hb1 hk1
     replace hQ1 := Hd hQ1
     go_wp2_with fail
     go_meet
     exact ⟨⟨#[45]⟩, rfl, by decide, hQ1.out, hb1, hk1⟩
 case rest =>
   rename World => w1
   rename Value => v1
   obtain ⟨T1, hT1, hT1s, hQ1, hb01, hk01⟩ := hcut
   have hB1 : B <= w1.heap.size := Nat.le_trans hB hb01.size
   obtain ⟨ch, hch, hcn⟩ : ∃ ch : UInt8, ch = D.data.toList.headD 48 /\ (n ≠ 0 -> w1.cell? ⟨k, 0, none⟩ = some (.int .u8 (ch.toNat : Int))) := by
     refine ⟨_, rfl, fun h => ?_⟩
     rw [hk01.cell, hc.out 0 (by have := hn.out; omega)]
     have : 0 < D.data.toList.length := by rw [Array.length_toList]; show 0 < D.size; have := hn.out; omega
     cases h2 : D.data.toList with
     | nil => rw [h2] at this; simp at this
     | cons a m =>
       have h3 : D.data[0]'(by have := hn.out; show 0 < D.size; omega) = D.data.toList[0]'this := (Array.getElem_toList _).symm
       rw [h3]
       simp [h2]
   replace hch := Hd hch
   replace hT1 := Hd hT1
   replace hb01 := Hd hb01
   replace hk01 := Hd hk01
   replace hcn := Hd hcn
   obtain ⟨s1, hs1⟩ : ∃ s1, s1 = s ++ T1 := ⟨_, rfl⟩
   have hs1n : s1.size <= 1001 := by rw [hs1, ByteArray.size_append]; omega
   rw [<- hs1] at hQ1
   replace hQ1 := Hd hQ1
   replace hs1 := Hd hs1
   clear hR
   go_upto_if 83 with fail
   go_cut [19] from 83 to 86 (fun s19 wx => s19 = .int .u8 (ch.toNat : Int) /\ wx = w1)
   case first =>
     by_cases h0 : n = 0
     · have hcz : ch = 48 := by
         have h1 := hch.out
         have h2 : D.data.toList = [] := List.length_eq_zero_iff.1 (by rw [Array.length_toList]; show D.size = 0; have := hn.out; omega)
         rw [h2] at h1; exact h1
       subst hcz
       subst h0
       go_wp2_with fail
       go_meet
       exact ⟨rfl, rfl⟩
     · have hc0 := hcn.out h0
       have hsl0 := hsl.out h0
       subst hsl0
       have hnz : ((n : Int) != 0) = true := by simp; omega
       have hLp : (0 : Int) < (L : Int) := by omega
       go_wp2_with fail
       go_meet
       exact ⟨rfl, rfl⟩
   case rest =>
     obtain ⟨rfl, rfl⟩ := hcut
     have hz2 : s1.size + (⟨#[ch]⟩ : ByteArray).size <= 140737488355328 := by have : (⟨#[ch]⟩ : ByteArray).size = 1 := rfl; omega
     go_wp2_with (at_builtin; refine Ar ⟨#[ch]⟩ rfl rfl rfl hQ1.out rfl rfl hz2 hB1 ?_)
     intro v2 w2 hQ2 hb2 hk2
     have hB2 : B <= w2.heap.size := Nat.le_trans hB1 hb2.size
     have hb02 := hb01.out.trans hb2
     have hk02 := hk01.out.trans hk2
     obtain ⟨s2, hs2⟩ : ∃ s2, s2 = s1 ++ (⟨#[ch]⟩ : ByteArray) := ⟨_, rfl⟩
     have hs2n : s2.size <= 1002 := by have : (⟨#[ch]⟩ : ByteArray).size = 1 := rfl; rw [hs2, ByteArray.size_append]; omega
     rw [<- hs2] at hQ2
     clear hQ1 hb2 hk2 hz2 hb01 hk01
     replace hQ2 := Hd hQ2
     replace hb02 := Hd hb02
     replace hk02 := Hd hk02
     replace hs2 := Hd hs2
     go_upto_if 92 with fail
     go_cut [0] from 92 to 119 (fun s0 wx => ∃ T : ByteArray, T.data.toList = midL D.data.toList prec.toNat /\ T.size <= 60 /\ RowK B k wx s0 (s2 ++ T) /\ Below B w wx)
     case first =>
       by_cases hp0 : 0 < prec
       · have hpn : 0 < prec.toNat := by omega
         have hz3 : s2.size + (⟨#[46]⟩ : ByteArray).size <= 140737488355328 := by rw [e46.out]; omega
         go_wp2_with (at_builtin; refine Ar ⟨#[46]⟩ rfl rfl rfl hQ2.out rfl rfl hz3 hB2 ?_)
         intro v3 w3 hQ3 hb3 hk3
         have hB3 : B <= w3.heap.size := Nat.le_trans hB2 hb3.size
         have hb03 := hb02.out.trans hb3
         have hk03 := hk02.out.trans hk3
         obtain ⟨s3, hs3⟩ : ∃ s3, s3 = s2 ++ (⟨#[46]⟩ : ByteArray) := ⟨_, rfl⟩
         have hs3n : s3.size <= 1003 := by rw [hs3, ByteArray.size_append, e46.out]; omega
         rw [<- hs3] at hQ3
         clear hQ2 hb02 hk02 hb3 hk3 hz3
         replace hs3 := Hd hs3
         have hlenD : D.data.toList.length = n := by rw [Array.length_toList]; exact hn.out.symm
         by_cases h2 : 2 <= n
         · obtain ⟨z, hz⟩ : ∃ z : Nat, prec + 1 - (n : Int) = (z : Int) := ⟨(prec + 1 - n).toNat, by omega⟩
           have hzn : z <= 30 := by omega
           have hmin2 : min (n : Int) (prec + 1) = (n : Int) := by omega
           have h1n : (1 : Int) < (n : Int) := by omega
           have hnL : (n : Int) <= (L : Int) := by omega
           have hL0 : (L : Int) <= 100 := by omega
           have hsl0 := hsl.out (by omega)
           subst hsl0
           obtain ⟨T4, hT⟩ : ∃ T4, T4 = D.extract 1 D.size := ⟨_, rfl⟩
           have hTn : T4.size = n - 1 := by rw [hT, ByteArray.size_extract, hn.out]; omega
           have hcT : ∀ j (h : j < T4.size), w3.cell? ⟨k, 1 + j, none⟩ = some (.int .u8 ((T4.data[j]'h).toNat : Int)) := fun j h => by
             rw [hk03.cell, hc.out (1 + j) (by have := hn.out; omega)]
             congr 4
             subst hT
             show D.data[1 + j]'_ = (D.extract 1 D.size).data[j]'_
             simp [ByteArray.data_extract]
           have hD0 : D.data.toList.tail = T4.data.toList := by
             rw [hT, ByteArray.data_extract, Array.toList_extract, List.extract_eq_take_drop, <- List.drop_one]
             exact (List.take_of_length_le (by rw [List.length_drop, hlenD, hn.out]; omega)).symm
           have hzj : prec.toNat - (D.data.toList.length - 1) = z := by rw [hlenD]; omega
           replace hcT := Hd hcT
           replace hQ3 := Hd hQ3
           replace hT := Hd hT
           replace hTn := Hd hTn
           replace hD0 := Hd hD0
           replace hzj := Hd hzj
           replace hlenD := Hd hlenD
           have hz5 : s3.size + T4.size <= 140737488355328 := by rw [hTn.out]; omega
           go_wp2_with (at_builtin; refine Fw (t := T4) (off := 1) (cx := L - 1) rfl rfl rfl hQ3.out (by rw [hTn.out]; rfl) hcT.out hz5 hB3 ?_)
           intro v4 w4 hQ4 hb4 hk4
           have hb04 := hb03.trans hb4
           obtain ⟨s4, hs4⟩ : ∃ s4, s4 = s3 ++ T4 := ⟨_, rfl⟩
           have hs4n : s4.size <= 1030 := by rw [hs4, ByteArray.size_append, hTn.out]; omega
           have hT4n : T4.size <= 20 := by rw [hTn.out]; omega
           rw [<- hs4] at hQ4
           clear hb4 hk4 hk03 hcT hz5 hmin2 h1n
           clear hQ3 hb03
           replace hb04 := Hd hb04
           replace hQ4 := Hd hQ4
           replace hs4 := Hd hs4
           go_wp2_with fail
           go_loopw [0, 114] (fun u0 i wr => ∃ j : Nat, j <= z /\ i = .int .i64 j /\ RowK B k wr u0 (s4 ++ zerB j) /\ Below B w wr) (fun _ i _ => z - (intOf i).toNat)
           case atStart => exact ⟨0, Nat.zero_le _, rfl, by rw [Cb]; exact hQ4.out, hb04.out⟩
           case round =>
             obtain ⟨j, hj, rfl, hQj, hbj⟩ := hrel
             by_cases hlt : j < z
             · have hlti : (j : Int) < (z : Int) := by omega
               have hBj : B <= wr.heap.size := Nat.le_trans hB hbj.size
               have hzj : (s4 ++ zerB j).size + (⟨#[48]⟩ : ByteArray).size <= 140737488355328 := by rw [ByteArray.size_append, Az, e48.out]; omega
               replace hQj := Hd hQj
               replace hbj := Hd hbj
               go_wp2_with (at_builtin; refine Ar ⟨#[48]⟩ rfl rfl rfl hQj.out rfl rfl hzj hBj ?_)
               intro v9 w9 hQ9 hb9 hk9
               replace hQ9 := Hd hQ9
               go_wp2_with fail
               go_roundw
               case rel => exact ⟨j + 1, by omega, by go_num, by rw [Ca]; exact hQ9.out, hbj.out.trans hb9⟩
               case measure => simp [intOf]; omega
             · obtain rfl : j = z := by omega
               have hlti : ¬ (j : Int) < (j : Int) := by omega
               go_wp2_with fail
               go_meet
               refine ⟨(⟨#[46]⟩ : ByteArray) ++ T4 ++ zerB j, ?_, ?_, ?_, hbj⟩
               · rw [midL_pos hpn, ByteArray.data_append, ByteArray.data_append, Array.toList_append, Array.toList_append, Cs, hD0.out, hzj.out]; rfl
               · rw [ByteArray.size_append, ByteArray.size_append, e46.out, Az]; omega
               · rw [hs4.out, hs3.out] at hQj
                 simp only [ByteArray.append_assoc] at hQj ⊢
                 exact hQj
         · obtain ⟨z, hz⟩ : ∃ z : Nat, prec = (z : Int) := ⟨prec.toNat, by omega⟩
           have hz' : prec + 1 - 1 = (z : Int) := by omega
           have hzn : z <= 30 := by omega
           have hmin2 : min (n : Int) (prec + 1) = (n : Int) := by omega
           have h1n : ¬ (1 : Int) < (n : Int) := by omega
           obtain ⟨T4, hT4⟩ : ∃ T4 : ByteArray, T4 = ⟨#[]⟩ := ⟨_, rfl⟩
           have hD0 : D.data.toList.tail = T4.data.toList := by
             rw [hT4]
             show _ = []
             exact List.length_eq_zero_iff.1 (by rw [List.length_tail, hlenD]; omega)
           have hzj : prec.toNat - (D.data.toList.length - 1) = z := by rw [hlenD]; omega
           have hT4n : T4.size <= 20 := by rw [hT4]; decide
           obtain ⟨s4, hs4⟩ : ∃ s4, s4 = s3 ++ T4 := ⟨_, rfl⟩
           have hs4n : s4.size <= 1030 := by rw [hs4, hT4, Aq]; omega
           have hQ4 : RowK B k w3 v3 s4 := by rw [hs4, hT4, Aq]; exact hQ3
           have hb04 := hb03
           replace hD0 := Hd hD0
           replace hzj := Hd hzj
           replace hlenD := Hd hlenD
           replace hT4 := Hd hT4
           replace hz := Hd hz
           clear hk03
           clear hQ3 hb03
           replace hb04 := Hd hb04
           replace hQ4 := Hd hQ4
           replace hs4 := Hd hs4
           go_wp2_with fail
           go_loopw [0, 114] (fun u0 i wr => ∃ j : Nat, j <= z /\ i = .int .i64 j /\ RowK B k wr u0 (s4 ++ zerB j) /\ Below B w wr) (fun _ i _ => z - (intOf i).toNat)
           case atStart => exact ⟨0, Nat.zero_le _, rfl, by rw [Cb]; exact hQ4.out, hb04.out⟩
           case round =>
             obtain ⟨j, hj, rfl, hQj, hbj⟩ := hrel
             by_cases hlt : j < z
             · have hlti : (j : Int) < (z : Int) := by omega
               have hBj : B <= wr.heap.size := Nat.le_trans hB hbj.size
               have hzj : (s4 ++ zerB j).size + (⟨#[48]⟩ : ByteArray).size <= 140737488355328 := by rw [ByteArray.size_append, Az, e48.out]; omega
               replace hQj := Hd hQj
               replace hbj := Hd hbj
               go_wp2_with (at_builtin; refine Ar ⟨#[48]⟩ rfl rfl rfl hQj.out rfl rfl hzj hBj ?_)
               intro v9 w9 hQ9 hb9 hk9
               replace hQ9 := Hd hQ9
               go_wp2_with fail
               go_roundw
               case rel => exact ⟨j + 1, by omega, by go_num, by rw [Ca]; exact hQ9.out, hbj.out.trans hb9⟩
               case measure => simp [intOf]; omega
             · obtain rfl : j = z := by omega
               have hlti : ¬ (j : Int) < (j : Int) := by omega
               go_wp2_with fail
               go_meet
               refine ⟨(⟨#[46]⟩ : ByteArray) ++ T4 ++ zerB j, ?_, ?_, ?_, hbj⟩
               · rw [midL_pos hpn, ByteArray.data_append, ByteArray.data_append, Array.toList_append, Array.toList_append, Cs, hD0.out, hzj.out]; rfl
               · rw [ByteArray.size_append, ByteArray.size_append, e46.out, Az]; omega
               · rw [hs4.out, hs3.out] at hQj
                 simp only [ByteArray.append_assoc] at hQj ⊢
                 exact hQj
       · have hpn : ¬ 0 < prec.toNat := by omega
         go_wp2_with fail
         go_meet
         exact ⟨⟨#[]⟩, (midL_neg hpn).symm, by decide, by rw [Aq]; exact hQ2.out, hb02.out⟩
     case rest =>
       rename World => w3
       rename Value => v3
       obtain ⟨T3, hT3, hT3s, hQ3, hb03⟩ := hcut
       have hB3 : B <= w3.heap.size := Nat.le_trans hB hb03.size
       have hz4 : (s2 ++ T3).size + (⟨#[101]⟩ : ByteArray).size <= 140737488355328 := by rw [ByteArray.size_append, e101.out]; omega
       clear hQ2 hb02 hk02
       replace hQ3 := Hd hQ3
       replace hb03 := Hd hb03
       replace hT3 := Hd hT3
       go_wp2_with (at_builtin; refine Ar ⟨#[101]⟩ rfl rfl rfl hQ3.out rfl rfl hz4 hB3 ?_)
       intro v4 w4 hQ4 hb4 hk4
       have hB4 : B <= w4.heap.size := Nat.le_trans hB3 hb4.size
       have hb04 := hb03.out.trans hb4
       obtain ⟨s4, hs4⟩ : ∃ s4, s4 = s2 ++ T3 ++ (⟨#[101]⟩ : ByteArray) := ⟨_, rfl⟩
       have hs4n : s4.size <= 1063 := by rw [hs4, ByteArray.size_append, ByteArray.size_append, e101.out]; omega
       rw [<- hs4] at hQ4
       clear hQ3 hb03 hb4 hk4 hz4
       replace hQ4 := Hd hQ4
       replace hb04 := Hd hb04
       replace hs4 := Hd hs4
       obtain ⟨x, hxe⟩ : ∃ x : Int, x = if D.data.toList.length = 0 then 0 else dp - 1 := ⟨_, rfl⟩
       have hlenD : D.data.toList.length = n := by rw [Array.length_toList]; exact hn.out.symm
       have hx0 : -901 <= x := by rw [hxe]; split <;> omega
       have hx1 : x <= 899 := by rw [hxe]; split <;> omega
       have hx2 : x = if n = 0 then 0 else dp - 1 := by rw [hxe, hlenD]
       replace hxe := Hd hxe
       replace hlenD := Hd hlenD
       replace hx2 := Hd hx2
       go_upto_if 127 with fail
       go_cut [22] from 127 to 127 (fun s22 wx => s22 = .int .i64 x /\ wx = w4)
       case first =>
         by_cases h0 : n = 0
         · have hxz : x = 0 := by rw [hx2.out, if_pos h0]
           subst hxz
           subst h0
           go_wp2_with fail
           go_meet
           exact ⟨rfl, rfl⟩
         · have hxz : dp - 1 = x := by rw [hx2.out, if_neg h0]
           have hnz : ((n : Int) == 0) = false := by simp; omega
           go_wp2_with fail
           go_meet
           exact ⟨by rw [hxz], rfl⟩
       case rest =>
         obtain ⟨rfl, hww⟩ := hcut
         obtain rfl := hww.symm
         obtain ⟨sg, hsg⟩ : ∃ sg : UInt8, sg = if x < 0 then 45 else 43 := ⟨_, rfl⟩
         obtain ⟨y, hx⟩ : ∃ y : Nat, x.natAbs = y := ⟨_, rfl⟩
         have hy9 : y <= 999 := by omega
         replace hsg := Hd hsg
         replace hx := Hd hx
         go_upto_if 129 with fail
         go_cut [19, 22] from 129 to 131 (fun s19 s22 wx => s19 = .int .u8 (sg.toNat : Int) /\ s22 = .int .i64 (y : Int) /\ wx = w4)
         case first =>
           by_cases h0 : x < 0
           · have hsz : sg = 45 := by rw [hsg.out, if_pos h0]
             have hyx : -x = (y : Int) := by have := hx.out; omega
             subst hsz
             go_wp2_with fail
             go_meet
             exact ⟨rfl, rfl, rfl⟩
           · have hsz : sg = 43 := by rw [hsg.out, if_neg h0]
             have hyx : x = (y : Int) := by have := hx.out; omega
             subst hsz
             subst hyx
             go_wp2_with fail
             go_meet
             exact ⟨rfl, rfl, rfl⟩
         case rest =>
           obtain ⟨rfl, rfl, hww⟩ := hcut
           obtain rfl := hww.symm
           have hz5 : s4.size + (⟨#[sg]⟩ : ByteArray).size <= 140737488355328 := by have : (⟨#[sg]⟩ : ByteArray).size = 1 := rfl; omega
           go_wp2_with (at_builtin; refine Ar ⟨#[sg]⟩ rfl rfl rfl hQ4.out rfl rfl hz5 hB4 ?_)
           intro v5 w5 hQ5 hb5 hk5
           have hB5 : B <= w5.heap.size := Nat.le_trans hB4 hb5.size
           have hb05 := hb04.out.trans hb5
           obtain ⟨s5, hs5⟩ : ∃ s5, s5 = s4 ++ (⟨#[sg]⟩ : ByteArray) := ⟨_, rfl⟩
           have hs5n : s5.size <= 1064 := by have : (⟨#[sg]⟩ : ByteArray).size = 1 := rfl; rw [hs5, ByteArray.size_append]; omega
           obtain ⟨T, hTe⟩ : ∃ T, T = T1 ++ (⟨#[ch]⟩ : ByteArray) ++ T3 ++ (⟨#[101]⟩ : ByteArray) := ⟨_, rfl⟩
           have hs5' : s5 = s ++ T ++ (⟨#[sg]⟩ : ByteArray) := by rw [hs5, hs4.out, hs2.out, hs1.out, hTe]; simp only [ByteArray.append_assoc]
           have hT : ∀ E : List UInt8, sg :: E = expL x -> ∀ E' : ByteArray, E'.data.toList = E -> (T ++ (⟨#[sg]⟩ : ByteArray) ++ E').data.toList = effP neg D.data.toList dp prec.toNat := fun E hE E' hE' => by
             unfold effP
             rw [<- hxe.out, <- hE, <- hT3.out, <- hT1.out, <- hch.out, hTe, <- hE']
             simp [ByteArray.data_append]
           rw [<- hs5] at hQ5
           clear hQ4 hb04 hb5 hk5 hz5 hs5
           have hs5 := hs5'
           replace hs5 := Hd hs5
           clear hs5'
           replace hT := Hd hT
           replace hQ5 := Hd hQ5
           replace hb05 := Hd hb05
           by_cases h10 : y < 10
           · have hd : (y : Int) + 48 = ((dg8 y).toNat : Int) := by rw [Bp h10]; omega
             have hz6 : s5.size + (⟨#[48, dg8 y]⟩ : ByteArray).size <= 140737488355328 := by
               have e5 : (⟨#[48, dg8 y]⟩ : ByteArray).size <= 3 := by show (#[48, dg8 y] : Array UInt8).size <= 3; simp
               omega
             go_wp2_with (at_builtin; refine Ar ⟨#[48, dg8 y]⟩ rfl rfl rfl hQ5.out rfl rfl hz6 hB5 ?_)
             intro v6 w6 hQ6 hb6 hk6
             have hb16 := hb05.out.trans hb6
             replace hQ6 := Hd hQ6
             go_wp2_with fail
             go_ret
             refine ⟨v6, T ++ ⟨#[sg]⟩ ++ ⟨#[48, dg8 y]⟩, rfl, ?_, ?_, hb16⟩
             · refine hT.out _ (expL_at hx.out hsg.out ?_) ⟨#[48, dg8 y]⟩ rfl
               rw [if_pos h10]
             · have := hQ6.out.row
               rw [hs5.out] at this
               simp only [ByteArray.append_assoc] at this ⊢
               exact this
           · obtain ⟨q, hqe⟩ : ∃ q, q = y / 10 := ⟨_, rfl⟩
             obtain ⟨r, hre⟩ : ∃ r, r = y % 10 := ⟨_, rfl⟩
             have hq : (y : Int).tdiv 10 = (q : Int) := by rw [Int.tdiv_eq_ediv_of_nonneg (by omega)]; omega
             have hr : (y : Int).tmod 10 = (r : Int) := by rw [Int.tmod_eq_emod_of_nonneg (by omega)]; omega
             have hd2 : (r : Int) + 48 = ((dg8 r).toNat : Int) := by rw [Bp (by omega)]; omega
             have hb1' : q <= 99 := by omega
             have hb2' : r <= 9 := by omega
             have hb3' : (dg8 r).toNat <= 57 := by rw [Bp (by omega)]; omega
             by_cases h100 : y < 100
             · have hb4' : (dg8 q).toNat <= 57 := by rw [Bp (by omega)]; omega
               have hd1 : (q : Int) + 48 = ((dg8 q).toNat : Int) := by rw [Bp (by omega)]; omega
               replace hqe := Hd hqe
               replace hre := Hd hre
               have hz6 : s5.size + (⟨#[dg8 q, dg8 r]⟩ : ByteArray).size <= 140737488355328 := by
                 have e5 : (⟨#[dg8 q, dg8 r]⟩ : ByteArray).size <= 3 := by show (#[dg8 q, dg8 r] : Array UInt8).size <= 3; simp
                 omega
               go_wp2_with (at_builtin; refine Ar ⟨#[dg8 q, dg8 r]⟩ rfl rfl rfl hQ5.out rfl rfl hz6 hB5 ?_)
               intro v6 w6 hQ6 hb6 hk6
               have hb16 := hb05.out.trans hb6
               replace hQ6 := Hd hQ6
               go_wp2_with fail
               go_ret
               refine ⟨v6, T ++ ⟨#[sg]⟩ ++ ⟨#[dg8 q, dg8 r]⟩, rfl, ?_, ?_, hb16⟩
               · refine hT.out _ (expL_at hx.out hsg.out ?_) ⟨#[dg8 q, dg8 r]⟩ rfl
                 rw [if_neg h10, if_pos h100, <- hqe.out, <- hre.out]
               · have := hQ6.out.row
                 rw [hs5.out] at this
                 simp only [ByteArray.append_assoc] at this ⊢
                 exact this
             · obtain ⟨c, hce⟩ : ∃ c, c = y / 100 := ⟨_, rfl⟩
               obtain ⟨d, hde⟩ : ∃ d, d = q % 10 := ⟨_, rfl⟩
               have hc9 : (y : Int).tdiv 100 = (c : Int) := by rw [Int.tdiv_eq_ediv_of_nonneg (by omega)]; omega
               have hd9 : (q : Int).tmod 10 = (d : Int) := by rw [Int.tmod_eq_emod_of_nonneg (by omega)]; omega
               have hd10 : (q : Int) % 10 = (d : Int) := by omega
               have hd1 : (c : Int) + 48 = ((dg8 c).toNat : Int) := by rw [Bp (by omega)]; omega
               have hd3 : (d : Int) + 48 = ((dg8 d).toNat : Int) := by rw [Bp (by omega)]; omega
               have hb5' : c <= 9 := by omega
               have hb6' : d <= 9 := by omega
               have hb7' : (dg8 c).toNat <= 57 := by rw [Bp (by omega)]; omega
               have hb8' : (dg8 d).toNat <= 57 := by rw [Bp (by omega)]; omega
               replace hqe := Hd hqe
               replace hre := Hd hre
               replace hce := Hd hce
               replace hde := Hd hde
               have hz6 : s5.size + (⟨#[dg8 c, dg8 d, dg8 r]⟩ : ByteArray).size <= 140737488355328 := by
                 have e5 : (⟨#[dg8 c, dg8 d, dg8 r]⟩ : ByteArray).size <= 3 := by show (#[dg8 c, dg8 d, dg8 r] : Array UInt8).size <= 3; simp
                 omega
               go_wp2_with (at_builtin; refine Ar ⟨#[dg8 c, dg8 d, dg8 r]⟩ rfl rfl rfl hQ5.out rfl rfl hz6 hB5 ?_)
               intro v6 w6 hQ6 hb6 hk6
               have hb16 := hb05.out.trans hb6
               replace hQ6 := Hd hQ6
               go_wp2_with fail
               go_ret
               refine ⟨v6, T ++ ⟨#[sg]⟩ ++ ⟨#[dg8 c, dg8 d, dg8 r]⟩, rfl, ?_, ?_, hb16⟩
               · refine hT.out _ (expL_at hx.out hsg.out ?_) ⟨#[dg8 c, dg8 d, dg8 r]⟩ rfl
                 rw [if_neg h10, if_neg h100, <- hqe.out, <- hre.out, <- hce.out, <- hde.out]
               · have := hQ6.out.row
                 rw [hs5.out] at this
                 simp only [ByteArray.append_assoc] at this ⊢
                 exact this
end Go.Proofs.YtagkgfniihiinaaGreatDoor
