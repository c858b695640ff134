/- internal/strconv.atof64exact: its walk, at every number. -/
import Derived.Test.YtagkgfniihiinaaGreatDoorJ38
import Derived.Test.YtagkgfniihiinaaGreatDoorJ24
namespace Go.Proofs.YtagkgfniihiinaaGreatDoor
open Go.RowKit
def ExRes (d : Nat) (neg : Bool) (p : Int) (w : World) (e : Ending) (w' : World) : Prop:=∃ (f : Nat) (ok : Bool),e = .returned (.tuple #[.float .f64 f,.bool ok]) /\ w' = w /\ (ok = true -> d < 4503599627370496 /\ ExOk d neg p f)
theorem exact_big {w : World} {d : Nat} {p : Int} {neg : Bool} (hd : 4503599627370496 <= d) (hd2 : d < 18446744073709551616) (hP : Par w) :
   Calls Tryz.prog 212 #[.int .u64 (d : Int),.int .i64 p,.bool neg] w (ExRes d neg p w):=by
 obtain ⟨b,c,h1,h2⟩:=hP.tens
 have hb:=hP.bits
 have hnr:=Ey
 obtain ⟨q,hq⟩ : ∃ q : Nat,(d : Int) / 4503599627370496 = (q : Int):=⟨d / 4503599627370496,by omega⟩
 have hq0 : ((q : Int) != 0) = true:=by simp; omega
 clear h1 h2 hnr
 go_enter Tryz.func212,Tryz.ntmps212
 go_wp2
 go_ret2
 exact ⟨0,false,rfl,rfl,fun h => by cases h⟩
theorem exact_zero {w : World} {d : Nat} {neg : Bool} (hd : d < 4503599627370496) (hP : Par w) :
   Calls Tryz.prog 212 #[.int .u64 (d : Int),.int .i64 0,.bool neg] w (ExRes d neg 0 w):=by
 obtain ⟨b,c,h1,h2⟩:=hP.tens
 have hb:=hP.bits
 have hnr:=Ey
 have hz : (d : Int) / 4503599627370496 = 0:=by omega
 obtain ⟨F,hF⟩ : ∃ F,floatOfInt .f64 (d : Int) = F:=⟨_,rfl⟩
 obtain ⟨G,hG⟩ : ∃ G,fltN neg d = G:=⟨_,rfl⟩
 have hres : d < 4503599627370496 /\ ExOk d neg 0 G:=⟨hd,hG ▸ .zero⟩
 replace hres:=Hd hres
 clear h1 h2
 cases neg
 · obtain rfl : F = G:=by rw [<- hG,<- hF,fltN,if_neg (by decide)]
   clear hG
   go_enter Tryz.func212,Tryz.ntmps212
   go_wp2
   go_ret2
   exact ⟨F,true,rfl,rfl,fun _ => hres.out⟩
 · have hFG : Op.negFloat .f64 F = G:=by rw [<- hG,<- hF,fltN,if_pos rfl]
   have hnF:=hnr F;rw [hFG] at hnF;clear hG hFG hnr
   go_enter Tryz.func212,Tryz.ntmps212
   go_wp2
   go_ret2
   exact ⟨G,true,rfl,rfl,fun _ => hres.out⟩
theorem exact_else {w : World} {d : Nat} {p : Int} {neg : Bool} (hd : d < 4503599627370496) (hp : 37 < p \/ p < -22) (hp1 : -100000 <= p) (hp2 : p <= 1000000) (hP : Par w) :
   Calls Tryz.prog 212 #[.int .u64 (d : Int),.int .i64 p,.bool neg] w (ExRes d neg p w):=by
 obtain ⟨b,c,h1,h2⟩:=hP.tens
 have hb:=hP.bits
 have hnr:=Ey
 have hz : (d : Int) / 4503599627370496 = 0:=by omega
 have hp0 : (p == 0) = false:=beq_eq_false_iff_ne.2 (by omega)
 obtain ⟨F,hF⟩ : ∃ F,floatOfInt .f64 (d : Int) = F:=⟨_,rfl⟩
 clear h1 h2
 rcases hp with hp | hp
 · have k1 : (0 : Int) < p:=by omega
   have k2 : ¬ p <= 37:=by omega
   have k3 : ¬ p < 0:=by omega
   cases neg
   · go_enter Tryz.func212,Tryz.ntmps212
     go_wp2
     go_ret2
     exact ⟨F,false,rfl,rfl,fun h => by cases h⟩
   · have hnF:=hnr F
     clear hnr
     go_enter Tryz.func212,Tryz.ntmps212
     go_wp2
     go_ret2
     exact ⟨_,false,rfl,rfl,fun h => by cases h⟩
 · have k1 : ¬ (0 : Int) < p:=by omega
   have k2 : p < 0:=by omega
   have k3 : ¬ -22 <= p:=by omega
   cases neg
   · go_enter Tryz.func212,Tryz.ntmps212
     go_wp2
     go_ret2
     exact ⟨F,false,rfl,rfl,fun h => by cases h⟩
   · have hnF:=hnr F
     clear hnr
     go_enter Tryz.func212,Tryz.ntmps212
     go_wp2
     go_ret2
     exact ⟨_,false,rfl,rfl,fun h => by cases h⟩
theorem read_fin {n : Nat} (h : nanF n = false) : (∃ m p,Ieee.double.read n = .number (negF n) m p) \/ Ieee.double.read n = .infinity (negF n):=by
 unfold nanF at h;have h2:=of_decide_eq_false h;rcases Nat.lt_or_ge (n % 9223372036854775808) 9218868437227405312 with h1 | h1
 · obtain ⟨m,p,h3,_⟩:=Cs h1
   exact .inl ⟨m,p,h3⟩
 · exact .inr (read_inf (by omega))
theorem mul_some {x z : Nat} (hx : nanF x = false) (hz : z % 9223372036854775808 < 9218868437227405312) (hz0 : 0 < z % 9223372036854775808) : ∃ r,floatBits .mul .f64 x z = some r:=by
 obtain ⟨m2,p2,h2,h3,h4⟩:=Cs hz;have hm2 : m2 ≠ 0:=fun e => by
   rw [e,Nat.zero_mul] at h4;have:=Fo.1 h4.symm;omega
 show ∃ r,((Ieee.double.read x).product (Ieee.double.read z)).map Ieee.double.write = some r;rw [h2];rcases read_fin hx with ⟨m,p,h⟩ | h
 · rw [h]; exact ⟨_,rfl⟩
 · rw [h]
   unfold Ieee.Datum.product;simp only [hm2,if_false];exact ⟨_,rfl⟩
theorem quo_some {x z : Nat} (hx : nanF x = false) (hz : z % 9223372036854775808 < 9218868437227405312) (hz0 : 0 < z % 9223372036854775808) : ∃ r,floatBits .quo .f64 x z = some r:=by
 obtain ⟨m2,p2,h2,h3,h4⟩:=Cs hz;have hm2 : m2 ≠ 0:=fun e => by
   rw [e,Nat.zero_mul] at h4;have:=Fo.1 h4.symm;omega
 show ∃ r,((Ieee.double.read x).quotient (Ieee.double.fractionBits + 2) (Ieee.double.read z)).map Ieee.double.write = some r;rw [h2];rcases read_fin hx with ⟨m,p,h⟩ | h
 · rw [h]
   unfold Ieee.Datum.quotient;simp only [hm2,if_false];exact ⟨_,rfl⟩
 · rw [h]; exact ⟨_,rfl⟩
theorem f10_fin : ∀ z ∈ f10L,z % 9223372036854775808 < 9218868437227405312 /\ 0 < z % 9223372036854775808:=by decide +kernel
theorem fltN_nan {neg : Bool} {d : Nat} (h0 : 0 < d) (hd : d < 4503599627370496) : nanF (fltN neg d) = false:=by
 obtain ⟨R,h1,_,h3,_⟩:=fltN_is (neg:=neg) h0 hd;rw [h1];unfold nanF;rw [decide_eq_false_iff_not];split <;> omega
theorem exact_minus {w : World} {d i : Nat} {neg : Bool} (h0 : 0 < d) (hd : d < 4503599627370496) (hi1 : 1 <= i) (hi : i <= 22) (hP : Par w) :
   Calls Tryz.prog 212 #[.int .u64 (d : Int),.int .i64 (-(i : Int)),.bool neg] w (ExRes d neg (-(i : Int)) w):=by
 obtain ⟨z,hz⟩ : ∃ z,f10L[i]? = some z:=⟨_,List.getElem?_eq_getElem (show i < 23 by omega)⟩
 obtain ⟨z1,z2⟩:=f10_fin z (List.mem_of_getElem? hz)
 obtain ⟨r,hr⟩:=quo_some (fltN_nan (neg:=neg) h0 hd) z1 z2
 refine (exact_neg hd hi1 hi hz hr hP).mono ?_
 rintro e w' ⟨he,hw⟩
 exact ⟨r,true,he,hw,fun _ => ⟨hd,.neg hi1 hz hr⟩⟩
set_option maxRecDepth 100000 in
theorem exact_plus {w : World} {d i : Nat} {neg : Bool} (h0 : 0 < d) (hd : d < 4503599627370496) (hi1 : 1 <= i) (hi : i <= 22) (hP : Par w) :
   Calls Tryz.prog 212 #[.int .u64 (d : Int),.int .i64 (i : Int),.bool neg] w (ExRes d neg (i : Int) w):=by
 obtain ⟨z,hz⟩ : ∃ z,f10L[i]? = some z:=⟨_,List.getElem?_eq_getElem (show i < 23 by omega)⟩
 obtain ⟨z1,z2⟩:=f10_fin z (List.mem_of_getElem? hz)
 obtain ⟨r,hr⟩:=mul_some (fltN_nan (neg:=neg) h0 hd) z1 z2
 have hres : d < 4503599627370496 /\ ExOk d neg (i : Int) r:=⟨hd,.pos hi1 hz hr⟩
 obtain ⟨b,c,h1,h2⟩:=hP.tens
 have hb:=hP.bits
 have hnr:=Ey
 have hzd : (d : Int) / 4503599627370496 = 0:=by omega
 have k0 : ((i : Int) == 0) = false:=beq_eq_false_iff_ne.2 (by omega)
 have k1 : (0 : Int) < (i : Int):=by omega
 have k2 : (i : Int) <= 37:=by omega
 have k3 : ¬ (22 : Int) < (i : Int):=by omega
 have k4 : (i : Int) < 23:=by omega
 have h3:=h2 i z hz
 obtain ⟨F,hF⟩ : ∃ F,floatOfInt .f64 (d : Int) = F:=⟨_,rfl⟩
 obtain ⟨G,hG⟩ : ∃ G,fltN neg d = G:=⟨_,rfl⟩
 have hq:=fun w => run_float_arith (P:=Tryz.prog) w .mul 23 .f64 G z r (by rw [<- hG]; exact hr)
 obtain ⟨g1,hg1⟩ : ∃ g1 : Bool,(FloatKind.f64.format.order G 4831355200913801216 == some .gt) = g1:=⟨_,rfl⟩
 obtain ⟨g2,hg2⟩ : ∃ g2 : Bool,(FloatKind.f64.format.order G 14054727237768577024 == some .lt) = g2:=⟨_,rfl⟩
 replace hz:=Hd hz
 replace hres:=Hd hres
 clear h2 hr z1 z2
 cases neg
 · obtain rfl : F = G:=by rw [<- hG,<- hF,fltN,if_neg (by decide)]
   clear hG;cases g1
   · cases g2
     · go_enter Tryz.func212,Tryz.ntmps212
       go_wp2
       go_ret2
       exact ⟨r,true,rfl,rfl,fun _ => hres.out⟩
     · go_enter Tryz.func212,Tryz.ntmps212
       go_wp2
       go_ret2
       exact ⟨F,false,rfl,rfl,fun h => by cases h⟩
   · go_enter Tryz.func212,Tryz.ntmps212
     go_wp2
     go_ret2
     exact ⟨F,false,rfl,rfl,fun h => by cases h⟩
 · have hFG : Op.negFloat .f64 F = G:=by rw [<- hG,<- hF,fltN,if_pos rfl]
   have hnF:=hnr F;rw [hFG] at hnF;clear hG hFG hnr;cases g1
   · cases g2
     · go_enter Tryz.func212,Tryz.ntmps212
       go_wp2
       go_ret2
       exact ⟨r,true,rfl,rfl,fun _ => hres.out⟩
     · go_enter Tryz.func212,Tryz.ntmps212
       go_wp2
       go_ret2
       exact ⟨G,false,rfl,rfl,fun h => by cases h⟩
   · go_enter Tryz.func212,Tryz.ntmps212
     go_wp2
     go_ret2
     exact ⟨G,false,rfl,rfl,fun h => by cases h⟩
theorem mul_nan {neg : Bool} {d z f : Nat} (h0 : 0 < d) (hd : d < 4503599627370496) (hz : z < 9218868437227405312) (hz0 : 0 < z) (h : floatBits .mul .f64 (fltN neg d) z = some f) : nanF f = false:=by
 obtain ⟨R,h1,_,h3,h4⟩:=fltN_is (neg:=neg) h0 hd;obtain ⟨r,h5,_⟩:=mul_rung (n1:=neg) h3 h4 hz hz0;have h6 : floatBits .mul .f64 (fltN neg d) z = some ((if neg then 9223372036854775808 else 0) + min r 9218868437227405312):=by rw [h1]; exact h5
 rw [h] at h6;rw [Option.some.inj h6];unfold nanF;rw [decide_eq_false_iff_not];split <;> omega
set_option maxRecDepth 100000 in
set_option maxHeartbeats 1600000 in
theorem exact_far {w : World} {d i : Nat} {neg : Bool} (h0 : 0 < d) (hd : d < 4503599627370496) (hi1 : 1 <= i) (hi : i <= 15) (hP : Par w) :
   Calls Tryz.prog 212 #[.int .u64 (d : Int),.int .i64 (22 + (i : Int)),.bool neg] w (ExRes d neg (22 + (i : Int)) w):=by
 obtain ⟨z,hz⟩ : ∃ z,f10L[i]? = some z:=⟨_,List.getElem?_eq_getElem (show i < 23 by omega)⟩
 obtain ⟨z1,z2⟩:=f10_fin z (List.mem_of_getElem? hz)
 obtain ⟨z3,z4⟩:=F5 z (List.mem_of_getElem? hz)
 obtain ⟨f,hf⟩:=mul_some (fltN_nan (neg:=neg) h0 hd) z1 z2
 obtain ⟨r,hr⟩:=mul_some (z:=4936209963552724370) (mul_nan h0 hd z3 z4 hf) (by decide) (by decide)
 obtain ⟨b,c,h1,h2⟩:=hP.tens
 have hb:=hP.bits
 have hnr:=Ey
 have hzd : (d : Int) / 4503599627370496 = 0:=by omega
 obtain ⟨p,hp⟩ : ∃ p : Int,22 + (i : Int) = p:=⟨_,rfl⟩
 have k0 : (p == 0) = false:=beq_eq_false_iff_ne.2 (by omega)
 have k1 : (0 : Int) < p:=by omega
 have k2 : p <= 37:=by omega
 have k3 : (22 : Int) < p:=by omega
 have k4 : (i : Int) < 23:=by omega
 have k5 : p - 22 = (i : Int):=by omega
 have h3:=h2 i z hz
 have h4 : w.cell? ⟨b.block,b.off + 22,none⟩ = some (.float .f64 4936209963552724370):=h2 22 4936209963552724370 rfl
 obtain ⟨F,hF⟩ : ∃ F,floatOfInt .f64 (d : Int) = F:=⟨_,rfl⟩
 obtain ⟨G,hG⟩ : ∃ G,fltN neg d = G:=⟨_,rfl⟩
 have hq:=fun w => run_float_arith (P:=Tryz.prog) w .mul 23 .f64 G z f (by rw [<- hG]; exact hf)
 have hq2:=fun w => run_float_arith (P:=Tryz.prog) w .mul 23 .f64 f 4936209963552724370 r hr
 obtain ⟨g1,hg1⟩ : ∃ g1 : Bool,(FloatKind.f64.format.order f 4831355200913801216 == some .gt) = g1:=⟨_,rfl⟩
 obtain ⟨g2,hg2⟩ : ∃ g2 : Bool,(FloatKind.f64.format.order f 14054727237768577024 == some .lt) = g2:=⟨_,rfl⟩
 have hres : g1 = false -> g2 = false -> d < 4503599627370496 /\ ExOk d neg (22 + (i : Int)) r:=fun e1 e2 => ⟨hd,.far hi1 hz hf hr (hg1.trans e1) (hg2.trans e2)⟩
 rw [hp] at hres ⊢
 replace hz:=Hd hz
 replace hres:=Hd hres
 clear h2 hr hf z1 z2 hp
 cases neg
 · obtain rfl : F = G:=by rw [<- hG,<- hF,fltN,if_neg (by decide)]
   clear hG;cases g1
   · cases g2
     · go_enter Tryz.func212,Tryz.ntmps212
       go_wp2
       go_ret2
       exact ⟨r,true,rfl,rfl,fun _ => hres.out trivial trivial⟩
     · go_enter Tryz.func212,Tryz.ntmps212
       go_wp2
       go_ret2
       exact ⟨f,false,rfl,rfl,fun h => by cases h⟩
   · go_enter Tryz.func212,Tryz.ntmps212
     go_wp2
     go_ret2
     exact ⟨f,false,rfl,rfl,fun h => by cases h⟩
 · have hFG : Op.negFloat .f64 F = G:=by rw [<- hG,<- hF,fltN,if_pos rfl]
   have hnF:=hnr F;rw [hFG] at hnF;clear hG hFG hnr;cases g1
   · cases g2
     · go_enter Tryz.func212,Tryz.ntmps212
       go_wp2
       go_ret2
       exact ⟨r,true,rfl,rfl,fun _ => hres.out trivial trivial⟩
     · go_enter Tryz.func212,Tryz.ntmps212
       go_wp2
       go_ret2
       exact ⟨f,false,rfl,rfl,fun h => by cases h⟩
   · go_enter Tryz.func212,Tryz.ntmps212
     go_wp2
     go_ret2
     exact ⟨f,false,rfl,rfl,fun h => by cases h⟩
theorem exact_any {w : World} {d : Nat} {p : Int} {neg : Bool} (h0 : 0 < d) (hd : d < 18446744073709551616) (hp1 : -100000 <= p) (hp2 : p <= 1000000) (hP : Par w) :
   Calls Tryz.prog 212 #[.int .u64 (d : Int),.int .i64 p,.bool neg] w (ExRes d neg p w):=by
 rcases Nat.lt_or_ge d 4503599627370496 with h | h
 · rcases Int.lt_trichotomy p 0 with hp | hp | hp
   · rcases Int.lt_or_le p (-22) with h22 | h22
     · exact exact_else h (.inr h22) hp1 hp2 hP
     · obtain ⟨i,rfl⟩ : ∃ i : Nat,p = -(i : Int):=⟨(-p).toNat,by omega⟩
       exact exact_minus h0 h (by omega) (by omega) hP
   · subst hp; exact exact_zero h hP
   · rcases Int.lt_or_le 37 p with h37 | h37
     · exact exact_else h (.inl h37) hp1 hp2 hP
     · rcases Int.lt_or_le 22 p with h22 | h22
       · obtain ⟨i,rfl⟩ : ∃ i : Nat,p = 22 + (i : Int):=⟨(p - 22).toNat,by omega⟩
         exact exact_far h0 h (by omega) (by omega) hP
       · obtain ⟨i,rfl⟩ : ∃ i : Nat,p = (i : Int):=⟨p.toNat,by omega⟩
         exact exact_plus h0 h (by omega) (by omega) hP
 · exact exact_big h hd hP
def AtofRes (d : Nat) (neg : Bool) (p : Int) (s : ByteArray) (w : World) (e : Ending) (w' : World) : Prop:=
 ∃ R,InI R (decA d p) (Ao p) /\ e = .returned (.tuple #[.float .f64 (sgB neg + min R 9218868437227405312),.int .i64 (s.size : Int),Cd (min R 9218868437227405312)]) /\ Below w.heap.size w w'
set_option maxRecDepth 100000 in
set_option maxHeartbeats 6400000 in
theorem atof_mid {s : ByteArray} {neg d : Bool} {L : List UInt8} {m : Nat} {x p : Int} (h : FTxt s neg d L m x) (h0 : 0 < Bk L) (h1 : Bk L < 18446744073709551616) (ht : B4 L = false) (hx : expF d L m x = p) (hp1 : -345 <= p) (hp2 : p <= 310) {w : World} (hP : Par w) (hW : Pows w) :
   Calls Tryz.prog 164 #[.string s] w (AtofRes (Bk L) neg p s w):=by
 have hrf:=readFloat_any h w
 obtain ⟨⟨c,body,rest,hs,hc,_⟩,hsz,_⟩:=h
 have hsp:=special_num hs hc hsz w
 rw [ht,hx] at hrf
 obtain ⟨mt,hmt⟩ : ∃ mt,Bk L = mt:=⟨_,rfl⟩
 rw [hmt] at hrf h0 h1 ⊢
 have hex:=exact_any (neg:=neg) h0 h1 (p:=p) (by omega) (by omega) hP
 have hpf:=parse64_any (sb:=neg) h0 h1 hp1 hp2 hW
 obtain ⟨R,hR1,hR2⟩:=parse_ok h0 h1 (p:=p) (by omega) (by omega)
 rw [hR2] at hpf
 have hnear : ∀ r w',mt < 4503599627370496 -> ExOk mt neg p r -> Below w.heap.size w w' -> AtofRes mt neg p s w (.returned (.tuple #[.float .f64 r,.int .i64 (s.size : Int),.nilIface])) w':=by
   intro r w' hd h hw;obtain ⟨R,e,hI⟩:=ex_near (p:=p) (neg:=neg) (r:=r) h0 hd h;have hf:=fin_near hd (ex_pow h) hI;refine ⟨R,hI,?_,hw⟩;rw [Nat.min_eq_left (Nat.le_of_lt hf)] at e ⊢;have hne : ¬ R = 9218868437227405312:=by clear e; omega
   unfold Cd sgB;rw [if_neg hne,<- e]
 have hopt:=hP.opt
 have hk1 : ¬ (310 : Int) < p:=by omega
 have hk2 : ¬ p < -345:=by omega
 have hm0 : ((mt : Int) == 0) = false:=by simp; omega
 have hb:=Eg neg
 have hsz2 : (s.size : Int) <= 1000:=by omega
 obtain ⟨S,hS⟩ : ∃ S : Nat,S = sgB neg:=⟨_,rfl⟩
 have hres : ∀ w',Below w.heap.size w w' -> AtofRes mt neg p s w (.returned (.tuple #[.float .f64 (S + min R 9218868437227405312),.int .i64 (s.size : Int),Cd (min R 9218868437227405312)])) w':=fun w' hw => ⟨R,hR1,by rw [hS],hw⟩
 rw [<- hS] at hpf
 obtain ⟨M,hM⟩ : ∃ M,M = min R 9218868437227405312:=⟨_,rfl⟩
 rw [<- hM] at hpf hres
 obtain ⟨V,hV⟩ : ∃ V,V = Cd M:=⟨_,rfl⟩
 rw [<- hV] at hpf hres
 have hsh : (S : Int) = (neg.toNat : Int) * 9223372036854775808:=by rw [hS]; cases neg <;> rfl
 rw [hsh] at hpf
 have hne : neg.toNat <= 1:=by cases neg <;> decide
 obtain ⟨nn,hnn⟩ : ∃ nn : Nat,nn = neg.toNat:=⟨_,rfl⟩
 rw [<- hnn] at hne hb hpf
 clear hS hnn hsh
 replace hrf:=Hd hrf
 replace hex:=Hd hex
 replace hsp:=Hd hsp
 replace hb:=Hd hb
 replace hpf:=Hd hpf
 replace hres:=Hd hres
 replace hnear:=Hd hnear
 clear hx ht hs hc hmt hP hW hR1 hR2 hM hV
 go_enter Tryz.func164,Tryz.ntmps164
 go_wp2_with fail
 refine hsp.out.mono ?_
 rintro e w' ⟨rfl,hww⟩
 obtain rfl:=hww.symm
 clear hww
 go_wp2_with fail
 refine hrf.out.mono ?_
 rintro e w' ⟨rfl,hww⟩
 obtain rfl:=hww.symm
 clear hww
 go_wp2_with fail
 refine (hb.out _).mono ?_
 rintro e w' ⟨rfl,hww⟩
 obtain rfl:=hww.symm
 clear hww
 go_wp2_with fail
 refine hex.out.mono ?_
 rintro e w' ⟨f,ok,rfl,hww,hok⟩
 obtain rfl:=hww.symm
 clear hww
 cases ok with
 | true =>
   obtain ⟨hd9,hE⟩:=hok rfl;go_wp2;exact bodyPost_ret (v:=.tuple #[.float .f64 f,.int .i64 (s.size : Int),.nilIface]) (by simp [results,Tryz.results164,go_sem]) rfl (hnear.out f _ hd9 hE (.refl _ _))
 | false =>
   clear hok;go_wp2_with fail
   refine hpf.out.mono ?_;rintro e w' ⟨rfl,hww⟩;go_wp2;exact bodyPost_ret (v:=.tuple #[.float .f64 (S + M),.int .i64 (s.size : Int),V]) (by simp [results,Tryz.results164,go_sem]) rfl (hres.out _ hww)
end Go.Proofs.YtagkgfniihiinaaGreatDoor
