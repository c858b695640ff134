/- internal/strconv.atof64 at every text of at most nineteen digits: the nearest number. -/
import Derived.Test.YtagkgfniihiinaaGreatDoorJ59
import Derived.Test.YtagkgfniihiinaaGreatDoorJ85
set_option linter.all false
namespace Go.Proofs.YtagkgfniihiinaaGreatDoor
open Go.RowKit
def AtofRes (d:Nat) (neg:Bool) (p:Int) (s:ByteArray) (w:World) (e:Ending) (w' : World):Prop:=
 ∃R,InI R (decA d p) (B5 p)/\e=.returned (.tuple #[.float .f64 (sgB neg+min R 9218868437227405312),.int .i64 (s.size:Int),Bc (min R 9218868437227405312)])/\Below w.heap.size w w'
set_option maxRecDepth 100000 in
set_option maxHeartbeats 6400000 in
theorem atof_mid {s:ByteArray} {neg d:Bool} {L:List UInt8} {m:Nat} {x p:Int} (h:FTxt s neg d L m x) (h0:0<A3 L) (h1:A3 L<18446744073709551616) (ht:Bf L=false) (hx:expF d L m x=p) (hp1:-345<=p) (hp2:p<=310) {w:World} (hP:Par w) (hW:Pows w) :
   Calls Tryz.prog 164 #[.string s] w (AtofRes (A3 L) neg p s w):=by
 have hrf:=Cr h w
 obtain ⟨⟨c,body,rest,hs,hc,_⟩,hsz,_⟩:=h
 have hsp:=Dd hs hc hsz w
 rw [ht,hx] at hrf
 obtain ⟨mt,hmt⟩:∃mt,A3 L=mt:=⟨_,rfl⟩
 rw [hmt] at hrf h0 h1 ⊢
 have hex:=exact_any (neg:=neg) h0 h1 (p:=p) (by omega) (by omega) hP
 have hpf:=Fg (sb:=neg) h0 h1 hp1 hp2 hW
 obtain ⟨R,hR1,hR2⟩:=Fi h0 h1 (p:=p) (by omega) (by omega)
 rw [hR2] at hpf
 have hnear:∀r w', mt<4503599627370496->ExOk mt neg p r->Below w.heap.size w w' -> AtofRes mt neg p s w (.returned (.tuple #[.float .f64 r,.int .i64 (s.size:Int),.nilIface])) w' := by
   intro r w' hd h hw;obtain ⟨R,e,hI⟩:=ex_near (p:=p) (neg:=neg) (r:=r) h0 hd h;have hf:=fin_near hd (ex_pow h) hI;refine ⟨R,hI,?_,hw⟩;rw [Nat.min_eq_left (Nat.le_of_lt hf)] at e ⊢;have hne:¬R=9218868437227405312:=by clear e;omega
   unfold Bc sgB;rw [if_neg hne,<-e]
 have hopt:=hP.opt
 have hk1:¬(310:Int)<p:=by omega
 have hk2:¬p < -345:=by omega
 have hm0:((mt:Int) == 0)=false:=by simp;omega
 have hb:=B4 neg
 have hsz2:(s.size:Int)<=1000:=by omega
 obtain ⟨S,hS⟩:∃S:Nat,S=sgB neg:=⟨_,rfl⟩
 have hres:∀w', Below w.heap.size w w' -> AtofRes mt neg p s w (.returned (.tuple #[.float .f64 (S+min R 9218868437227405312),.int .i64 (s.size:Int),Bc (min R 9218868437227405312)])) w' := fun w' hw=>⟨R,hR1,by rw [hS],hw⟩
 rw [<-hS] at hpf
 obtain ⟨M,hM⟩:∃M,M=min R 9218868437227405312:=⟨_,rfl⟩
 rw [<-hM] at hpf hres
 obtain ⟨V,hV⟩:∃V,V=Bc M:=⟨_,rfl⟩
 rw [<-hV] at hpf hres
 have hsh:(S:Int)=(neg.toNat:Int) * 9223372036854775808:=by rw [hS];cases neg<;>rfl
 rw [hsh] at hpf
 have hne:neg.toNat<=1:=by cases neg<;>decide
 obtain ⟨nn,hnn⟩:∃nn:Nat,nn=neg.toNat:=⟨_,rfl⟩
 rw [<-hnn] at hne hb hpf
 clear hS hnn hsh
 replace hrf:=Hd hrf
 replace hex:=Hd hex
 replace hsp:=Hd hsp
 replace hb:=Hd hb
 replace hpf:=Hd hpf
 replace hres:=Hd hres
 replace hnear:=Hd hnear
 clear hx ht hs hc hmt hP hW hR1 hR2 hM hV
 go_enter Tryz.func164,Tryz.ntmps164
 go_wp2_with fail
 refine hsp.out.mono ?_
 rintro e w' ⟨rfl,hww⟩
 obtain rfl:=hww.symm
 clear hww
 go_wp2_with fail
 refine hrf.out.mono ?_
 rintro e w' ⟨rfl,hww⟩
 obtain rfl:=hww.symm
 clear hww
 go_wp2_with fail
 refine (hb.out _).mono ?_
 rintro e w' ⟨rfl,hww⟩
 obtain rfl:=hww.symm
 clear hww
 go_wp2_with fail
 refine hex.out.mono ?_
 rintro e w' ⟨f,ok,rfl,hww,hok⟩
 obtain rfl:=hww.symm
 clear hww
 cases ok with
 | true=>
   obtain ⟨hd9,hE⟩:=hok rfl;go_wp2;exact bodyPost_ret (v:=.tuple #[.float .f64 f,.int .i64 (s.size:Int),.nilIface]) (by simp [results,Tryz.results164,go_sem]) rfl (hnear.out f _ hd9 hE (.refl _ _))
 | false=>
   clear hok;go_wp2_with fail
   refine hpf.out.mono ?_;rintro e w' ⟨rfl,hww⟩;go_wp2;exact bodyPost_ret (v:=.tuple #[.float .f64 (S+M),.int .i64 (s.size:Int),V]) (by simp [results,Tryz.results164,go_sem]) rfl (hres.out _ hww)
end Go.Proofs.YtagkgfniihiinaaGreatDoor
