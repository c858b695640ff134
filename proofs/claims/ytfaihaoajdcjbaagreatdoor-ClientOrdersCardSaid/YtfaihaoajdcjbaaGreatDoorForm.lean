/- Is a value's text, or list, as its kind asks? -/
import Derived.Test.YtfaihaoajdcjbaaGreatDoorJ10
import Derived.Test.YtfaihaoajdcjbaaGreatDoorCrlfB
import Derived.Shelf.Strings.SlTrimAscii
set_option linter.all false
namespace Go.Proofs.YtfaihaoajdcjbaaGreatDoor
open Go.RowKit Go.Shelf Go.Lib
abbrev Ea:List UInt8:=[48,49,50,51,52,53,54,55,56,57]
def bigB (s:ByteArray):Bool:=!(Lib.trimPrefix s.data.toList [45]).isEmpty && (Lib.trimS (Lib.trimPrefix s.data.toList [45]) Ea).isEmpty
theorem trim_any (s:ByteArray) (w:World) (hs:s.size<=9223372036854775807):Calls Tryz.prog 168 #[.string s,.string ⟨#[48,49,50,51,52,53,54,55,56,57]⟩] w fun e w' => e=.returned (.string ⟨(Lib.trimS s.data.toList Ea).toArray⟩)/\Below w.heap.size w w' :=
 Any.strings_Trim_laid Tryz.lays160 (by kernel_rfl) s ⟨#[48,49,50,51,52,53,54,55,56,57]⟩ w hs (by decide) (ascii_of_all (by decide))
theorem E8 (l p:List UInt8):(Lib.trimPrefix l p).length<=l.length:=by
 unfold Lib.trimPrefix;split
 · simp
 · exact Nat.le_refl _
theorem big_any (s:ByteArray) (w:World) (hs:s.size<=9223372036854775807):Calls Tryz.prog 154 #[.string s] w fun e w' => e=.returned (.bool (bigB s))/\Below w.heap.size w w' := by
 have hp:=Tryz.strings_TrimPrefix s ⟨#[45]⟩ w;have hl:=E8 s.data.toList [45];have e1:(ByteArray.mk #[45]).data.toList=[45]:=rfl;rw [e1] at hp;unfold bigB;have hsl:s.data.toList.length=s.size:=by simp
 rw [hsl] at hl;obtain ⟨t,ht⟩:∃t:ByteArray,t=⟨(Lib.trimPrefix s.data.toList [45]).toArray⟩:=⟨_,rfl⟩;have ht' : Lib.trimPrefix s.data.toList [45]=t.data.toList:=by rw [ht]
 rw [ht'] at hl ⊢;rw [<-ht] at hp
 have htr:=trim_any t w (by have:t.data.toList.length=t.size:=by simp
                            omega)
 have hte:t.toList=t.data.toList:=Lib.toList_data t;obtain ⟨u,hu⟩:∃u:ByteArray,u=⟨(Lib.trimS t.data.toList Ea).toArray⟩:=⟨_,rfl⟩;have hu' : Lib.trimS t.data.toList Ea=u.data.toList:=by rw [hu]
 rw [hu'] at ⊢;rw [<-hu] at htr;have hue:u.toList=u.data.toList:=Lib.toList_data u;rw [<-hte,<-hue];replace hp:=Hd hp;replace htr:=Hd htr;clear ht ht' hl e1 hsl hte hu hu' hue;by_cases h1:t.toList=[]
 · have h1' : t.toList.isEmpty=true:=by simp [h1]
   have h1'' : (!t.toList.isEmpty)=false:=by simp [h1]
   go_enter Tryz.func154,Tryz.ntmps154
   go_wp2_with (go_at_call 167;refine hp.out.mono ?_;rintro e w' ⟨rfl,hw⟩;rw [hw])
   go_ret;exact ⟨by simp [h1],Below.refl _ _⟩
 · have h1' : t.toList.isEmpty=false:=by simp [h1]
   have h1'' : (!t.toList.isEmpty)=true:=by simp [h1]
   go_enter Tryz.func154,Tryz.ntmps154
   go_wp2_with (first | (go_at_call 167;refine hp.out.mono ?_;rintro e w' ⟨rfl,hw⟩;rw [hw]) | (go_at_call 168;refine htr.out.mono ?_;rintro e w1 ⟨rfl,hb⟩))
   go_ret;exact ⟨by simp [h1],hb⟩
def Eg (s:ByteArray):Bool:=if h:3<s.size then s[3]'h == 58 else false
def Bv (k:Int) (t:ByteArray) (n:Nat):Bool:=
 if k=1\/k=2 then !crlfB t else if k=9 then bigB t else if k=11 then Eg t else if k=12 then decide (n % 2=0) else if k=14 then decide (0<n) else true
set_option maxHeartbeats 1600000 in
theorem Dh (k:Int) (t:ByteArray) (i:Int) (r:Nat) (f:Bool) (a:Option Addr) (n cap:Nat) (w:World) (ht:t.size<=9223372036854775807) (hn:n<=100000) :
   Calls Tryz.prog 140 #[.agg #[.int .i64 k,.string t,.int .i64 i,.float .f64 r,.bool f,.slice a n cap]] w fun e w' => e=.returned (.bool (Bv k t n))/\Below w.heap.size w w' := by
 have hal:=Hd (fun (o:Obj)=>(Below.refl w.heap.size w).alloc (Nat.le_refl _) o);have hca:=Hd (fun (W:World)=>cany_any t W ht);have hbg:=Hd (fun (W:World)=>big_any t W ht);rcases (by omega:k=1\/k=2\/k=9\/k=11\/k=12\/k=14\/(k≠1/\k≠2/\k≠9/\k≠11/\k≠12/\k≠14)) with rfl | rfl | rfl | rfl | rfl | rfl | h
 · rw [show Bv 1 t n=!crlfB t by simp [Bv]]
   go_enter Tryz.func140,Tryz.ntmps140
   go_wp2_with fail
   refine (hca.out _).mono ?_;rintro e w1 ⟨rfl,hb⟩;have hbb:=(hal.out (.cells #[.int .i64 1,.string t,.int .i64 i,.float .f64 r,.bool f,.slice a n cap] 40)).trans (hb.mono (by simp));go_wp2;go_ret;exact ⟨rfl,hbb⟩
 · rw [show Bv 2 t n=!crlfB t by simp [Bv]]
   go_enter Tryz.func140,Tryz.ntmps140
   go_wp2_with fail
   refine (hca.out _).mono ?_;rintro e w1 ⟨rfl,hb⟩;have hbb:=(hal.out (.cells #[.int .i64 2,.string t,.int .i64 i,.float .f64 r,.bool f,.slice a n cap] 40)).trans (hb.mono (by simp));go_wp2;go_ret;exact ⟨rfl,hbb⟩
 · rw [show Bv 9 t n=bigB t by simp [Bv]]
   go_enter Tryz.func140,Tryz.ntmps140
   go_wp2_with fail
   refine (hbg.out _).mono ?_;rintro e w1 ⟨rfl,hb⟩;have hbb:=(hal.out (.cells #[.int .i64 9,.string t,.int .i64 i,.float .f64 r,.bool f,.slice a n cap] 40)).trans (hb.mono (by simp));go_wp2;go_ret;exact ⟨rfl,hbb⟩
 · rw [show Bv 11 t n=Eg t by simp [Bv]]
   by_cases h3:3<t.size
   · obtain ⟨b,hb⟩:∃b,t[3]'h3=b:=⟨_,rfl⟩
     rw [show Eg t=(b == 58) by rw [Eg,dif_pos h3,hb]];have h3i:(3:Int)<(t.size:Int):=by omega
     go_enter Tryz.func140,Tryz.ntmps140
     go_wp2;go_ret;refine ⟨?_,hal.out _⟩;have:((b.toNat:Int) == 58)=(b == 58):=by
       rw [Bool.eq_iff_iff];simp;constructor
       · intro h;exact UInt8.toNat_inj.1 (by simpa using (by omega:b.toNat=58))
       · intro h;subst h;rfl
     simp [<-this]
   · rw [show Eg t=false by rw [Eg,dif_neg h3]]
     have h3i:¬(3:Int)<(t.size:Int):=by omega
     go_enter Tryz.func140,Tryz.ntmps140
     go_wp2;go_ret;exact ⟨rfl,hal.out _⟩
 · rw [show Bv 12 t n=decide (n % 2=0) by simp [Bv]]
   go_enter Tryz.func140,Tryz.ntmps140
   go_wp2;go_ret;refine ⟨?_,hal.out _⟩;have:(((n:Int) % 2) == 0)=decide (n % 2=0):=by
     rw [Bool.eq_iff_iff];simp;omega
   simp [<-this]
 · rw [show Bv 14 t n=decide (0<n) by simp [Bv]]
   go_enter Tryz.func140,Tryz.ntmps140
   go_wp2;go_ret;refine ⟨?_,hal.out _⟩;simp
 · obtain ⟨q1,q2,q9,q11,q12,q14⟩:=h
   rw [show Bv k t n=true by simp [Bv,q1,q2,q9,q11,q12,q14]];have h1:(k == 1)=false:=by simpa using q1
   have h2:(k == 2)=false:=by simpa using q2
   have h9:(k == 9)=false:=by simpa using q9
   have h11:(k == 11)=false:=by simpa using q11
   have h12:(k == 12)=false:=by simpa using q12
   have h14:(k == 14)=false:=by simpa using q14
   clear q1 q2 q9 q11 q12 q14
   go_enter Tryz.func140,Tryz.ntmps140
   go_wp2;go_ret;exact ⟨rfl,hal.out _⟩
end Go.Proofs.YtfaihaoajdcjbaaGreatDoor
