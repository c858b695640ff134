/- The text of any number is a number's text, its digits lie nearest to that number, and unlike numbers have unlike texts: plain. -/
import Derived.Test.YtagkgfniihiinaaGreatDoorJ45
import Derived.Deep.AppendLies
import Derived.Test.YtagkgfniihiinaaGreatDoorJ69
import Derived.Lib.SmallJoins
set_option linter.all false
namespace Go.Proofs.YtagkgfniihiinaaGreatDoor
theorem size_l (s:ByteArray):s.size=s.data.toList.length:=by rw [Array.length_toList];rfl
theorem exp_head {X:List UInt8} {x:Int} (h:ExpAt X x):∀c l,X=c :: l->c=101:=by
 intro c l e;cases h with
 | none=>cases e
 | bare _ _=>cases e;rfl
 | plus _ _=>cases e;rfl
 | minus _ _=>cases e;rfl
theorem exp_okC {X:List UInt8} {x:Int} (h:ExpAt X x):∀b∈X,okC b:=by
 intro b hb;cases h with
 | none=>cases hb
 | bare _ hd=>
   rcases List.mem_cons.1 hb with rfl | hb
   · exact .inr (.inr (.inl rfl))
   · exact .inl (hd b hb)
 | plus _ hd=>
   rcases List.mem_cons.1 hb with rfl | hb
   · exact .inr (.inr (.inl rfl))
   · rcases List.mem_cons.1 hb with rfl | hb
     · exact .inr (.inr (.inr (.inl rfl)))
     · exact .inl (hd b hb)
 | minus _ hd=>
   rcases List.mem_cons.1 hb with rfl | hb
   · exact .inr (.inr (.inl rfl))
   · rcases List.mem_cons.1 hb with rfl | hb
     · exact .inr (.inr (.inr (.inr rfl)))
     · exact .inl (hd b hb)
def fracL (fr:Bool) (F:List UInt8):List UInt8:=if fr then 46 :: F else []
theorem scan_exp {X:List UInt8} {x:Int} (h:ExpAt X x) (d:Bool) (L:List UInt8) (m:Nat):B0 X d L m=(d,L,m,X):=by
 cases hx:X with
 | nil=>rfl
 | cons c l=>
   have:=exp_head h c l hx;subst this;rw [B0,if_neg (by decide),if_neg (by decide)]
theorem scan_form {A F X:List UInt8} {fr:Bool} {x:Int} (hAd:∀c∈A,isD c=true) (hF:fr=false->F=[]) (hFd:∀c∈F,isD c=true) (hX:ExpAt X x) :
   B0 (A++(fracL fr F++X)) false [] 0=(fr,A++F,if fr then F.length else A.length,X):=by
 rw [Eu hAd,List.nil_append,Nat.zero_add]
 cases fr
 · rw [hF rfl]
   show B0 X false A A.length=_;rw [scan_exp hX,List.append_nil];rfl
 · show B0 (46 :: (F++X)) false A A.length=_
   rw [B0,if_pos (by decide),if_neg (by decide),Eu hFd,scan_exp hX,Nat.zero_add];rfl
theorem txt_form {s:ByteArray} {A F X:List UInt8} {fr:Bool} {x:Int} {neg:Bool} (hs:s.data.toList=signL neg++(A++(fracL fr F++X))) (hz:s.size<=1000) (hA:A≠[]) (hAd:∀c∈A,isD c=true) (hF:fr=false->F=[])
   (hFd:∀c∈F,isD c=true) (hX:ExpAt X x):FTxt s neg fr (A++F) (if fr then F.length else A.length) x/\∃c l,s.data.toList=(if neg then [45] else [])++c :: l/\isD c=true:=by
 cases hAe:A with
 | nil=>exact absurd hAe hA
 | cons c T=>
   have hc:=hAd c (by rw [hAe];exact List.mem_cons_self ..);have e:A++(fracL fr F++X)=c :: (T++(fracL fr F++X)):=by rw [hAe];rfl
   rw [<-hAe];refine ⟨⟨⟨c,T++(fracL fr F++X),X,?_,hc,?_,hX,?_⟩,hz,fun e=>hA (List.append_eq_nil_iff.1 e).1⟩,c,T++(fracL fr F++X),?_,hc⟩
   · rw [hs,e];rfl
   · rw [<-e];exact scan_form hAd hF hFd hX
   · intro b hb
     rw [<-e] at hb;rcases List.mem_append.1 hb with hb | hb
     · exact .inl (hAd b hb)
     · rcases List.mem_append.1 hb with hb | hb
       · unfold fracL at hb
         cases fr
         · cases hb
         · rcases List.mem_cons.1 hb with rfl | hb
           · exact .inr (.inl rfl)
           · exact .inl (hFd b hb)
       · exact exp_okC hX b hb
   · rw [hs,e];rfl
end Go.Proofs.YtagkgfniihiinaaGreatDoor
