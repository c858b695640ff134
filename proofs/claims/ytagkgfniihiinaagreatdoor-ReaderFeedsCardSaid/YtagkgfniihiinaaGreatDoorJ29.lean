/- The document's reader: a line, a number, a mark's kind. -/
import Derived.Test.YtagkgfniihiinaaGreatDoorJ81
import Derived.Test.YtagkgfniihiinaaGreatDoorJ54
set_option linter.all false
namespace Go.Proofs.YtagkgfniihiinaaGreatDoor
open Go.RowKit
def numI (t:List UInt8) (most:Nat):Int:=match numS t most with | some k=>(k:Int) | none=>-1
set_option maxRecDepth 100000 in
theorem Eb {w:World} {t:ByteArray} {most:Nat} (ht:t.size<=1000000) (hm:most<=100000) :
   Calls Tryz.prog 74 #[.string t,.int .i64 (most:Int)] w fun e w' => e=.returned (.int .i64 (numI t.data.toList most))/\Below w.heap.size w w' := by
 have hp:=parse01_any t (by omega) w
 unfold numI numS
 cases hw:wP t.data.toList with
 | none=>
   rw [hw] at hp;have hp2:Calls Tryz.prog 91 #[.string t] w fun e w' => e=.returned (.tuple #[.int .i64 0,.int .i64 11])/\Below w.heap.size w w' := hp;clear hp hw;replace hp2:=Hd hp2
   go_enter Tryz.func74,Tryz.ntmps74
   go_wp2_with fail
   refine hp2.out.mono ?_;rintro e w' ⟨rfl,hb⟩;go_wp2;go_ret;exact ⟨rfl,hb⟩
 | some v=>
   rw [hw] at hp;have hp2:Calls Tryz.prog 91 #[.string t] w fun e w' => e=.returned (.tuple #[.int .i64 v,.int .i64 0])/\Below w.heap.size w w' := hp;have hv:=(wP_iff.1 hw).1;clear hp hw;replace hp2:=Hd hp2;dsimp only;by_cases h1:v<0
   · rw [if_neg (by omega)]
     go_enter Tryz.func74,Tryz.ntmps74
     go_wp2_with fail
     refine hp2.out.mono ?_;rintro e w' ⟨rfl,hb⟩;go_wp2;go_ret;exact ⟨rfl,hb⟩
   · by_cases h2:(most:Int)<v
     · rw [if_neg (by omega)]
       go_enter Tryz.func74,Tryz.ntmps74
       go_wp2_with fail
       refine hp2.out.mono ?_;rintro e w' ⟨rfl,hb⟩;go_wp2;go_ret;exact ⟨rfl,hb⟩
     · rw [if_pos ⟨by omega,by omega⟩]
       have h3:IntKind.i64.wrap v=v:=IntWalk.i64_in _ hv;obtain ⟨k,rfl⟩:∃k:Nat,v=(k:Int):=⟨v.toNat,by omega⟩
       go_enter Tryz.func74,Tryz.ntmps74
       go_wp2_with fail
       refine hp2.out.mono ?_;rintro e w' ⟨rfl,hb⟩;go_wp2;go_ret;exact ⟨by simp,hb⟩
theorem A7 {L t:List UInt8} {u:Nat} (h:Aw L=.got (t,u)):u<=L.length/\0<u/\t.length<=4200:=by
 unfold Aw at h;obtain ⟨R,hR⟩:∃R,R=L.take 4200:=⟨_,rfl⟩;have hRl:R.length<=L.length:=by rw [hR,List.length_take];omega
 have hR4:R.length<=4200:=by rw [hR,List.length_take];omega
 rw [<-hR] at h;dsimp only at h;split at h
 · cases h
 · split at h
   · cases h
   · rename_i hn hz
     simp only [Out.got.injEq,Prod.mk.injEq] at h;obtain ⟨rfl,rfl⟩:=h;refine ⟨?_,?_,?_⟩
     · rcases Be R 10 with h1 | h1
       · omega
       · subst h1
         exact absurd (show Lib.indexByte ([]:List UInt8) 10<0 by decide) hz
     · omega
     · rw [List.length_take];omega
theorem numS_leG {t:List UInt8} {most n:Nat} (h:numS t most=some n):n<=most:=by
 unfold numS at h;split at h
 · split at h
   · rename_i v _ hv
     simp only [Option.some.injEq] at h;omega
   · cases h
 · cases h
theorem longS_len {L s:List UInt8} {k:Nat} (h:Bw L k=.got s):k+2<=L.length/\s.length=k:=by
 unfold Bw at h;split at h
 · cases h
 · split at h
   · cases h
   · simp only [Out.got.injEq] at h
     subst h;rw [List.length_take];omega
theorem shortO_leaf {ro:Option Nat} {k:Nat} {t:ByteArray} {v:V} (hro:∀r,ro=some r->r<18446744073709551616) (h:Cd ro k t=some v) (hk:k<=14) (hl:Ak (k:Int)=false):v.ranged/\v.list=[]/\v.kind≠14/\Ak v.kind=false:=by
 have leaf:∀(k:Int) (t:ByteArray) (i:Int) (r:Nat) (f:Bool),-9223372036854775808<=i->i<=9223372036854775807->r<18446744073709551616->k≠14->Ak k=false->(Ao k t i r f).ranged/\(Ao k t i r f).list=[]/\(Ao k t i r f).kind≠14/\Ak (Ao k t i r f).kind=false:=fun k t i r f a b c d e=>⟨⟨a,b,c,trivial⟩,rfl,d,e⟩;unfold Cd at h;split at h
 · rename_i h1
   simp only [Option.some.injEq] at h;subst h;exact leaf _ _ _ _ _ (by decide) (by decide) (by decide) (by omega) hl
 · split at h
   · rw [Option.map_eq_some_iff] at h
     obtain ⟨n,hn,rfl⟩:=h;have:=(wP_iff.1 hn).1;exact leaf _ _ _ _ _ this.1 this.2 (by decide) (by decide) (by decide)
   · split at h
     · rw [Option.map_eq_some_iff] at h
       obtain ⟨r,hr,rfl⟩:=h;exact leaf _ _ _ _ _ (by decide) (by decide) (hro r hr) (by decide) (by decide)
     · split at h
       · split at h
         · simp only [Option.some.injEq] at h
           subst h;exact leaf _ _ _ _ _ (by decide) (by decide) (by decide) (by decide) (by decide)
         · split at h
           · simp only [Option.some.injEq] at h
             subst h;exact leaf _ _ _ _ _ (by decide) (by decide) (by decide) (by decide) (by decide)
           · cases h
       · split at h
         · simp only [Option.some.injEq] at h
           subst h;exact leaf _ _ _ _ _ (by decide) (by decide) (by decide) (by decide) (by decide)
         · cases h
theorem ite_le {p:Prop} [Decidable p] {a b n:Nat} (h:a<=n) (h' : b<=n):(if p then a else b)<=n:=by split<;>assumption
theorem kindR_le (c:UInt8):Ac c<=14:=by
 unfold Ac;iterate 14 (refine ite_le ?_ ?_;· decide)
 decide
structure LeafG (L:List UInt8) (v:V) (u:Nat):Prop where
 ok:okV v=true
 ranged:v.ranged
 list:v.list=[]
 kind:v.kind≠14
 leaf:Ak v.kind=false
 pos:0<u
 len:u<=L.length
theorem F7 {rp:Rp} (hrp:∀t r,rp t=some r->r<18446744073709551616) {L:List UInt8} {v:V} {u:Nat} (h:A1 rp L=.leaf v u):LeafG L v u:=by
 cases L with
 | nil=>unfold A1 at h;cases h
 | cons c L=>
   unfold A1 at h;dsimp only at h;by_cases hk0:Ac c=0
   · rw [if_pos hk0] at h;cases h
   rw [if_neg hk0] at h;cases hl:Aw L with
   | stop e=>rw [hl] at h;cases h
   | got p=>
     obtain ⟨t,u'⟩:=p;rw [hl] at h;dsimp only at h;obtain ⟨l1,l2,l3⟩:=A7 hl;by_cases hm:t=[45,49]/\(Ac c=4\/Ac c=5)
     · rw [if_pos hm] at h
       simp only [Head.leaf.injEq] at h;obtain ⟨rfl,rfl⟩:=h;exact ⟨E5,⟨by decide,by decide,by decide,trivial⟩,rfl,by decide,by decide,by omega,by rw [List.length_cons];omega⟩
     rw [if_neg hm] at h;by_cases hk:Ac c=4\/Ac c=10\/Ac c=11
     · rw [if_pos hk] at h
       cases hn:numS t 4096 with
       | none=>rw [hn] at h;cases h
       | some n=>
         rw [hn] at h;dsimp only at h;cases hs:Bw (L.drop u') n with
         | stop e=>rw [hs] at h;cases h
         | got s=>
           rw [hs] at h;dsimp only at h;obtain ⟨s1,s2⟩:=longS_len hs;rw [List.length_drop] at s1;by_cases ok:okV (Ao (Ac c) ⟨s.toArray⟩ 0 0 false)=true
           · rw [if_pos ok] at h
             simp only [Head.leaf.injEq] at h;obtain ⟨rfl,rfl⟩:=h;exact ⟨ok,⟨by decide,by decide,by decide,trivial⟩,rfl,by show ((Ac c:Nat):Int)≠14;omega,by show Ak ((Ac c:Nat):Int)=false;unfold Ak;rw [decide_eq_false_iff_not];omega,by omega,by rw [List.length_cons];omega⟩
           · rw [if_neg ok] at h;cases h
     rw [if_neg hk] at h;by_cases hk2:Ac c=5\/Ac c=13\/Ac c=14
     · rw [if_pos hk2] at h
       cases hn:numS t 1000 with
       | none=>rw [hn] at h;cases h
       | some n=>rw [hn] at h;cases h
     rw [if_neg hk2] at h;by_cases hk3:Ac c=12
     · rw [if_pos hk3] at h
       cases hn:numS t 1000 with
       | none=>rw [hn] at h;cases h
       | some n=>rw [hn] at h;cases h
     rw [if_neg hk3] at h;cases hv:Cd (rp t) (Ac c) ⟨t.toArray⟩ with
     | none=>rw [hv] at h;cases h
     | some v' =>
       rw [hv] at h;dsimp only at h;by_cases ok:okV v' = true
       · rw [if_pos ok] at h
         simp only [Head.leaf.injEq] at h;obtain ⟨rfl,rfl⟩:=h;obtain ⟨r1,r2,r3,r4⟩:=shortO_leaf (fun r hr=>hrp _ r hr) hv (kindR_le c) (by unfold Ak;rw [decide_eq_false_iff_not];omega);exact ⟨ok,r1,r2,r3,r4,by omega,by rw [List.length_cons];omega⟩
       · rw [if_neg ok] at h;cases h
theorem head_listG {rp:Rp} {L:List UInt8} {kd n u:Nat} (h:A1 rp L=.list kd n u):(kd=5\/kd=12\/kd=13\/kd=14)/\(kd=12->n % 2=0)/\0<u/\u<=L.length:=by
 cases L with
 | nil=>unfold A1 at h;cases h
 | cons c L=>
   unfold A1 at h;dsimp only at h;by_cases hk0:Ac c=0
   · rw [if_pos hk0] at h;cases h
   rw [if_neg hk0] at h;cases hl:Aw L with
   | stop e=>rw [hl] at h;cases h
   | got p=>
     obtain ⟨t,u'⟩:=p;rw [hl] at h;dsimp only at h;obtain ⟨l1,l2,l3⟩:=A7 hl;rw [List.length_cons];by_cases hm:t=[45,49]/\(Ac c=4\/Ac c=5)
     · rw [if_pos hm] at h;cases h
     rw [if_neg hm] at h;by_cases hk:Ac c=4\/Ac c=10\/Ac c=11
     · rw [if_pos hk] at h
       cases hn:numS t 4096 with
       | none=>rw [hn] at h;cases h
       | some n=>
         rw [hn] at h;dsimp only at h;cases hs:Bw (L.drop u') n with
         | stop e=>rw [hs] at h;cases h
         | got s=>
           rw [hs] at h;dsimp only at h;by_cases ok:okV (Ao (Ac c) ⟨s.toArray⟩ 0 0 false)=true
           · rw [if_pos ok] at h;cases h
           · rw [if_neg ok] at h;cases h
     rw [if_neg hk] at h;by_cases hk2:Ac c=5\/Ac c=13\/Ac c=14
     · rw [if_pos hk2] at h
       cases hn:numS t 1000 with
       | none=>rw [hn] at h;cases h
       | some n=>
         rw [hn] at h;simp only [Head.list.injEq] at h;obtain ⟨rfl,rfl,rfl⟩:=h;exact ⟨by omega,fun h=>by omega,by omega,by omega⟩
     rw [if_neg hk2] at h;by_cases hk3:Ac c=12
     · rw [if_pos hk3] at h
       cases hn:numS t 1000 with
       | none=>rw [hn] at h;cases h
       | some n=>
         rw [hn] at h;simp only [Head.list.injEq] at h;obtain ⟨rfl,rfl,rfl⟩:=h;exact ⟨by omega,fun h=>by omega,by omega,by omega⟩
     rw [if_neg hk3] at h;cases hv:Cd (rp t) (Ac c) ⟨t.toArray⟩ with
     | none=>rw [hv] at h;cases h
     | some v' =>
       rw [hv] at h;dsimp only at h;by_cases ok:okV v' = true
       · rw [if_pos ok] at h;cases h
       · rw [if_neg ok] at h;cases h
structure ReadG (lv many:Nat) (L:List UInt8) (v:V) (u m:Nat):Prop where
 fine:v.fine (lv:Int)=true
 ranged:v.ranged
 push:v.kind=14->8<=lv
 all:m+1=many+v.count
 pos:0<u
 len:u<=L.length
 most:many<=1000->m<=1000
theorem leaf_read {lv many u:Nat} {L:List UInt8} {v:V} (h:LeafG L v u):ReadG lv many L v u many:=by
 refine ⟨?_,h.ranged,fun e=>absurd e h.kind,?_,h.pos,h.len,fun h=>h⟩
 · rw [V.fine_eq,h.ok,h.leaf,h.list];rfl
 · rw [V.count_eq,h.list];rfl
theorem scanN_good {lv:Nat} (hlv:lv<8) {f:Nat->List UInt8->Out (V × Nat × Nat)} (hf:∀many L v u m,f many L=.got (v,u,m)->ReadG lv many L v u m) :
   ∀(n many:Nat) (L:List UInt8) (l:List V) (u m:Nat),Ba f n many L=.got (l,u,m)->l.length=n/\(∀x∈l,x.kind≠14/\x.fine (lv:Int)=true/\x.ranged)/\m+n=many+V.countL l/\u<=L.length/\(many<=1000->m<=1000)
 | 0,many,L,l,u,m,h=>by
   unfold Ba at h;simp only [Out.got.injEq,Prod.mk.injEq] at h;obtain ⟨rfl,rfl,rfl⟩:=h;exact ⟨rfl,(by simp),rfl,Nat.zero_le _,fun h=>h⟩
 | n+1,many,L,l,u,m,h=>by
   unfold Ba at h;split at h
   · cases h
   · rename_i v u1 m1 h1
     split at h
     · cases h
     · rename_i l2 u2 m2 h2
       simp only [Out.got.injEq,Prod.mk.injEq] at h;obtain ⟨rfl,rfl,rfl⟩:=h;have g:=hf _ _ _ _ _ h1;obtain ⟨k1,k2,k3,k4,k5⟩:=scanN_good hlv hf n m1 _ _ _ _ h2;rw [List.length_drop] at k4;have g1:=g.all;have g2:=g.len;have hc:=v.count_pos;refine ⟨by rw [List.length_cons,k1],fun x hx=>?_,?_,by omega,fun h=>k5 (g.most h)⟩
       · rcases List.mem_cons.1 hx with rfl | hx
         · exact ⟨fun e=>by have:=g.push e;omega,g.fine,g.ranged⟩
         · exact k2 x hx
       · rw [V.countL];omega
theorem fineL_of {l:List V} {d:Int} (h:∀x∈l,x.kind≠14/\x.fine d=true):V.fineL l d=true:=by
 induction l with
 | nil=>rfl
 | cons y l ih=>
   rw [V.fineL,Bool.and_eq_true,Bool.and_eq_true,decide_eq_true_eq];exact ⟨⟨(h y (by simp)).1,(h y (by simp)).2⟩,ih fun x hx=>h x (by simp [hx])⟩
theorem list_ok {kd:Nat} {l:List V} (hk:kd=5\/kd=12\/kd=13\/kd=14) (h12:kd=12->l.length % 2=0) (h14:kd=14->0<l.length):okV (.mk (kd:Int) ⟨#[]⟩ 0 0 false l)=true:=by
 have hn:∀k:Int,Ak k=true->Bi (Bj k) (numK k) (Bn k) (Bq k) (Ak k) (.mk k ⟨#[]⟩ 0 0 false l)=true:=fun k hk=>by
   have hb:Cn 0=0:=by decide +kernel
   have he:Ec ⟨#[]⟩=true:=by decide +kernel
   unfold Bi;simp only [V.text,V.int,V.real,V.flag,hk,hb,he];simp
 unfold okV Bz;show (Cc (kd:Int) && Bi (Bj (kd:Int)) (numK (kd:Int)) (Bn (kd:Int)) (Bq (kd:Int)) (Ak (kd:Int)) (.mk (kd:Int) ⟨#[]⟩ 0 0 false l) && Bv (kd:Int) ⟨#[]⟩ l.length && decide ((⟨#[]⟩:ByteArray).size<=4096))=true;rcases hk with rfl | rfl | rfl | rfl
 · rw [hn _ (by decide)];rfl
 · rw [hn _ (by decide),show Bv ((12:Nat):Int) ⟨#[]⟩ l.length=true from decide_eq_true (h12 rfl)];rfl
 · rw [hn _ (by decide)];rfl
 · rw [hn _ (by decide),show Bv ((14:Nat):Int) ⟨#[]⟩ l.length=true from decide_eq_true (h14 rfl)];rfl
theorem Dr {rp:Rp} (hrp:∀t r,rp t=some r->r<18446744073709551616):∀(lv:Nat),lv<=8->∀(many:Nat) (L:List UInt8) (v:V) (u m:Nat),At rp lv many L=.got (v,u,m)->ReadG lv many L v u m
 | 0,_,many,L,v,u,m,h=>by
   unfold At at h;split at h
   · cases h
   · rename_i v' u' hh
     simp only [Out.got.injEq,Prod.mk.injEq] at h;obtain ⟨rfl,rfl,rfl⟩:=h;exact leaf_read (F7 hrp hh)
   · cases h
 | lv+1,hlv,many,L,v,u,m,h=>by
   unfold At at h;split at h
   · cases h
   · rename_i v' u' hh
     simp only [Out.got.injEq,Prod.mk.injEq] at h;obtain ⟨rfl,rfl,rfl⟩:=h;exact leaf_read (F7 hrp hh)
   · rename_i kd n u1 hh
     obtain ⟨h1,h2,h3,h4⟩:=head_listG hh;split at h
     · cases h
     · rename_i hc
       split at h
       · cases h
       · rename_i l u2 m2 hs
         simp only [Out.got.injEq,Prod.mk.injEq] at h;obtain ⟨rfl,rfl,rfl⟩:=h;obtain ⟨k1,k2,k3,k4,k5⟩:=scanN_good (by omega) (fun many L v u m=>Dr hrp lv (by omega) many L v u m) n (many+n) _ _ _ _ hs;rw [List.length_drop] at k4;refine ⟨?_,?_,?_,?_,by omega,by omega,fun _=>k5 (by omega)⟩
         · rw [V.fine_eq]
           show (okV (.mk (kd:Int) ⟨#[]⟩ 0 0 false l) && (!Ak (kd:Int) || decide (1<=((lv+1:Nat):Int))) && V.fineL l (((lv+1:Nat):Int) - 1))=true;rw [list_ok h1 (fun e=>by rw [k1];exact h2 e) (fun e=>by rw [k1];omega),show ((lv+1:Nat):Int) - 1=(lv:Int) by omega,fineL_of fun x hx=>⟨(k2 x hx).1,(k2 x hx).2.1⟩,decide_eq_true (show 1<=((lv+1:Nat):Int) by omega),Bool.or_true];rfl
         · rw [V.ranged_eq]
           exact ⟨by show (-9223372036854775808:Int)<=0;decide,by show (0:Int)<=9223372036854775807;decide,by show (0:Nat)<18446744073709551616;decide,rangedL_of fun x hx=>(k2 x hx).2.2⟩
         · intro e
           have:kd=14:=by have:(kd:Int)=14:=e;omega
           omega
         · rw [V.count]
           omega
end Go.Proofs.YtagkgfniihiinaaGreatDoor
