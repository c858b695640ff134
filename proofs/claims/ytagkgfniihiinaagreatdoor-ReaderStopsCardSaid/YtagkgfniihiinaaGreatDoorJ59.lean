/- The document's reader: a value that is a line. -/
import Derived.Test.YtagkgfniihiinaaGreatDoorJ101
set_option linter.all false
namespace Go.Proofs.YtagkgfniihiinaaGreatDoor
open Go.RowKit
theorem rleaf_any (k:Int) (t:ByteArray) (i:Int) (r:Nat) (f:Bool) (hk:Al k=false) (ht:t.size<=9223372036854775807) (w:World) :
  Calls Tryz.prog 18 #[.agg #[.int .i64 k,.string t,.int .i64 i,.float .f64 r,.bool f,.slice none 0 0]] w fun e w' => e=.returned (.bool (okV (Ar k t i r f)))/\Below w.heap.size w w' := by
 have h:=rright_any (Ar k t i r f) none 0 w (RV.leaf _ _ _ _ _ _ _ _) ((V.sized_eq _).2 ⟨ht,trivial⟩) (by simp [Ar,V.count,V.countL]);rw [<-right_check,leaf_check k t i r f hk] at h;have e:((if okV (Ar k t i r f)=true then (0:Int) else 31) == 0)=okV (Ar k t i r f):=by cases okV (Ar k t i r f)<;>rfl
 rw [e] at h;exact h
def singA (o:Option V):Ending:=match o with
 | some v=>if okV v=true then .returned (.tuple #[.agg #[.int .i64 v.kind,.string v.text,.int .i64 v.int,.float .f64 v.real,.bool v.flag,.slice none 0 0],.int .i64 0]) else .returned (.tuple #[.agg #[.int .i64 0,.string ⟨#[]⟩,.int .i64 0,.float .f64 0,.bool false,.slice none 0 0],.int .i64 2])
 | none=>.returned (.tuple #[.agg #[.int .i64 0,.string ⟨#[]⟩,.int .i64 0,.float .f64 0,.bool false,.slice none 0 0],.int .i64 2])
def SingQ (o:Option V) (w:World) (e:Ending) (w' : World):Prop:=e=singA o/\Below w.heap.size w w'
theorem singA_ok {k:Int} {t:ByteArray} {i:Int} {r:Nat} {f:Bool} (h:okV (Ar k t i r f)=true):Ending.returned (.tuple #[.agg #[.int .i64 k,.string t,.int .i64 i,.float .f64 r,.bool f,.slice none 0 0],.int .i64 0])=singA (some (Ar k t i r f)):=by
 unfold singA;dsimp only;rw [if_pos h];rfl
theorem singA_no {v:V} (h:okV v=false):Ending.returned (.tuple #[.agg #[.int .i64 0,.string ⟨#[]⟩,.int .i64 0,.float .f64 0,.bool false,.slice none 0 0],.int .i64 2])=singA (some v):=by
 unfold singA;dsimp only;rw [if_neg (by rw [h];decide)]
theorem Bb {L t:List UInt8} {u:Nat} (h:Az L=.got (t,u)):u<=L.length/\0<u/\t.length<=4200:=by
 unfold Az at h;obtain ⟨R,hR⟩:∃R,R=L.take 4200:=⟨_,rfl⟩;have hRl:R.length<=L.length:=by rw [hR,List.length_take];omega
 have hR4:R.length<=4200:=by rw [hR,List.length_take];omega
 rw [<-hR] at h;dsimp only at h;split at h
 ·cases h
 ·split at h
  ·cases h
  ·rename_i hn hz
   simp only [Out.got.injEq,Prod.mk.injEq] at h;obtain ⟨rfl,rfl⟩:=h;refine ⟨?_,?_,?_⟩
   ·rcases Bp R 10 with h1 | h1
    ·omega
    ·subst h1
     exact absurd (show Lib.indexByte ([]:List UInt8) 10<0 by decide) hz
   ·omega
   ·rw [List.length_take];omega
theorem numS_leG {t:List UInt8} {most n:Nat} (h:numS t most=some n):n<=most:=by
 unfold numS at h;split at h
 ·split at h
  ·rename_i v _ hv
   simp only [Option.some.injEq] at h;omega
  ·cases h
 ·cases h
theorem longS_len {L s:List UInt8} {k:Nat} (h:Cd L k=.got s):k+2<=L.length/\s.length=k:=by
 unfold Cd at h;split at h
 ·cases h
 ·split at h
  ·cases h
  ·simp only [Out.got.injEq] at h
   subst h;rw [List.length_take];omega
theorem shortO_leaf {ro:Option Nat} {k:Nat} {t:ByteArray} {v:V} (hro:∀r,ro=some r->r<18446744073709551616) (h:Bm ro k t=some v) (hk:k<=14) (hl:Al (k:Int)=false):v.ranged/\v.list=[]/\v.kind≠14/\Al v.kind=false:=by
 have g:∀(k:Int) (t:ByteArray) (i:Int) (r:Nat) (f:Bool),-9223372036854775808<=i->i<=9223372036854775807->r<18446744073709551616->k≠14->Al k=false->(Ar k t i r f).ranged/\(Ar k t i r f).list=[]/\(Ar k t i r f).kind≠14/\Al (Ar k t i r f).kind=false:=fun k t i r f a b c d e=>⟨⟨a,b,c,trivial⟩,rfl,d,e⟩;unfold Bm at h;split at h
 ·rename_i h1
  simp only [Option.some.injEq] at h;subst h;exact g _ _ _ _ _ (by decide) (by decide) (by decide) (by omega) hl
 ·split at h
  ·rw [Option.map_eq_some_iff] at h
   obtain ⟨n,hn,rfl⟩:=h;have:=(wP_iff.1 hn).1;exact g _ _ _ _ _ this.1 this.2 (by decide) (by decide) (by decide)
  ·split at h
   ·rw [Option.map_eq_some_iff] at h
    obtain ⟨r,hr,rfl⟩:=h;exact g _ _ _ _ _ (by decide) (by decide) (hro r hr) (by decide) (by decide)
   ·split at h
    ·split at h
     ·simp only [Option.some.injEq] at h
      subst h;exact g _ _ _ _ _ (by decide) (by decide) (by decide) (by decide) (by decide)
     ·split at h
      ·simp only [Option.some.injEq] at h
       subst h;exact g _ _ _ _ _ (by decide) (by decide) (by decide) (by decide) (by decide)
      ·cases h
    ·split at h
     ·simp only [Option.some.injEq] at h
      subst h;exact g _ _ _ _ _ (by decide) (by decide) (by decide) (by decide) (by decide)
     ·cases h
theorem ite_le {p:Prop} [Decidable p] {a b n:Nat} (h:a<=n) (h' : b<=n):(if p then a else b)<=n:=by split<;>assumption
theorem kindR_leG (c:UInt8):Ab c<=14:=by
 unfold Ab;iterate 14 (refine ite_le ?_ ?_;· decide)
 decide
structure LeafG (L:List UInt8) (v:V) (u:Nat):Prop where
 ok:okV v=true
 ranged:v.ranged
 list:v.list=[]
 kind:v.kind≠14
 leaf:Al v.kind=false
 pos:0<u
 len:u<=L.length
theorem head_leafG {rp:Rp} (hrp:∀t r,rp t=some r->r<18446744073709551616) {L:List UInt8} {v:V} {u:Nat} (h:A0 rp L=.leaf v u):LeafG L v u:=by
 cases L with
 | nil=>unfold A0 at h;cases h
 | cons c L=>
  unfold A0 at h;dsimp only at h;by_cases hk0:Ab c=0
  ·rw [if_pos hk0] at h;cases h
  rw [if_neg hk0] at h;cases hl:Az L with
  | stop e=>rw [hl] at h;cases h
  | got p=>
   obtain ⟨t,u'⟩:=p;rw [hl] at h;dsimp only at h;obtain ⟨l1,l2,l3⟩:=Bb hl;by_cases hm:t=[45,49]/\(Ab c=4\/Ab c=5)
   ·rw [if_pos hm] at h
    simp only [Head.leaf.injEq] at h;obtain ⟨rfl,rfl⟩:=h;exact ⟨okV_null,⟨by decide,by decide,by decide,trivial⟩,rfl,by decide,by decide,by omega,by rw [List.length_cons];omega⟩
   rw [if_neg hm] at h;by_cases hk:Ab c=4\/Ab c=10\/Ab c=11
   ·rw [if_pos hk] at h
    cases hn:numS t 4096 with
    | none=>rw [hn] at h;cases h
    | some n=>
     rw [hn] at h;dsimp only at h;cases hs:Cd (L.drop u') n with
     | stop e=>rw [hs] at h;cases h
     | got s=>
      rw [hs] at h;dsimp only at h;obtain ⟨s1,s2⟩:=longS_len hs;rw [List.length_drop] at s1;by_cases ok:okV (Ar (Ab c) ⟨s.toArray⟩ 0 0 false)=true
      ·rw [if_pos ok] at h
       simp only [Head.leaf.injEq] at h;obtain ⟨rfl,rfl⟩:=h;exact ⟨ok,⟨by decide,by decide,by decide,trivial⟩,rfl,by show ((Ab c:Nat):Int)≠14;omega,by show Al ((Ab c:Nat):Int)=false;unfold Al;rw [decide_eq_false_iff_not];omega,by omega,by rw [List.length_cons];omega⟩
      ·rw [if_neg ok] at h;cases h
   rw [if_neg hk] at h;by_cases hk2:Ab c=5\/Ab c=13\/Ab c=14
   ·rw [if_pos hk2] at h
    cases hn:numS t 1000 with
    | none=>rw [hn] at h;cases h
    | some n=>rw [hn] at h;cases h
   rw [if_neg hk2] at h;by_cases hk3:Ab c=12
   ·rw [if_pos hk3] at h
    cases hn:numS t 1000 with
    | none=>rw [hn] at h;cases h
    | some n=>rw [hn] at h;cases h
   rw [if_neg hk3] at h;cases hv:Bm (rp t) (Ab c) ⟨t.toArray⟩ with
   | none=>rw [hv] at h;cases h
   | some v' =>
    rw [hv] at h;dsimp only at h;by_cases ok:okV v' = true
    ·rw [if_pos ok] at h
     simp only [Head.leaf.injEq] at h;obtain ⟨rfl,rfl⟩:=h;obtain ⟨r1,r2,r3,r4⟩:=shortO_leaf (fun r hr=>hrp _ r hr) hv (kindR_leG c) (by unfold Al;rw [decide_eq_false_iff_not];omega);exact ⟨ok,r1,r2,r3,r4,by omega,by rw [List.length_cons];omega⟩
    ·rw [if_neg ok] at h;cases h
theorem head_listG {rp:Rp} {L:List UInt8} {kd n u:Nat} (h:A0 rp L=.list kd n u):(kd=5\/kd=12\/kd=13\/kd=14)/\(kd=12->n % 2=0)/\0<u/\u<=L.length:=by
 cases L with
 | nil=>unfold A0 at h;cases h
 | cons c L=>
  unfold A0 at h;dsimp only at h;by_cases hk0:Ab c=0
  ·rw [if_pos hk0] at h;cases h
  rw [if_neg hk0] at h;cases hl:Az L with
  | stop e=>rw [hl] at h;cases h
  | got p=>
   obtain ⟨t,u'⟩:=p;rw [hl] at h;dsimp only at h;obtain ⟨l1,l2,l3⟩:=Bb hl;rw [List.length_cons];by_cases hm:t=[45,49]/\(Ab c=4\/Ab c=5)
   ·rw [if_pos hm] at h;cases h
   rw [if_neg hm] at h;by_cases hk:Ab c=4\/Ab c=10\/Ab c=11
   ·rw [if_pos hk] at h
    cases hn:numS t 4096 with
    | none=>rw [hn] at h;cases h
    | some n=>
     rw [hn] at h;dsimp only at h;cases hs:Cd (L.drop u') n with
     | stop e=>rw [hs] at h;cases h
     | got s=>
      rw [hs] at h;dsimp only at h;by_cases ok:okV (Ar (Ab c) ⟨s.toArray⟩ 0 0 false)=true
      ·rw [if_pos ok] at h;cases h
      ·rw [if_neg ok] at h;cases h
   rw [if_neg hk] at h;by_cases hk2:Ab c=5\/Ab c=13\/Ab c=14
   ·rw [if_pos hk2] at h
    cases hn:numS t 1000 with
    | none=>rw [hn] at h;cases h
    | some n=>
     rw [hn] at h;simp only [Head.list.injEq] at h;obtain ⟨rfl,rfl,rfl⟩:=h;exact ⟨by omega,fun h=>by omega,by omega,by omega⟩
   rw [if_neg hk2] at h;by_cases hk3:Ab c=12
   ·rw [if_pos hk3] at h
    cases hn:numS t 1000 with
    | none=>rw [hn] at h;cases h
    | some n=>
     rw [hn] at h;simp only [Head.list.injEq] at h;obtain ⟨rfl,rfl,rfl⟩:=h;exact ⟨by omega,fun h=>by omega,by omega,by omega⟩
   rw [if_neg hk3] at h;cases hv:Bm (rp t) (Ab c) ⟨t.toArray⟩ with
   | none=>rw [hv] at h;cases h
   | some v' =>
    rw [hv] at h;dsimp only at h;by_cases ok:okV v' = true
    ·rw [if_pos ok] at h;cases h
    ·rw [if_neg ok] at h;cases h
structure ReadG (lv many:Nat) (L:List UInt8) (v:V) (u m:Nat):Prop where
 fine:v.fine (lv:Int)=true
 ranged:v.ranged
 push:v.kind=14->8<=lv
 all:m+1=many+v.count
 pos:0<u
 len:u<=L.length
 most:many<=1000->m<=1000
theorem leaf_read {lv many u:Nat} {L:List UInt8} {v:V} (h:LeafG L v u):ReadG lv many L v u many:=by
 refine ⟨?_,h.ranged,fun e=>absurd e h.kind,?_,h.pos,h.len,fun h=>h⟩
 ·rw [V.fine_eq,h.ok,h.leaf,h.list];rfl
 ·rw [V.count_eq,h.list];rfl
theorem scanN_good {lv:Nat} (hlv:lv<8) {f:Nat->List UInt8->Out (V × Nat × Nat)} (hf:∀many L v u m,f many L=.got (v,u,m)->ReadG lv many L v u m) :
  ∀(n many:Nat) (L:List UInt8) (l:List V) (u m:Nat),Bg f n many L=.got (l,u,m)->l.length=n/\(∀x∈l,x.kind≠14/\x.fine (lv:Int)=true/\x.ranged)/\m+n=many+V.countL l/\u<=L.length/\(many<=1000->m<=1000)
 | 0,many,L,l,u,m,h=>by
  unfold Bg at h;simp only [Out.got.injEq,Prod.mk.injEq] at h;obtain ⟨rfl,rfl,rfl⟩:=h;exact ⟨rfl,(by simp),rfl,Nat.zero_le _,fun h=>h⟩
 | n+1,many,L,l,u,m,h=>by
  unfold Bg at h;split at h
  ·cases h
  ·rename_i v u1 m1 h1
   split at h
   ·cases h
   ·rename_i l2 u2 m2 h2
    simp only [Out.got.injEq,Prod.mk.injEq] at h;obtain ⟨rfl,rfl,rfl⟩:=h;have g:=hf _ _ _ _ _ h1;obtain ⟨k1,k2,k3,k4,k5⟩:=scanN_good hlv hf n m1 _ _ _ _ h2;rw [List.length_drop] at k4;have g1:=g.all;have g2:=g.len;have hc:=v.count_pos;refine ⟨by rw [List.length_cons,k1],fun x hx=>?_,?_,by omega,fun h=>k5 (g.most h)⟩
    ·rcases List.mem_cons.1 hx with rfl | hx
     ·exact ⟨fun e=>by have:=g.push e;omega,g.fine,g.ranged⟩
     ·exact k2 x hx
    ·rw [V.countL];omega
theorem fineL_of {l:List V} {d:Int} (h:∀x∈l,x.kind≠14/\x.fine d=true):V.fineL l d=true:=by
 induction l with
 | nil=>rfl
 | cons y l ih=>
  rw [V.fineL,Bool.and_eq_true,Bool.and_eq_true,decide_eq_true_eq];exact ⟨⟨(h y (by simp)).1,(h y (by simp)).2⟩,ih fun x hx=>h x (by simp [hx])⟩
theorem list_ok {kd:Nat} {l:List V} (hk:kd=5\/kd=12\/kd=13\/kd=14) (h12:kd=12->l.length % 2=0) (h14:kd=14->0<l.length):okV (.mk (kd:Int) ⟨#[]⟩ 0 0 false l)=true:=by
 have hn:∀k:Int,Al k=true->Bo (Bt k) (numK k) (Bz k) (B3 k) (Al k) (.mk k ⟨#[]⟩ 0 0 false l)=true:=fun k hk=>by
  have hb:A9 0=0:=by decide +kernel
  have he:Ef ⟨#[]⟩=true:=by decide +kernel
  unfold Bo;simp only [V.text,V.int,V.real,V.flag,hk,hb,he];simp
 unfold okV B4;show (Cm (kd:Int) && Bo (Bt (kd:Int)) (numK (kd:Int)) (Bz (kd:Int)) (B3 (kd:Int)) (Al (kd:Int)) (.mk (kd:Int) ⟨#[]⟩ 0 0 false l) && B1 (kd:Int) ⟨#[]⟩ l.length && decide ((⟨#[]⟩:ByteArray).size<=4096))=true;rcases hk with rfl | rfl | rfl | rfl
 ·rw [hn _ (by decide)];rfl
 ·rw [hn _ (by decide),show B1 ((12:Nat):Int) ⟨#[]⟩ l.length=true from decide_eq_true (h12 rfl)];rfl
 ·rw [hn _ (by decide)];rfl
 ·rw [hn _ (by decide),show B1 ((14:Nat):Int) ⟨#[]⟩ l.length=true from decide_eq_true (h14 rfl)];rfl
theorem scan_good {rp:Rp} (hrp:∀t r,rp t=some r->r<18446744073709551616):∀(lv:Nat),lv<=8->∀(many:Nat) (L:List UInt8) (v:V) (u m:Nat),At rp lv many L=.got (v,u,m)->ReadG lv many L v u m
 | 0,_,many,L,v,u,m,h=>by
  unfold At at h;split at h
  ·cases h
  ·rename_i v' u' hh
   simp only [Out.got.injEq,Prod.mk.injEq] at h;obtain ⟨rfl,rfl,rfl⟩:=h;exact leaf_read (head_leafG hrp hh)
  ·cases h
 | lv+1,hlv,many,L,v,u,m,h=>by
  unfold At at h;split at h
  ·cases h
  ·rename_i v' u' hh
   simp only [Out.got.injEq,Prod.mk.injEq] at h;obtain ⟨rfl,rfl,rfl⟩:=h;exact leaf_read (head_leafG hrp hh)
  ·rename_i kd n u1 hh
   obtain ⟨h1,h2,h3,h4⟩:=head_listG hh;split at h
   ·cases h
   ·rename_i hc
    split at h
    ·cases h
    ·rename_i l u2 m2 hs
     simp only [Out.got.injEq,Prod.mk.injEq] at h;obtain ⟨rfl,rfl,rfl⟩:=h;obtain ⟨k1,k2,k3,k4,k5⟩:=scanN_good (by omega) (fun many L v u m=>scan_good hrp lv (by omega) many L v u m) n (many+n) _ _ _ _ hs;rw [List.length_drop] at k4;refine ⟨?_,?_,?_,?_,by omega,by omega,fun _=>k5 (by omega)⟩
     ·rw [V.fine_eq]
      show (okV (.mk (kd:Int) ⟨#[]⟩ 0 0 false l) && (!Al (kd:Int) || decide (1<=((lv+1:Nat):Int))) && V.fineL l (((lv+1:Nat):Int) - 1))=true;rw [list_ok h1 (fun e=>by rw [k1];exact h2 e) (fun e=>by rw [k1];omega),show ((lv+1:Nat):Int) - 1=(lv:Int) by omega,fineL_of fun x hx=>⟨(k2 x hx).1,(k2 x hx).2.1⟩,decide_eq_true (show 1<=((lv+1:Nat):Int) by omega),Bool.or_true];rfl
     ·rw [V.ranged_eq]
      exact ⟨by show (-9223372036854775808:Int)<=0;decide,by show (0:Int)<=9223372036854775807;decide,by show (0:Nat)<18446744073709551616;decide,rangedL_of fun x hx=>(k2 x hx).2.2⟩
     ·intro e
      have:kd=14:=by have:(kd:Int)=14:=e;omega
      omega
     ·rw [V.count]
      omega
def ParE (o:Option Nat):Ending:=match o with
 | some r=>.returned (.tuple #[.float .f64 r,.int .i64 0])
 | none=>.returned (.tuple #[.float .f64 0,.int .i64 21])
set_option maxRecDepth 100000 in
set_option maxHeartbeats 6400000 in
theorem sing_any {w:World} {k:Nat} {t:ByteArray} {o:Option Nat} (hk:k=1\/k=2\/k=9\/k=3\/k=7\/k=8\/k=6) (ht:t.size<=1000000) (hp:k=7->∀W,Below w.heap.size w W->Calls Tryz.prog 92 #[.string t] W fun e w' => e=ParE o/\Below W.heap.size W w') :
  Calls Tryz.prog 75 #[.int .i64 (k:Int),.string t] w (SingQ (Bm o k t) w):=by
 have h2:=Two.start w (k:Int) ⟨#[]⟩ 0 0 false;obtain ⟨W2,hW2⟩:∃W,W=(w.alloc (.cells #[.int .i64 0,.string ⟨#[]⟩,.int .i64 0,.float .f64 0,.bool false,.slice none 0 0] 26)).alloc (.cells #[.int .i64 (k:Int),.string ⟨#[]⟩,.int .i64 0,.float .f64 0,.bool false,.slice none 0 0] 26):=⟨_,rfl⟩;rw [<-hW2] at h2;have m:Al (k:Int)=false:=by unfold Al;rw [decide_eq_false_iff_not];omega
 obtain ⟨S,hS⟩:∃S,S=Bm o k t:=⟨_,rfl⟩;rw [<-hS];replace hW2:=Hd hW2;replace h2:=Hd h2;replace hS:=Hd hS;replace hp:=Hd hp;replace hk:=Hd hk
 go_enter Tryz.func75,Tryz.ntmps75
 go_upto_region 2 with fail
 rw [<-hW2.out];clear hW2
 go_upto_block 0 with fail
 go_cut [7] from 10 to 47 (fun s5 wx=>∃(T:ByteArray) (I:Int) (R:Nat) (F:Bool) (E:Int),s5=.int .i64 E/\Two w wx (k:Int) T I R F/\((E=0/\S=some (Ar (k:Int) T I R F)/\T.size<=1000000)\/(E≠0/\S=none)))
 case first=>
  have h2:=h2.out;rcases hk.out with rfl | rfl | rfl | rfl | rfl | rfl | rfl
  ·have z:=h2.blk1.frz 1 none
   have y0:=h2.full 0 _ rfl;have y1:=h2.full 1 _ rfl;have y2:=h2.full 2 _ rfl;have y3:=h2.full 3 _ rfl;have y4:=h2.full 4 _ rfl;have y5:=h2.full 5 _ rfl;rw [Nat.zero_add] at y0 y1 y2 y3 y4 y5;have h4:=h2.set1 t;have c0:=h4.full 0 _ rfl;have c1:=h4.full 1 _ rfl;have c2:=h4.full 2 _ rfl;have c3:=h4.full 3 _ rfl;have c4:=h4.full 4 _ rfl;have c5:=h4.full 5 _ rfl;rw [Nat.zero_add] at c0 c1 c2 c3 c4 c5;replace h4:=Hd h4;clear h2;go_wp2_with fail
   go_meet
   exact ⟨t,0,0,false,0,rfl,h4.out,.inl ⟨rfl,hS.out,ht⟩⟩
  ·have z:=h2.blk1.frz 1 none
   have y0:=h2.full 0 _ rfl;have y1:=h2.full 1 _ rfl;have y2:=h2.full 2 _ rfl;have y3:=h2.full 3 _ rfl;have y4:=h2.full 4 _ rfl;have y5:=h2.full 5 _ rfl;rw [Nat.zero_add] at y0 y1 y2 y3 y4 y5;have h4:=h2.set1 t;have c0:=h4.full 0 _ rfl;have c1:=h4.full 1 _ rfl;have c2:=h4.full 2 _ rfl;have c3:=h4.full 3 _ rfl;have c4:=h4.full 4 _ rfl;have c5:=h4.full 5 _ rfl;rw [Nat.zero_add] at c0 c1 c2 c3 c4 c5;replace h4:=Hd h4;clear h2;go_wp2_with fail
   go_meet
   exact ⟨t,0,0,false,0,rfl,h4.out,.inl ⟨rfl,hS.out,ht⟩⟩
  ·have z:=h2.blk1.frz 1 none
   have y0:=h2.full 0 _ rfl;have y1:=h2.full 1 _ rfl;have y2:=h2.full 2 _ rfl;have y3:=h2.full 3 _ rfl;have y4:=h2.full 4 _ rfl;have y5:=h2.full 5 _ rfl;rw [Nat.zero_add] at y0 y1 y2 y3 y4 y5;have h4:=h2.set1 t;have c0:=h4.full 0 _ rfl;have c1:=h4.full 1 _ rfl;have c2:=h4.full 2 _ rfl;have c3:=h4.full 3 _ rfl;have c4:=h4.full 4 _ rfl;have c5:=h4.full 5 _ rfl;rw [Nat.zero_add] at c0 c1 c2 c3 c4 c5;replace h4:=Hd h4;clear h2;go_wp2_with fail
   go_meet
   exact ⟨t,0,0,false,0,rfl,h4.out,.inl ⟨rfl,hS.out,ht⟩⟩
  ·have c:=parse01_any t (by omega) W2
   have a:S=(wP t.data.toList).map fun n=>Ar 3 ⟨#[]⟩ n 0 false:=hS.out;cases hw:wP t.data.toList with
   | none=>
    rw [hw] at c a;replace c:Calls Tryz.prog 91 #[.string t] W2 (fun e w' => e=.returned (.tuple #[.int .i64 0,.int .i64 11])/\Below W2.heap.size W2 w'):=c;replace c:=Hd c;replace h2:=Hd h2;replace a:=Hd a;go_wp2_with fail
    refine c.out.mono ?_;rintro e w3 ⟨rfl,hb⟩;have h2:=h2.out.move hb;clear hb c;have z:=h2.blk1.frz 2 none;have y0:=h2.full 0 _ rfl;have y1:=h2.full 1 _ rfl;have y2:=h2.full 2 _ rfl;have y3:=h2.full 3 _ rfl;have y4:=h2.full 4 _ rfl;have y5:=h2.full 5 _ rfl;rw [Nat.zero_add] at y0 y1 y2 y3 y4 y5;have h4:=h2.set2 0;have c0:=h4.full 0 _ rfl;have c1:=h4.full 1 _ rfl;have c2:=h4.full 2 _ rfl;have c3:=h4.full 3 _ rfl;have c4:=h4.full 4 _ rfl;have c5:=h4.full 5 _ rfl;rw [Nat.zero_add] at c0 c1 c2 c3 c4 c5;replace h4:=Hd h4;clear h2;go_wp2_with fail
    go_meet
    exact ⟨⟨#[]⟩,0,0,false,11,rfl,h4.out,.inr ⟨by decide,a.out⟩⟩
   | some n=>
    rw [hw] at c a;replace c:Calls Tryz.prog 91 #[.string t] W2 (fun e w' => e=.returned (.tuple #[.int .i64 n,.int .i64 0])/\Below W2.heap.size W2 w'):=c;replace c:=Hd c;replace h2:=Hd h2;replace a:=Hd a;go_wp2_with fail
    refine c.out.mono ?_;rintro e w3 ⟨rfl,hb⟩;have h2:=h2.out.move hb;clear hb c;have z:=h2.blk1.frz 2 none;have y0:=h2.full 0 _ rfl;have y1:=h2.full 1 _ rfl;have y2:=h2.full 2 _ rfl;have y3:=h2.full 3 _ rfl;have y4:=h2.full 4 _ rfl;have y5:=h2.full 5 _ rfl;rw [Nat.zero_add] at y0 y1 y2 y3 y4 y5;have h4:=h2.set2 n;have c0:=h4.full 0 _ rfl;have c1:=h4.full 1 _ rfl;have c2:=h4.full 2 _ rfl;have c3:=h4.full 3 _ rfl;have c4:=h4.full 4 _ rfl;have c5:=h4.full 5 _ rfl;rw [Nat.zero_add] at c0 c1 c2 c3 c4 c5;replace h4:=Hd h4;clear h2;go_wp2_with fail
    go_meet
    exact ⟨⟨#[]⟩,n,0,false,0,rfl,h4.out,.inl ⟨rfl,a.out,by decide⟩⟩
  ·have c:=hp.out rfl W2 h2.below
   have a:S=o.map fun r=>Ar 7 ⟨#[]⟩ 0 r false:=hS.out;cases o with
   | none=>
    unfold ParE at c;replace c:=Hd c;replace h2:=Hd h2;replace a:=Hd a;go_wp2_with fail
    refine c.out.mono ?_;rintro e w3 ⟨rfl,hb⟩;have h2:=h2.out.move hb;clear hb c;have z:=h2.blk1.frz 3 none;have y0:=h2.full 0 _ rfl;have y1:=h2.full 1 _ rfl;have y2:=h2.full 2 _ rfl;have y3:=h2.full 3 _ rfl;have y4:=h2.full 4 _ rfl;have y5:=h2.full 5 _ rfl;rw [Nat.zero_add] at y0 y1 y2 y3 y4 y5;have h4:=h2.set3 0;have c0:=h4.full 0 _ rfl;have c1:=h4.full 1 _ rfl;have c2:=h4.full 2 _ rfl;have c3:=h4.full 3 _ rfl;have c4:=h4.full 4 _ rfl;have c5:=h4.full 5 _ rfl;rw [Nat.zero_add] at c0 c1 c2 c3 c4 c5;replace h4:=Hd h4;clear h2;go_wp2_with fail
    go_meet
    exact ⟨⟨#[]⟩,0,0,false,21,rfl,h4.out,.inr ⟨by decide,a.out⟩⟩
   | some r=>
    unfold ParE at c;replace c:=Hd c;replace h2:=Hd h2;replace a:=Hd a;go_wp2_with fail
    refine c.out.mono ?_;rintro e w3 ⟨rfl,hb⟩;have h2:=h2.out.move hb;clear hb c;have z:=h2.blk1.frz 3 none;have y0:=h2.full 0 _ rfl;have y1:=h2.full 1 _ rfl;have y2:=h2.full 2 _ rfl;have y3:=h2.full 3 _ rfl;have y4:=h2.full 4 _ rfl;have y5:=h2.full 5 _ rfl;rw [Nat.zero_add] at y0 y1 y2 y3 y4 y5;have h4:=h2.set3 r;have c0:=h4.full 0 _ rfl;have c1:=h4.full 1 _ rfl;have c2:=h4.full 2 _ rfl;have c3:=h4.full 3 _ rfl;have c4:=h4.full 4 _ rfl;have c5:=h4.full 5 _ rfl;rw [Nat.zero_add] at c0 c1 c2 c3 c4 c5;replace h4:=Hd h4;clear h2;go_wp2_with fail
    go_meet
    exact ⟨⟨#[]⟩,0,r,false,0,rfl,h4.out,.inl ⟨rfl,a.out,by decide⟩⟩
  ·have a:S=(if t=⟨#[116]⟩ then some (Ar 8 ⟨#[]⟩ 0 0 true) else if t=⟨#[102]⟩ then some (Ar 8 ⟨#[]⟩ 0 0 false) else none):=hS.out
   by_cases h1:t=⟨#[116]⟩
   ·rw [if_pos h1] at a
    subst h1;replace a:=Hd a;have z:=h2.blk1.frz 4 none;have y0:=h2.full 0 _ rfl;have y1:=h2.full 1 _ rfl;have y2:=h2.full 2 _ rfl;have y3:=h2.full 3 _ rfl;have y4:=h2.full 4 _ rfl;have y5:=h2.full 5 _ rfl;rw [Nat.zero_add] at y0 y1 y2 y3 y4 y5;have h4:=h2.set4 true;have c0:=h4.full 0 _ rfl;have c1:=h4.full 1 _ rfl;have c2:=h4.full 2 _ rfl;have c3:=h4.full 3 _ rfl;have c4:=h4.full 4 _ rfl;have c5:=h4.full 5 _ rfl;rw [Nat.zero_add] at c0 c1 c2 c3 c4 c5;replace h4:=Hd h4;clear h2;go_wp2_with fail
    go_meet
    exact ⟨⟨#[]⟩,0,0,true,0,rfl,h4.out,.inl ⟨rfl,a.out,by decide⟩⟩
   ·rw [if_neg h1] at a
    have j1:(t.toList == [116])=false:=beq_eq_false_iff_ne.2 fun e=>h1 (by rw [ByteArray.toList_eq] at e;exact ByteArray.ext (Array.toList_inj.1 e));have j3:(t.toList != [116])=true:=by simp [bne,j1]
    by_cases h3:t=⟨#[102]⟩
    ·rw [if_pos h3] at a
     subst h3;clear j1 j3;replace h1:=Hd h1;replace a:=Hd a;have z:=h2.blk1.frz 4 none;have y0:=h2.full 0 _ rfl;have y1:=h2.full 1 _ rfl;have y2:=h2.full 2 _ rfl;have y3:=h2.full 3 _ rfl;have y4:=h2.full 4 _ rfl;have y5:=h2.full 5 _ rfl;rw [Nat.zero_add] at y0 y1 y2 y3 y4 y5;have h4:=h2.set4 false;have c0:=h4.full 0 _ rfl;have c1:=h4.full 1 _ rfl;have c2:=h4.full 2 _ rfl;have c3:=h4.full 3 _ rfl;have c4:=h4.full 4 _ rfl;have c5:=h4.full 5 _ rfl;rw [Nat.zero_add] at c0 c1 c2 c3 c4 c5;replace h4:=Hd h4;clear h2;go_wp2_with fail
     go_meet
     exact ⟨⟨#[]⟩,0,0,false,0,rfl,h4.out,.inl ⟨rfl,a.out,by decide⟩⟩
    ·rw [if_neg h3] at a
     have j2:(t.toList == [102])=false:=beq_eq_false_iff_ne.2 fun e=>h3 (by rw [ByteArray.toList_eq] at e;exact ByteArray.ext (Array.toList_inj.1 e));have j4:(t.toList != [102])=true:=by simp [bne,j2]
     replace h1:=Hd h1;replace h3:=Hd h3;replace a:=Hd a;have z:=h2.blk1.frz 4 none;have y0:=h2.full 0 _ rfl;have y1:=h2.full 1 _ rfl;have y2:=h2.full 2 _ rfl;have y3:=h2.full 3 _ rfl;have y4:=h2.full 4 _ rfl;have y5:=h2.full 5 _ rfl;rw [Nat.zero_add] at y0 y1 y2 y3 y4 y5;have h4:=h2.set4 false;have c0:=h4.full 0 _ rfl;have c1:=h4.full 1 _ rfl;have c2:=h4.full 2 _ rfl;have c3:=h4.full 3 _ rfl;have c4:=h4.full 4 _ rfl;have c5:=h4.full 5 _ rfl;rw [Nat.zero_add] at c0 c1 c2 c3 c4 c5;replace h4:=Hd h4;clear h2;go_wp2_with fail
     go_meet
     exact ⟨⟨#[]⟩,0,0,false,1,rfl,h4.out,.inr ⟨by decide,a.out⟩⟩
  ·have a:S=(if t=⟨#[]⟩ then some (Ar 6 ⟨#[]⟩ 0 0 false) else none):=hS.out
   have h4:=Hd (h2);replace h2:=Hd h2;by_cases h1:t=⟨#[]⟩
   ·rw [if_pos h1] at a
    subst h1;replace a:=Hd a;go_wp2_with fail
    go_meet
    exact ⟨⟨#[]⟩,0,0,false,0,rfl,h4.out,.inl ⟨rfl,a.out,by decide⟩⟩
   ·rw [if_neg h1] at a
    have j0:¬t.toList=[]:=fun e=>h1 (by rw [ByteArray.toList_eq] at e;exact ByteArray.ext (Array.toList_inj.1 e));have j1:(t.toList == [])=false:=beq_eq_false_iff_ne.2 j0;have j3:(t.toList != [])=true:=by simp [bne,j1]
    have j4:t.toList.isEmpty=false:=by cases hh:t.toList.isEmpty with | false=>rfl | true=>exact absurd (List.isEmpty_iff.1 hh) j0
    replace h1:=Hd h1;replace a:=Hd a;go_wp2_with fail
    go_meet
    exact ⟨⟨#[]⟩,0,0,false,1,rfl,h4.out,.inr ⟨by decide,a.out⟩⟩
 obtain ⟨T,I,R,F,E,rfl,h4,hE⟩:=hcut
 rename World=>w4
 clear h2 hp hk;rcases hE with ⟨rfl,a,hT⟩ | ⟨hE,a⟩
 ·have l:=rleaf_any (k:Int) T I R F m (by omega)
  obtain ⟨ok,hok⟩:∃b,b=okV (Ar (k:Int) T I R F):=⟨_,rfl⟩;rw [<-hok] at l;have c0:=h4.full 0 _ rfl;have c1:=h4.full 1 _ rfl;have c2:=h4.full 2 _ rfl;have c3:=h4.full 3 _ rfl;have c4:=h4.full 4 _ rfl;have c5:=h4.full 5 _ rfl;rw [Nat.zero_add] at c0 c1 c2 c3 c4 c5;replace l:=Hd l;replace hok:=Hd hok;replace h4:=Hd h4;replace a:=Hd a;go_wp2_with fail
  refine (l.out _).mono ?_;rintro e w5 ⟨rfl,hb⟩;have h3:=h4.out.move hb;clear hb c0 c1 c2 c3 c4 c5 h4;cases ok with
  | true=>
   obtain ⟨w3,hw3⟩:∃w3,w3=w5:=⟨_,rfl⟩;rw [<-hw3] at h3 ⊢;replace hw3:=Hd hw3;have d:(w3.setCells w.heap.size 0 [.int .i64 (k:Int),.string T,.int .i64 I,.float .f64 R,.bool F,.slice none 0 0]).rangeAt w.heap.size 0 [.int .i64 (k:Int),.string T,.int .i64 I,.float .f64 R,.bool F,.slice none 0 0]:=
    World.rangeAt_setCells_same _ _ _ _ (Af (n:=6) h3.zero h3.blk rfl)
   have g:=Hd (Af (n:=6) h3.zero h3.blk rfl);have j:=Hd (h3.full);have f:Below w.heap.size w (w3.setCells w.heap.size 0 [.int .i64 (k:Int),.string T,.int .i64 I,.float .f64 R,.bool F,.slice none 0 0]):=
    h3.below.trans ((Fr.setCells (S:=fun k=>k=w.heap.size) (fun _=>rfl) _ _ _ (Fr.refl _ w3)).below h3.below.size (fun i hi h=>by omega))
   replace d:=Hd d;replace f:=Hd f;replace h3:=Hd h3
   go_wp2_with (first
    | (refine wpList_load_mid rfl 26 _ rfl (w.heap.size+1) 0 rfl _ _ j.out Tryz.underlying26 rfl Ad ?_)
    | (refine wpList_store_mid rfl 26 _ _ rfl w.heap.size 0 _ rfl rfl g.out Ad (one6 _ _ _ _ _ _ _ _) ?_))
   refine bodyPost_ret (Fi (v:=.agg #[.int .i64 (k:Int),.string T,.int .i64 I,.float .f64 R,.bool F,.slice none 0 0]) rfl rfl (run_loadVar_mid (P:=Tryz.prog) _ _ 0 26 _ _ d.out Tryz.underlying26 rfl Ad)) rfl ?_;exact ⟨by rw [a.out];exact singA_ok hok.out.symm,f.out⟩
  | false=>
   obtain ⟨w3,hw3⟩:∃w3,w3=w5:=⟨_,rfl⟩;rw [<-hw3] at h3 ⊢;replace hw3:=Hd hw3;have d:(w3.setCells w.heap.size 0 [.int .i64 0,.string (⟨#[]⟩:ByteArray),.int .i64 0,.float .f64 0,.bool false,.slice none 0 0]).rangeAt w.heap.size 0 [.int .i64 0,.string (⟨#[]⟩:ByteArray),.int .i64 0,.float .f64 0,.bool false,.slice none 0 0]:=
    World.rangeAt_setCells_same _ _ _ _ (Af (n:=6) h3.zero h3.blk rfl)
   have g:=Hd (Af (n:=6) h3.zero h3.blk rfl);have j:=Hd (h3.full);have f:Below w.heap.size w (w3.setCells w.heap.size 0 [.int .i64 0,.string (⟨#[]⟩:ByteArray),.int .i64 0,.float .f64 0,.bool false,.slice none 0 0]):=
    h3.below.trans ((Fr.setCells (S:=fun k=>k=w.heap.size) (fun _=>rfl) _ _ _ (Fr.refl _ w3)).below h3.below.size (fun i hi h=>by omega))
   replace d:=Hd d;replace f:=Hd f;replace h3:=Hd h3
   go_wp2_with (first
    | (refine wpList_load_mid rfl 26 _ rfl (w.heap.size+1) 0 rfl _ _ j.out Tryz.underlying26 rfl Ad ?_)
    | (refine wpList_store_mid rfl 26 _ _ rfl w.heap.size 0 _ rfl rfl g.out Ad (one6 _ _ _ _ _ _ _ _) ?_))
   refine bodyPost_ret (Fi (v:=.agg #[.int .i64 0,.string (⟨#[]⟩:ByteArray),.int .i64 0,.float .f64 0,.bool false,.slice none 0 0]) rfl rfl (run_loadVar_mid (P:=Tryz.prog) _ _ 0 26 _ _ d.out Tryz.underlying26 rfl Ad)) rfl ?_;exact ⟨by rw [a.out];exact singA_no hok.out.symm,f.out⟩
 ·have e0:(E == 0)=false:=by rw [beq_eq_false_iff_ne];exact hE
  have e1:(E != 0)=true:=by simp [bne,e0]
  have h3:=h4;replace hE:=Hd hE;replace a:=Hd a;clear h4;obtain ⟨w5,hw5⟩:∃w5,w5=w4:=⟨_,rfl⟩;rw [<-hw5] at h3 ⊢;replace hw5:=Hd hw5;obtain ⟨w3,hw3⟩:∃w3,w3=w5:=⟨_,rfl⟩;rw [<-hw3] at h3 ⊢;replace hw3:=Hd hw3;have d:(w3.setCells w.heap.size 0 [.int .i64 0,.string (⟨#[]⟩:ByteArray),.int .i64 0,.float .f64 0,.bool false,.slice none 0 0]).rangeAt w.heap.size 0 [.int .i64 0,.string (⟨#[]⟩:ByteArray),.int .i64 0,.float .f64 0,.bool false,.slice none 0 0]:=
   World.rangeAt_setCells_same _ _ _ _ (Af (n:=6) h3.zero h3.blk rfl)
  have g:=Hd (Af (n:=6) h3.zero h3.blk rfl);have j:=Hd (h3.full);have f:Below w.heap.size w (w3.setCells w.heap.size 0 [.int .i64 0,.string (⟨#[]⟩:ByteArray),.int .i64 0,.float .f64 0,.bool false,.slice none 0 0]):=
   h3.below.trans ((Fr.setCells (S:=fun k=>k=w.heap.size) (fun _=>rfl) _ _ _ (Fr.refl _ w3)).below h3.below.size (fun i hi h=>by omega))
  replace d:=Hd d;replace f:=Hd f;replace h3:=Hd h3
  go_wp2_with (first
   | (refine wpList_load_mid rfl 26 _ rfl (w.heap.size+1) 0 rfl _ _ j.out Tryz.underlying26 rfl Ad ?_)
   | (refine wpList_store_mid rfl 26 _ _ rfl w.heap.size 0 _ rfl rfl g.out Ad (one6 _ _ _ _ _ _ _ _) ?_))
  refine bodyPost_ret (Fi (v:=.agg #[.int .i64 0,.string (⟨#[]⟩:ByteArray),.int .i64 0,.float .f64 0,.bool false,.slice none 0 0]) rfl rfl (run_loadVar_mid (P:=Tryz.prog) _ _ 0 26 _ _ d.out Tryz.underlying26 rfl Ad)) rfl ?_;exact ⟨by rw [a.out];rfl,f.out⟩
