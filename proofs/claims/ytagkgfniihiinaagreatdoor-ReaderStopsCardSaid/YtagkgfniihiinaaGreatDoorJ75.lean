/- The reader: a value, at every text. -/
import Derived.Test.YtagkgfniihiinaaGreatDoorJ71
set_option linter.all false
set_option maxHeartbeats 3200000
set_option maxRecDepth 100000
namespace Go.Proofs.YtagkgfniihiinaaGreatDoor
open Go.RowKit
theorem scanN_many {f:Nat->List UInt8->Out (V × Nat × Nat)} (hf:∀(m:Nat) (L:List UInt8) (v:V) (u m' : Nat),m<=1000->f m L=.got (v,u,m')->m' <= 1000):∀(n m:Nat) (L:List UInt8) (l:List V) (u m' : Nat),m<=1000->Bg f n m L=.got (l,u,m')->m' <= 1000
 | 0,m,L,l,u,m', hm,h=>by
  rw [Bg] at h;simp only [Out.got.injEq,Prod.mk.injEq] at h;omega
 | n+1,m,L,l,u,m', hm,h=>by
  rw [Bg] at h;cases h1:f m L with
  | stop q=>rw [h1] at h;cases h
  | got r=>
   obtain ⟨v,u1,m1⟩:=r;rw [h1] at h;dsimp only at h;have hm1:=hf m L v u1 m1 hm h1;cases h2:Bg f n m1 (L.drop u1) with
   | stop q=>rw [h2] at h;cases h
   | got r=>
    obtain ⟨l2,u2,m2⟩:=r;rw [h2] at h;simp only [Out.got.injEq,Prod.mk.injEq] at h;have:=scanN_many hf n m1 _ l2 u2 m2 hm1 h2;omega
theorem scanV_many {rp:Rp}:∀(lv:Nat) (m:Nat) (L:List UInt8) (v:V) (u m' : Nat),m<=1000->At rp lv m L=.got (v,u,m')->m' <= 1000
 | 0,m,L,v,u,m', hm,h=>by
  rw [At] at h;split at h
  ·cases h
  ·simp only [Out.got.injEq,Prod.mk.injEq] at h;omega
  ·cases h
 | lv+1,m,L,v,u,m', hm,h=>by
  rw [At] at h;split at h
  ·cases h
  ·simp only [Out.got.injEq,Prod.mk.injEq] at h;omega
  ·rename_i kd n u0 _
   split at h
   ·cases h
   ·rename_i hb
    cases h2:Bg (At rp lv) n (m+n) (L.drop u0) with
    | stop q=>rw [h2] at h;cases h
    | got r=>
     obtain ⟨l2,u2,m2⟩:=r;rw [h2] at h;simp only [Out.got.injEq,Prod.mk.injEq] at h;have:=scanN_many (scanV_many lv) n (m+n) _ l2 u2 m2 (by omega) h2;omega
theorem value_head {rp:Rp} {w0 w:World} {g b o n cap at_ many:Nat} {s:ByteArray} {d:Int} (h:RS rp w0 w g b o n cap s at_ many) (hbw:b<w.heap.size) (out:Out (V × Nat × Nat)) (hnd:needH rp (s.data.toList.drop at_))
  (ho:match A0 rp (s.data.toList.drop at_) with
   | .stop e=>out=.stop e
   | .leaf v u=>out=.got (v,u,many)
   | .list kd N u=>∃res:Out (List V × Nat × Nat),(∀W,RS rp w0 W g b o n cap s (at_+u) many->Calls Tryz.prog 70 #[.pointer (some ⟨g,0,none⟩),.int .i64 (kd:Int),.int .i64 (N:Int),.int .i64 d] W (ListQ rp w0 g b o n cap s (kd:Int) (at_+u) res W)) /\
     out=(match res with | .stop q=>.stop q | .got (l,u2,m2)=>.got (.mk (kd:Int) ⟨#[]⟩ 0 0 false l,u+u2,m2))) :
  Calls Tryz.prog 46 #[.pointer (some ⟨g,0,none⟩),.int .i64 d] w (ValQ rp w0 g b o n cap s at_ out w):=by
 cases hL:s.data.toList.drop at_ with
 | nil=>
  rw [hL] at ho;simp only [A0] at ho;subst ho;have he:at_=n:=by
   have:=h.le;have hz:=h.scan.size;have h1:(s.data.toList.drop at_).length=0:=by rw [hL];rfl
   rw [List.length_drop,<-Ax] at h1;omega
  exact value_end h he
 | cons c L=>
  rw [hL] at ho;simp only [A0] at ho;by_cases hk0:Ab c=0
  ·rw [if_pos hk0] at ho
   subst ho;exact value_mark h hL hk0
  rw [if_neg hk0] at ho;cases hl:Az L with
  | stop q=>
   rw [hl] at ho;simp only at ho;subst ho;exact value_line h hL hk0 hl
  | got r=>
   obtain ⟨t,u⟩:=r;rw [hl] at ho;simp only at ho;by_cases hnil:t=[45,49]/\(Ab c=4\/Ab c=5)
   ·rw [if_pos hnil] at ho
    simp only at ho;subst ho;exact value_nil h hL hnil.2 (by rw [hl,hnil.1])
   rw [if_neg hnil] at ho;by_cases hk1:Ab c=4\/Ab c=10\/Ab c=11
   ·rw [if_pos hk1] at ho
    cases hm:numS t 4096 with
    | none=>
     rw [hm] at ho;simp only at ho;subst ho;exact value_num h hL (.inl ⟨rfl,hk1⟩) hl hnil hm
    | some len=>
     rw [hm] at ho;simp only at ho;cases hlo:Cd (L.drop u) len with
     | stop q=>
      rw [hlo] at ho;simp only at ho;subst ho;exact value_lstop h hL hk1 hl hnil hm hlo
     | got x=>
      rw [hlo] at ho;simp only at ho;by_cases ok:okV (Ar (Ab c) ⟨x.toArray⟩ 0 0 false)=true
      ·rw [if_pos ok] at ho
       simp only at ho;subst ho;exact value_ltext h hL hk1 hl hnil hm hlo (.inl ⟨ok,rfl⟩)
      ·rw [if_neg ok] at ho
       simp only at ho;subst ho;exact value_ltext h hL hk1 hl hnil hm hlo (.inr ⟨ok,rfl⟩)
   rw [if_neg hk1] at ho;by_cases hk2:Ab c=5\/Ab c=13\/Ab c=14
   ·rw [if_pos hk2] at ho
    cases hm:numS t 1000 with
    | none=>
     rw [hm] at ho;simp only at ho;subst ho;exact value_num h hL (.inr ⟨rfl,by omega⟩) hl hnil hm
    | some len=>
     rw [hm] at ho;simp only at ho;obtain ⟨res,a,rfl⟩:=ho;have i:(Ab c=5/\len=len)\/(Ab c=13/\len=len)\/(Ab c=14/\len=len)\/(Ab c=12/\len=2 * len):=by
      rcases hk2 with e | e | e
      ·exact .inl ⟨e,rfl⟩
      ·exact .inr (.inl ⟨e,rfl⟩)
      ·exact .inr (.inr (.inl ⟨e,rfl⟩))
     rw [show at_+(1+u)=at_+1+u by omega] at a;cases res with
     | stop q=>exact F5 h hL i hl hnil hm hbw a rfl
     | got r=>
      obtain ⟨l,u2,m2⟩:=r;exact F5 h hL i hl hnil hm hbw a rfl
   rw [if_neg hk2] at ho;by_cases hk3:Ab c=12
   ·rw [if_pos hk3] at ho
    cases hm:numS t 1000 with
    | none=>
     rw [hm] at ho;simp only at ho;subst ho;exact value_num h hL (.inr ⟨rfl,by omega⟩) hl hnil hm
    | some len=>
     rw [hm] at ho;simp only at ho;obtain ⟨res,a,rfl⟩:=ho;have j:(12:Nat)=Ab c:=hk3.symm;rw [j] at a ⊢;rw [show at_+(1+u)=at_+1+u by omega] at a;cases res with
     | stop q=>exact F5 h hL (.inr (.inr (.inr ⟨hk3,rfl⟩))) hl hnil hm hbw a rfl
     | got r=>
      obtain ⟨l,u2,m2⟩:=r;exact F5 h hL (.inr (.inr (.inr ⟨hk3,rfl⟩))) hl hnil hm hbw a rfl
   rw [if_neg hk3] at ho;have f:Ab c=1\/Ab c=2\/Ab c=9\/Ab c=3\/Ab c=7\/Ab c=8\/Ab c=6:=by
    have:=kindR_le c;omega
   cases hs:Bm (rp t) (Ab c) ⟨t.toArray⟩ with
   | none=>
    rw [hs] at ho;simp only at ho;subst ho;exact value_one h hL f hl (hnd c L t u hL · hl) (.inr ⟨rfl,fun v hv=>by rw [hs] at hv;cases hv⟩)
   | some v=>
    rw [hs] at ho;simp only at ho;by_cases ok:okV v=true
    ·rw [if_pos ok] at ho
     simp only at ho;subst ho;exact value_one h hL f hl (hnd c L t u hL · hl) (.inl ⟨v,hs,ok,rfl⟩)
    ·rw [if_neg ok] at ho
     simp only at ho;subst ho;exact value_one h hL f hl (hnd c L t u hL · hl) (.inr ⟨rfl,fun v' hv=>by rw [hs] at hv;cases hv;exact ok⟩)
theorem headS_len {rp:Rp} {L:List UInt8} {kd N u:Nat} (h:A0 rp L=.list kd N u):N<=100000:=by
 unfold A0 at h;split at h
 ·cases h
 split at h
 ·cases h
 split at h
 ·cases h
 split at h
 ·cases h
 split at h
 ·split at h
  ·cases h
  ·split at h
   ·cases h
   ·split at h<;>cases h
 split at h
 ·split at h
  ·cases h
  ·rename_i hn
   have:=numS_le hn;simp only [Head.list.injEq] at h;omega
 split at h
 ·split at h
  ·cases h
  ·rename_i hn
   have:=numS_le hn;simp only [Head.list.injEq] at h;omega
 split at h
 ·cases h
 ·split at h<;>cases h
theorem value_any {rp:Rp} {w0:World} {g b o n cap:Nat} {s:ByteArray} (hbw0:b<w0.heap.size):∀(lv:Nat),lv<=8->∀(w:World) (at_ many:Nat),RS rp w0 w g b o n cap s at_ many->many<=1000->Dj rp lv many (s.data.toList.drop at_) ->
  Calls Tryz.prog 46 #[.pointer (some ⟨g,0,none⟩),.int .i64 (8 - (lv:Int))] w (ValQ rp w0 g b o n cap s at_ (At rp lv many (s.data.toList.drop at_)) w):=by
 intro lv;induction lv with
 | zero=>
  intro _ w at_ many h hm a;have c:b<w.heap.size:=Nat.lt_of_lt_of_le hbw0 h.below.size;refine value_head h c _ (needV_head a) ?_;rw [At];cases hh:A0 rp (s.data.toList.drop at_) with
  | stop e=>rfl
  | leaf v u=>rfl
  | list kd N u=>
   refine ⟨.stop 51,fun W hW=>?_,rfl⟩;exact list_no hW (by omega) (headS_len hh) (.inr (.inl (by omega)))
 | succ lv ih=>
  intro hlv w at_ many h hm a;have c:b<w.heap.size:=Nat.lt_of_lt_of_le hbw0 h.below.size;refine value_head h c _ (needV_head a) ?_;rw [At];cases hh:A0 rp (s.data.toList.drop at_) with
  | stop e=>rfl
  | leaf v u=>rfl
  | list kd N u=>
   dsimp only;by_cases hbad:1000<many+N\/(kd=14/\(N=0\/lv<7))
   ·rw [if_pos hbad]
    refine ⟨.stop 51,fun W hW=>?_,rfl⟩;exact list_no hW (by omega) (headS_len hh) (by
     rcases hbad with e | e
     ·exact .inl e
     ·exact .inr (.inr ⟨by omega,by omega⟩))
   ·rw [if_neg hbad]
    refine ⟨Bg (At rp lv) N (many+N) (s.data.toList.drop (at_+u)),fun W hW=>?_,?_⟩
    ·have d:b<W.heap.size:=Nat.lt_of_lt_of_le hbw0 hW.below.size
     refine R2.R3.list_any hW d (by omega) (by omega) (by omega) (by omega) (need:=Dj rp lv) (fun X at2 m2 hX hm2 hn2=>?_) (scanV_many lv) (by rw [<-List.drop_drop];exact a.2 kd N u hh);have:=ih (by omega) X at2 m2 hX hm2 hn2;rw [show (8:Int) - ((lv+1:Nat):Int)+1=8 - (lv:Int) by omega];exact this
    ·rw [List.drop_drop]
     cases Bg (At rp lv) N (many+N) (s.data.toList.drop (at_+u)) with
     | stop q=>rfl
     | got r=>obtain ⟨l,u2,m2⟩:=r;rfl
theorem catch_idle (p1 p2 p3:Value) (w:World) :
  CallsD Tryz.prog 45 #[p1,p2,p3] .returning w fun e u' w' => e=.returned (.tuple #[])/\u' = .returning/\w' = w:=by
 refine callsD_of_wpS Tryz.func45 rfl fun c₀ cs hu=>?_;apply wpS_seq;apply wpS_region;simp [wpOpsS,go_sem,recoverD,hu,Tryz.ntmps45,Exit.thenS];refine wpS_of_wp ?_;go_wp2_with fail
 cases c₀
 simp_all [bodyPostS,results,Tryz.results45]
@[go_sem] theorem assert_stop (v:Value) (xT:TypeId) (w:World):(Instr.typeAssert (.iface 68 v) xT 68 true).run Tryz.prog w=.ok (.tuple #[v,.bool true]) w:=by kernel_rfl
def csR (B:Nat) (i:Nat) (w w' : World):Prop:=match i with
 | 3=>Fr (fun k=>k=B) w w'
 | 4=>Fr (fun k=>k=B+1) w w'
 | 5=>Fr (fun k=>k=B+2) w w'
 | _=>w' = w
structure CsC (B:Nat) (W w:World):Prop where
 fr:Fr (fun k=>k=B\/k=B+1\/k=B+2) W w
 t0:∃ys:List Value,ys.length=6/\w.rangeAt B 0 ys
 k0:Blk w B
 t1:∃y,w.cell? ⟨B+1,0,none⟩=some y
 k1:Blk w (B+1)
 t2:∃y,w.cell? ⟨B+2,0,none⟩=some y
 k2:Blk w (B+2)
theorem CsC.set0 {B:Nat} {W w w' : World} (h:CsC B W w) (hf:Fr (fun k=>k=B) w w') (ht:∃ys:List Value,ys.length=6/\w'.rangeAt B 0 ys) (hk:Blk w' B):CsC B W w' :=
 ⟨h.fr.trans (hf.mono (fun _ _ e=>Or.inl e)),ht,hk,h.t1.imp fun _ e=>hf.cell e (by show ¬B+1=B;omega),h.k1.fr hf (by omega),h.t2.imp fun _ e=>hf.cell e (by show ¬B+2=B;omega),h.k2.fr hf (by omega)⟩
theorem CsC.set1 {B:Nat} {W w w' : World} (h:CsC B W w) (hf:Fr (fun k=>k=B+1) w w') (ht:∃y,w'.cell? ⟨B+1,0,none⟩=some y) (hk:Blk w' (B+1)):CsC B W w' :=
 ⟨h.fr.trans (hf.mono (fun _ _ e=>Or.inr (Or.inl e))),h.t0.imp fun _ e=>⟨e.1,fun j y hj=>hf.cell (e.2 j y hj) (by show ¬B=B+1;omega)⟩,h.k0.fr hf (by omega),ht,hk,h.t2.imp fun _ e=>hf.cell e (by show ¬B+2=B+1;omega),h.k2.fr hf (by omega)⟩
theorem CsC.set2 {B:Nat} {W w w' : World} (h:CsC B W w) (hf:Fr (fun k=>k=B+2) w w') (ht:∃y,w'.cell? ⟨B+2,0,none⟩=some y) (hk:Blk w' (B+2)):CsC B W w' :=
 ⟨h.fr.trans (hf.mono (fun _ _ e=>Or.inr (Or.inr e))),h.t0.imp fun _ e=>⟨e.1,fun j y hj=>hf.cell (e.2 j y hj) (by show ¬B=B+2;omega)⟩,h.k0.fr hf (by omega),h.t1.imp fun _ e=>hf.cell e (by show ¬B+1=B+2;omega),h.k1.fr hf (by omega),ht,hk⟩
namespace R2
theorem catch_stop {w:World} {B:Nat} {q:Nat} {c0 c1 c2 c3 c4 c5 x1 x2:Value} (Gc:List PanicEntry) (hr:w.rangeAt B 0 [c0,c1,c2,c3,c4,c5]) (hk:Blk w B) (h1:w.cell? ⟨B+1,0,none⟩=some x1) (z1:Blk w (B+1)) (h2:w.cell? ⟨B+2,0,none⟩=some x2) (z2:Blk w (B+2)) :
  CallsD Tryz.prog 45 #[.pointer (some ⟨B,0,none⟩),.pointer (some ⟨B+1,0,none⟩),.pointer (some ⟨B+2,0,none⟩)] (.panicking ({ v:=.iface 68 (.agg #[.int .i64 (q:Int)]),recovered:=false } :: Gc)) w fun e u' w' =>
   e=.returned (.tuple #[])/\u' = .panicking ({ v:=.iface 68 (.agg #[.int .i64 (q:Int)]),recovered:=true } :: Gc) /\
   w'.rangeAt B 0 [.int .i64 0,.string ⟨#[]⟩,.int .i64 0,.float .f64 0,.bool false,.slice none 0 0]/\w'.cell? ⟨B+1,0,none⟩=some (.int .i64 0)/\w'.cell? ⟨B+2,0,none⟩=some (.int .i64 (q:Int))/\Fr (fun k=>k=B\/k=B+1\/k=B+2) w w' := by
 have htC:=Hd (Af (n:=6) hr hk rfl);have hf1:=z1.frz 0 none;have hf2:=z2.frz 0 none;refine callsD_of_wpS Tryz.func45 rfl fun c₀ cs hu=>?_;change Code.wpS _ _ _ { tmps:=#[.pointer (some ⟨B,0,none⟩),.pointer (some ⟨B+1,0,none⟩),.pointer (some ⟨B+2,0,none⟩),undef,undef,undef,undef,undef,undef,undef,undef,undef,undef,undef,undef],defers:=[] } _ _;apply wpS_seq;apply wpS_region;simp [wpOpsS,go_sem,recoverD,hu,Exit.thenS];refine wpS_of_wp ?_;go_upto_region 7 with fail
 obtain ⟨W,hW⟩:∃W,W=w.alloc (.cells #[.int .i64 (q:Int)] 68):=⟨_,rfl⟩;obtain ⟨M,hM0⟩:∃M,M=w.heap.size:=⟨_,rfl⟩;have z:W.cell? ⟨M,0,none⟩=some (.int .i64 (q:Int)):=by rw [hW,hM0,World.cell?_alloc_new];rfl
 have hB2:B+2<M:=by rw [hM0];exact z2.lt
 have hM:¬(M=B\/M=B+1\/M=B+2):=by omega
 have f:Below w.heap.size w W:=by rw [hW];exact (Below.refl _ _).alloc (Nat.le_refl _) _
 have ae:CsC B W W.drew:=⟨(Fr.refl _ _).drew,⟨_,rfl,fun j y hj=>Aa f _ _ (hr j y hj)⟩,(hk.of_block (f.block _ hk.lt)).drew,⟨_,Aa f _ _ h1⟩,(z1.of_block (f.block _ z1.lt)).drew,⟨_,Aa f _ _ h2⟩,(z2.of_block (f.block _ z2.lt)).drew⟩;have af:=Fr.of_below f;rw [<-hW,<-hM0];refine wp_region_rely (l:=[_,_,_,_,_,_]) (CsC B W) (fun _=>True) (csR B) (fun o=>([fun v _=>v=.agg #[.int .i64 0,.string ⟨#[]⟩,.int .i64 0,.float .f64 0,.bool false,.slice none 0 0],fun v _=>v=.pointer (some ⟨M,0,none⟩),fun v _=>v=.int .i64 (q:Int),fun v w=>w.rangeAt B 0 [.int .i64 0,.string ⟨#[]⟩,.int .i64 0,.float .f64 0,.bool false,.slice none 0 0],fun v w=>w.cell? ⟨B+1,0,none⟩=some (.int .i64 0),fun v w=>w.cell? ⟨B+2,0,none⟩=some (.int .i64 (q:Int))]:List (Value->World->Prop)).getD o (fun _ _=>True)) (eats []) (isIn []) (by kernel_rfl) (by kernel_rfl) (by kernel_rfl) ae trivial ?_ ?_ ?_ ?_
 ·intro i o u w w' b hE hg hr
  rcases o with _ | _ | _ | _ | _ | _ | o
  ·exact hg
  ·exact hg
  ·exact hg
  ·replace hg:(fun (v:Value) (w:World)=>w.rangeAt B 0 [.int .i64 0,.string ⟨#[]⟩,.int .i64 0,.float .f64 0,.bool false,.slice none 0 0]) u w:=hg
   show (fun (v:Value) (w:World)=>w.rangeAt B 0 [.int .i64 0,.string ⟨#[]⟩,.int .i64 0,.float .f64 0,.bool false,.slice none 0 0]) u w';dsimp only at hg ⊢;replace hE:exB _ _ i 3=false:=hE;replace b:3≠i:=b;unfold csR at hr;split at hr
   all_goals first
    | exact absurd rfl b
    | exact absurd (hE.symm.trans (by decide +kernel:exB _ _ _ _=true)) (by decide)
    | (subst hr;exact hg)
    | ((intro j y hj;exact hr.cell (hg j y hj) (by show ¬B=_;omega)))
  ·replace hg:(fun (v:Value) (w:World)=>w.cell? ⟨B+1,0,none⟩=some (.int .i64 0)) u w:=hg
   show (fun (v:Value) (w:World)=>w.cell? ⟨B+1,0,none⟩=some (.int .i64 0)) u w';dsimp only at hg ⊢;replace hE:exB _ _ i 4=false:=hE;replace b:4≠i:=b;unfold csR at hr;split at hr
   all_goals first
    | exact absurd rfl b
    | exact absurd (hE.symm.trans (by decide +kernel:exB _ _ _ _=true)) (by decide)
    | (subst hr;exact hg)
    | ((exact hr.cell hg (by show ¬B+1=_;omega)))
  ·replace hg:(fun (v:Value) (w:World)=>w.cell? ⟨B+2,0,none⟩=some (.int .i64 (q:Int))) u w:=hg
   show (fun (v:Value) (w:World)=>w.cell? ⟨B+2,0,none⟩=some (.int .i64 (q:Int))) u w';dsimp only at hg ⊢;replace hE:exB _ _ i 5=false:=hE;replace b:5≠i:=b;unfold csR at hr;split at hr
   all_goals first
    | exact absurd rfl b
    | exact absurd (hE.symm.trans (by decide +kernel:exB _ _ _ _=true)) (by decide)
    | (subst hr;exact hg)
    | ((exact hr.cell hg (by show ¬B+2=_;omega)))
  ·trivial
 ·exact fun _ _ _ _ _ _=>trivial
 ·refine ⟨?_,?_,?_,?_,?_,?_,trivial⟩
  ·refine VC.plain rfl fun a wx hf=>?_
   exact gives_value (by simp [go_sem,Tryz.underlying26]) ⟨hf.c,rfl,rfl⟩
  ·refine VC.plain rfl fun a wx hf=>?_
   have s4:=hf.old 4 (by first | rfl | kernel_rfl);have q4:=Be s4;exact gives_value (by simp [go_sem,q4]) ⟨hf.c,rfl,rfl⟩
  ·refine VC.plain rfl fun a wx hf=>?_
   obtain ⟨ai,ab,s⟩:=hf.got 1 (by kernel_rfl) (by intro j hj;simp [eats] at hj) rfl rfl;replace s:=s.trans (show ai=.pointer (some ⟨M,0,none⟩) from ab);clear ab;have ag:=Be s;exact gives_value (by simp [go_sem,ag,Fr.cell (p:=⟨M,0,none⟩) hf.c.fr z hM]) ⟨hf.c,rfl,rfl⟩
  ·refine VC.plain rfl fun a wx hf=>?_
   have s0:=hf.old 0 (by first | rfl | kernel_rfl);have q0:=Be s0;obtain ⟨aj,ac,r⟩:=hf.got 0 (by kernel_rfl) (by intro j hj;simp [eats] at hj) rfl rfl;replace r:=r.trans (show aj=.agg #[.int .i64 0,.string ⟨#[]⟩,.int .i64 0,.float .f64 0,.bool false,.slice none 0 0] from ac);clear ac;have q12:=Be r;obtain ⟨ys,g,ak⟩:=hf.c.t0;have ht:=Af (n:=6) ak hf.c.k0 g.symm;have d:Fr (fun k=>k=B) wx (wx.setCells B 0 [.int .i64 0,.string ⟨#[]⟩,.int .i64 0,.float .f64 0,.bool false,.slice none 0 0]):=Fr.setCells (S:=fun k=>k=B) (fun _=>rfl) _ _ _ (Fr.refl _ _);have aa:=World.rangeAt_setCells_same _ _ _ [Value.int .i64 0,.string ⟨#[]⟩,.int .i64 0,.float .f64 0,.bool false,.slice none 0 0] ht;exact Eg rfl (s0.trans rfl) r ht Ad (one6 _ _ _ _ _ _ _ _) ⟨hf.c.set0 d ⟨_,rfl,aa⟩ (Blk.setCells _ _ _ hf.c.k0),d,aa⟩
  ·refine VC.plain rfl fun a wx hf=>?_
   have s1:=hf.old 1 (by first | rfl | kernel_rfl);have q1:=Be s1;obtain ⟨y1,g⟩:=hf.c.t1;have d:Fr (fun k=>k=B+1) wx (wx.setCell ⟨B+1,0,none⟩ (.int .i64 0)):=Fr.setCell (S:=fun k=>k=B+1) (Fr.refl _ _) (fun _=>rfl) _;have h:(wx.setCell ⟨B+1,0,none⟩ (.int .i64 0)).cell? ⟨B+1,0,none⟩=some (.int .i64 0):=Ak g;exact gives_skip (w' := wx.setCell ⟨B+1,0,none⟩ (.int .i64 0)) (by simp [go_sem,q1,g,hf.c.k1.frz 0 none]) ⟨hf.c.set1 d ⟨_,h⟩ (hf.c.k1.setCell _ _),d,h⟩
  ·refine VC.plain rfl fun a wx hf=>?_
   have s2:=hf.old 2 (by first | rfl | kernel_rfl);have q2:=Be s2;obtain ⟨al,ad,t⟩:=hf.got 2 (by kernel_rfl) (by intro j hj;simp [eats] at hj) rfl rfl;replace t:=t.trans (show al=.int .i64 (q:Int) from ad);clear ad;have ah:=Be t;obtain ⟨y1,g⟩:=hf.c.t2;have d:Fr (fun k=>k=B+2) wx (wx.setCell ⟨B+2,0,none⟩ (.int .i64 (q:Int))):=Fr.setCell (S:=fun k=>k=B+2) (Fr.refl _ _) (fun _=>rfl) _;have h:(wx.setCell ⟨B+2,0,none⟩ (.int .i64 (q:Int))).cell? ⟨B+2,0,none⟩=some (.int .i64 (q:Int)):=Ak g;exact gives_skip (w' := wx.setCell ⟨B+2,0,none⟩ (.int .i64 (q:Int))) (by simp [go_sem,q2,ah,g,hf.c.k2.frz 0 none]) ⟨hf.c.set2 d ⟨_,h⟩ (hf.c.k2.setCell _ _),d,h⟩
 ·intro vs w5 hC hG
  have g3:=Hd (hG 3 (by decide) (by intro i hi;simp [eats]));have g4:=Hd (hG 4 (by decide) (by intro i hi;simp [eats]));have g5:=Hd (hG 5 (by decide) (by intro i hi;simp [eats]));clear hG;have m:Fr (fun k=>k=B\/k=B+1\/k=B+2) w w5:=Fr.trans (af.mono (fun i hi e=>absurd hi (Nat.not_lt_of_le e))) hC.fr;replace m:=Hd m;simp only [A6,Act.put,List.setIfInBounds_toArray,List.set_cons_zero,List.set_cons_succ];go_wp2_with fail
  refine ⟨rfl,_,rfl,.tuple #[],by simp [results,Tryz.results45,go_sem],rfl,?_,g3.out,g4.out,g5.out,m.out⟩;rfl
end R2
def Fl (out:Out (V × Nat × Nat)) (w:World) (e:Ending) (w' : World):Prop:=
 match out with
 | .stop q=>e=.returned (.tuple #[.agg #[.int .i64 0,.string ⟨#[]⟩,.int .i64 0,.float .f64 0,.bool false,.slice none 0 0],.int .i64 0,.int .i64 (q:Int)])/\Below w.heap.size w w'
 | .got (v,u,_)=>∃(a:Option Addr) (ca:Nat),e=.returned (.tuple #[.agg #[.int .i64 v.kind,.string v.text,.int .i64 v.int,.float .f64 v.real,.bool v.flag,.slice a v.list.length ca],.int .i64 (u:Int),.int .i64 0]) /\
   RV (Bh w.heap.size w') (Ao v.kind v.text v.int v.real v.flag a v.list.length ca) v/\Below w.heap.size w w'
structure PS (rp:Rp) (b o n cap:Nat) (s:ByteArray) (w W:World):Prop where
 r0:W.rangeAt w.heap.size 0 [.int .i64 0,.string ⟨#[]⟩,.int .i64 0,.float .f64 0,.bool false,.slice none 0 0]
 k0:Blk W w.heap.size
 c1:W.cell? ⟨w.heap.size+1,0,none⟩=some (.int .i64 0)
 k1:Blk W (w.heap.size+1)
 c2:W.cell? ⟨w.heap.size+1+1,0,none⟩=some (.int .i64 0)
 k2:Blk W (w.heap.size+1+1)
 rs:RS rp w W (w.heap.size+1+1+1) b o n cap s 0 1
 below:Below w.heap.size w W
theorem PS.start {rp:Rp} {w:World} {b o n cap:Nat} {s:ByteArray} {t1 t2 t3:TypeId} (hB:Lib.Bytes w b o s) (hs:s.size=n) (hr:n<=cap) (hbig:n<=1000000000) (hE:Env rp w s) (hbw:b<w.heap.size) :
  PS rp b o n cap s w ((((w.alloc (.cells #[.int .i64 0,.string ⟨#[]⟩,.int .i64 0,.float .f64 0,.bool false,.slice none 0 0] 26)).alloc (.cells #[.int .i64 0] t1)).alloc (.cells #[.int .i64 0] t2)).alloc (.cells #[.slice (some ⟨b,o,none⟩) n cap,.int .i64 0,.int .i64 1] t3)):=by
 obtain ⟨W1,hW1⟩:∃W1,W1=w.alloc (.cells #[.int .i64 0,.string ⟨#[]⟩,.int .i64 0,.float .f64 0,.bool false,.slice none 0 0] 26):=⟨_,rfl⟩;obtain ⟨W2,hW2⟩:∃W2,W2=W1.alloc (.cells #[.int .i64 0] t1):=⟨_,rfl⟩;obtain ⟨W3,hW3⟩:∃W3,W3=W2.alloc (.cells #[.int .i64 0] t2):=⟨_,rfl⟩;obtain ⟨W4,hW4⟩:∃W4,W4=W3.alloc (.cells #[.slice (some ⟨b,o,none⟩) n cap,.int .i64 0,.int .i64 1] t3):=⟨_,rfl⟩;rw [<-hW1,<-hW2,<-hW3,<-hW4];have s1:W1.heap.size=w.heap.size+1:=by rw [hW1];simp
 have s2:W2.heap.size=w.heap.size+1+1:=by rw [hW2];simp [s1]
 have s3:W3.heap.size=w.heap.size+1+1+1:=by rw [hW3];simp [s2]
 have b1:Below w.heap.size w W1:=by rw [hW1];exact (Below.refl _ _).alloc (Nat.le_refl _) _
 have b2:Below W1.heap.size W1 W2:=by rw [hW2];exact (Below.refl _ _).alloc (Nat.le_refl _) _
 have b3:Below W2.heap.size W2 W3:=by rw [hW3];exact (Below.refl _ _).alloc (Nat.le_refl _) _
 have b4:Below W3.heap.size W3 W4:=by rw [hW4];exact (Below.refl _ _).alloc (Nat.le_refl _) _
 have a:=b3.trans (b4.mono b3.size);have c:=b2.trans (a.mono b2.size);have d:=b1.trans (c.mono b1.size);have r1:W1.rangeAt w.heap.size 0 [.int .i64 0,.string ⟨#[]⟩,.int .i64 0,.float .f64 0,.bool false,.slice none 0 0]:=by
  rw [hW1];intro j y hj;rw [Nat.zero_add,World.cell?_alloc_new];simpa using hj
 have k1:Blk W1 w.heap.size:=by rw [hW1];exact Blk.new _ _ _
 have k2:Blk W2 W1.heap.size:=by rw [hW2];exact Blk.new _ _ _
 have k3:Blk W3 W2.heap.size:=by rw [hW3];exact Blk.new _ _ _
 have k4:Blk W4 W3.heap.size:=by rw [hW4];exact Blk.new _ _ _
 have e2:W2.cell? ⟨W1.heap.size,0,none⟩=some (.int .i64 0):=by rw [hW2,World.cell?_alloc_new];rfl
 have e3:W3.cell? ⟨W2.heap.size,0,none⟩=some (.int .i64 0):=by rw [hW3,World.cell?_alloc_new];rfl
 have f0:W4.cell? ⟨W3.heap.size,0,none⟩=some (.slice (some ⟨b,o,none⟩) n cap):=by rw [hW4,World.cell?_alloc_new];rfl
 have f1:W4.cell? ⟨W3.heap.size,1,none⟩=some (.int .i64 0):=by rw [hW4,World.cell?_alloc_new];rfl
 have f2:W4.cell? ⟨W3.heap.size,2,none⟩=some (.int .i64 1):=by rw [hW4,World.cell?_alloc_new];rfl
 have g2:=Aa a _ _ e2;have g3:=Aa b4 _ _ e3;have h2:=k2.of_block (a.block _ k2.lt);have h3:=k3.of_block (b4.block _ k3.lt);rw [s1] at g2 h2;rw [s2] at g3 h3;rw [s3] at f0 f1 f2 k4;exact ⟨fun j y hj=>Aa c _ _ (r1 j y hj),k1.of_block (c.block _ k1.lt),g2,h2,g3,h3,⟨⟨f0,f1,f2,k4,B6 hB d,hs,by omega,hr,hbig⟩,hE,d,by omega,Nat.zero_le _⟩,d⟩
theorem newer_frS {B x:Nat} {S:Nat->Prop} {w w' : World} (hf:Fr S w w') (hS:∀i,x<=i->¬S i) (hB:B<=x):∀a u,Bh x w a=some u->Bh B w' a=some u:=fun a u h=>by
 obtain ⟨h1,h2⟩:=Dw h;unfold Bh;rw [if_neg (by omega)];exact hf.cell h1 (hS _ h2)
def csP (B:Nat) (i:Nat) (w w' : World):Prop:=match i with
 | 5=>Fr (fun k=>k=B) w w'
 | 6=>Fr (fun k=>k=B+1) w w'
 | 7=>Fr (fun k=>k=B+2) w w'
 | _=>w' = w
structure CsV (B:Nat) (ys:List Value) (W w:World):Prop where
 c:CsC B W w
 r:w.rangeAt B 0 ys
namespace R2
theorem parse_any {rp:Rp} {w:World} {b o n cap:Nat} {s:ByteArray} (hB:Lib.Bytes w b o s) (hs:s.size=n) (hr:n<=cap) (hbig:n<=1000000000) (hE:Env rp w s) (hbw:b<w.heap.size) (hnd:Dj rp 8 1 s.data.toList) :
  Calls Tryz.prog 24 #[.slice (some ⟨b,o,none⟩) n cap] w (Fl (At rp 8 1 s.data.toList) w):=by
 have hmf:∀(fn:Fn) (first cap:Array Value) (w:World),(Instr.makeFunc fn first cap).run Tryz.prog w=.ok (.func fn first cap) w:=fun _ _ _ _=>rfl
 go_enter_defers Tryz.func24,Tryz.ntmps24
 go_wp2_with fail
 have hP:=PS.start (t1:=3) (t2:=37) (t3:=71) hB hs hr hbig hE hbw;generalize (((w.alloc (.cells #[Value.int .i64 0,.string ⟨#[]⟩,.int .i64 0,.float .f64 0,.bool false,.slice none 0 0] 26)).alloc (.cells #[Value.int .i64 0] 3)).alloc (.cells #[Value.int .i64 0] 37)).alloc (.cells #[Value.slice (some ⟨b,o,none⟩) n cap,.int .i64 0,.int .i64 1] 71)=W at hP ⊢;have hv:=value_any (rp:=rp) (g:=w.heap.size+1+1+1) (o:=o) (n:=n) (cap:=cap) (s:=s) hbw 8 (Nat.le_refl _) W 0 1 hP.rs (by omega) hnd;rw [List.drop_zero,show (8:Int) - ((8:Nat):Int)=0 by omega] at hv;refine hv.mono fun e W8 he=>?_;cases hsc:At rp 8 1 s.data.toList with
 | stop q=>
  rw [hsc] at he;obtain ⟨rfl,h⟩:=he;have af:¬w.heap.size=w.heap.size+1+1+1:=by omega
  have ag:¬w.heap.size+1=w.heap.size+1+1+1:=by omega
  have ah:¬w.heap.size+1+1=w.heap.size+1+1+1:=by omega
  refine leaves_cons (f:=45) (args:=#[.pointer (some ⟨w.heap.size,0,none⟩),.pointer (some ⟨w.heap.size+1,0,none⟩),.pointer (some ⟨w.heap.size+1+1,0,none⟩)]) (by simp) (by simp [go_sem]) ?_;refine (R2.catch_stop (w:=W8) (B:=w.heap.size) [] (fun j y hj=>h.cell (hP.r0 j y hj) af) (hP.k0.fr h af) (h.cell hP.c1 ag) (hP.k1.fr h ag) (h.cell hP.c2 ah) (hP.k2.fr h ah)).mono ?_;rintro e u' a3 ⟨rfl,rfl,aa,bh,bi,bj⟩;have z:Below w.heap.size w a3 := (hP.below.trans (h.below hP.below.size (fun i hi e=>by omega))).trans (bj.below (Nat.le_trans hP.below.size h.size) (fun i hi e=>by omega));have e0:=aa 0 _ rfl;have e1:=aa 1 _ rfl;have e2:=aa 2 _ rfl;have e3:=aa 3 _ rfl;have e4:=aa 4 _ rfl;have e5:=aa 5 _ rfl;simp only [Nat.zero_add] at e0 e1 e2 e3 e4 e5;replace z:=Hd z;simp [Leaves,settle,results,Tryz.results24,go_sem,e0,e1,e2,e3,e4,e5,bh,bi,Fl]
  exact z.out
 | got r=>
  obtain ⟨vv,uu,mm⟩:=r;rw [hsc] at he;obtain ⟨m,t,rfl,a4,h,a5⟩:=he;have af:¬w.heap.size=w.heap.size+1+1+1:=by omega
  have ag:¬w.heap.size+1=w.heap.size+1+1+1:=by omega
  have ah:¬w.heap.size+1+1=w.heap.size+1+1+1:=by omega
  have ai:=Af (n:=6) (fun j y hj=>h.cell (hP.r0 j y hj) af) (hP.k0.fr h af) rfl;have aj:Below w.heap.size w W8:=hP.below.trans (h.below hP.below.size (fun i hi e=>by omega));have d:Fr (fun k=>k=w.heap.size) W8 (W8.setCells w.heap.size 0 [.int .i64 vv.kind,.string vv.text,.int .i64 vv.int,.float .f64 vv.real,.bool vv.flag,.slice m vv.list.length t]):=Fr.setCells (S:=fun k=>k=w.heap.size) (fun _=>rfl) _ _ _ (Fr.refl _ _);have aa:=World.rangeAt_setCells_same _ _ _ [Value.int .i64 vv.kind,.string vv.text,.int .i64 vv.int,.float .f64 vv.real,.bool vv.flag,.slice m vv.list.length t] ai;have aw:=Blk.setCells (b:=w.heap.size) [.int .i64 vv.kind,.string vv.text,.int .i64 vv.int,.float .f64 vv.real,.bool vv.flag,.slice m vv.list.length t] 0 W8 (hP.k0.fr h af);have ak:=d.cell (h.cell hP.c1 ag) (by show ¬w.heap.size+1=w.heap.size;omega)
  have al:=d.cell (h.cell hP.c2 ah) (by show ¬w.heap.size+1+1=w.heap.size;omega);have am:=(hP.k1.fr h ag).fr d (by omega);have ae:=(hP.k2.fr h ah).fr d (by omega);have ax:=d.cell a5.scan.c1 (by show ¬w.heap.size+1+1+1=w.heap.size;omega);rw [Nat.zero_add] at ax;have ab:Below w.heap.size w (W8.setCells w.heap.size 0 [.int .i64 vv.kind,.string vv.text,.int .i64 vv.int,.float .f64 vv.real,.bool vv.flag,.slice m vv.list.length t]):=aj.trans (d.below aj.size (fun i hi e=>by omega));have hWs:w.heap.size+1+1+1<W.heap.size:=hP.rs.scan.blk.lt;replace ai:=Hd ai;replace hP:=Hd hP;replace hE:=Hd hE;clear hnd;replace hB:=Hd hB;replace hsc:=Hd hsc;go_upto_region 4 with (refine wpList_store_mid rfl 26 _ _ rfl w.heap.size 0 _ rfl rfl ai.out Ad (one6 _ _ _ _ _ _ _ _) ?_)
  dsimp only [Act.put];generalize W8.setCells w.heap.size 0 [Value.int .i64 vv.kind,.string vv.text,.int .i64 vv.int,.float .f64 vv.real,.bool vv.flag,.slice m vv.list.length t]=W9 at *;obtain ⟨B,hBw⟩:∃B,B=w.heap.size:=⟨_,rfl⟩;obtain ⟨G0,hG0⟩:∃G0,G0=w.heap.size+1+1+1:=⟨_,rfl⟩;have bb:¬(G0=B\/G0=B+1\/G0=B+2):=by omega
  have an:RV (Bh W.heap.size W9) (Ao vv.kind vv.text vv.int vv.real vv.flag m vv.list.length t) vv:=a4.mono (newer_frS d (fun i hi e=>by omega) (Nat.le_refl _));have a2:=ae.lt;replace an:=Hd an;replace ab:=Hd ab;rw [<-hG0,<-hBw];rw [<-hG0] at ax;rw [<-hBw] at aa aw ak am al ae a2;have bc:CsV B [.int .i64 vv.kind,.string vv.text,.int .i64 vv.int,.float .f64 vv.real,.bool vv.flag,.slice m vv.list.length t] W9 W9.drew:=⟨⟨(Fr.refl _ _).drew,⟨_,rfl,aa⟩,aw.drew,⟨_,ak⟩,am.drew,⟨_,al⟩,ae.drew⟩,aa⟩;clear aa aw ak al am ae d a4 ai a5 h aj
  refine wp_region_rely (l:=[_,_,_,_,_,_,_,_]) (CsV B [.int .i64 vv.kind,.string vv.text,.int .i64 vv.int,.float .f64 vv.real,.bool vv.flag,.slice m vv.list.length t] W9) (fun _=>True) (csP B) (fun au=>([fun v _=>v=.agg #[.int .i64 vv.kind,.string vv.text,.int .i64 vv.int,.float .f64 vv.real,.bool vv.flag,.slice m vv.list.length t],fun v _=>v=.pointer (some ⟨G0,0,none⟩),fun v _=>v=.pointer (some ⟨G0,0,none⟩),fun v _=>v=.pointer (some ⟨G0,1,none⟩),fun v _=>v=.int .i64 (uu:Int),fun v w=>w.rangeAt B 0 [.int .i64 vv.kind,.string vv.text,.int .i64 vv.int,.float .f64 vv.real,.bool vv.flag,.slice m vv.list.length t],fun v w=>w.cell? ⟨B+1,0,none⟩=some (.int .i64 (uu:Int)),fun v w=>w.cell? ⟨B+2,0,none⟩=some (.int .i64 0)]:List (Value->World->Prop)).getD au (fun _ _=>True)) (eats []) (isIn []) (by kernel_rfl) (by kernel_rfl) (by kernel_rfl) bc trivial ?_ ?_ ?_ ?_
  ·intro i au u w w' ac hE hg hr
   rcases au with _ | _ | _ | _ | _ | _ | _ | _ | au
   ·exact hg
   ·exact hg
   ·exact hg
   ·exact hg
   ·exact hg
   ·replace hg:(fun (v:Value) (w:World)=>w.rangeAt B 0 [.int .i64 vv.kind,.string vv.text,.int .i64 vv.int,.float .f64 vv.real,.bool vv.flag,.slice m vv.list.length t]) u w:=hg
    show (fun (v:Value) (w:World)=>w.rangeAt B 0 [.int .i64 vv.kind,.string vv.text,.int .i64 vv.int,.float .f64 vv.real,.bool vv.flag,.slice m vv.list.length t]) u w';dsimp only at hg ⊢;replace hE:exB _ _ i 5=false:=hE;replace ac:5≠i:=ac;unfold csP at hr;split at hr
    all_goals first
     | exact absurd rfl ac
     | exact absurd (hE.symm.trans (by decide +kernel:exB _ _ _ _=true)) (by decide)
     | (subst hr;exact hg)
     | ((intro j y hj;exact hr.cell (hg j y hj) (by show ¬B=_;omega)))
   ·replace hg:(fun (v:Value) (w:World)=>w.cell? ⟨B+1,0,none⟩=some (.int .i64 (uu:Int))) u w:=hg
    show (fun (v:Value) (w:World)=>w.cell? ⟨B+1,0,none⟩=some (.int .i64 (uu:Int))) u w';dsimp only at hg ⊢;replace hE:exB _ _ i 6=false:=hE;replace ac:6≠i:=ac;unfold csP at hr;split at hr
    all_goals first
     | exact absurd rfl ac
     | exact absurd (hE.symm.trans (by decide +kernel:exB _ _ _ _=true)) (by decide)
     | (subst hr;exact hg)
     | ((exact hr.cell hg (by show ¬B+1=_;omega)))
   ·replace hg:(fun (v:Value) (w:World)=>w.cell? ⟨B+2,0,none⟩=some (.int .i64 0)) u w:=hg
    show (fun (v:Value) (w:World)=>w.cell? ⟨B+2,0,none⟩=some (.int .i64 0)) u w';dsimp only at hg ⊢;replace hE:exB _ _ i 7=false:=hE;replace ac:7≠i:=ac;unfold csP at hr;split at hr
    all_goals first
     | exact absurd rfl ac
     | exact absurd (hE.symm.trans (by decide +kernel:exB _ _ _ _=true)) (by decide)
     | (subst hr;exact hg)
     | ((exact hr.cell hg (by show ¬B+2=_;omega)))
   ·trivial
  ·exact fun _ _ _ _ _ _=>trivial
  ·refine ⟨?_,?_,?_,?_,?_,?_,?_,?_,trivial⟩
   ·refine VC.plain rfl fun a wx hf=>?_
    have s2:=hf.old 2 (by first | rfl | kernel_rfl);have q2:=Be s2;exact gives_load_mid rfl (s2.trans rfl) hf.c.r Tryz.underlying26 rfl Ad ⟨hf.c,rfl,rfl⟩
   ·refine VC.plain rfl fun a wx hf=>?_
    have s5:=hf.old 5 (by first | rfl | kernel_rfl);have q5:=Be s5;exact gives_value (by simp [go_sem,q5]) ⟨hf.c,rfl,rfl⟩
   ·refine VC.plain rfl fun a wx hf=>?_
    obtain ⟨bk,a6,ay⟩:=hf.got 1 (by kernel_rfl) (by intro j hj;simp [eats] at hj) rfl rfl;replace ay:=ay.trans (show bk=.pointer (some ⟨G0,0,none⟩) from a6);clear a6;have bd:=Be ay;exact gives_value (by simp [go_sem,bd]) ⟨hf.c,rfl,rfl⟩
   ·refine VC.plain rfl fun a wx hf=>?_
    obtain ⟨bl,a7,az⟩:=hf.got 2 (by kernel_rfl) (by intro j hj;simp [eats] at hj) rfl rfl;replace az:=az.trans (show bl=.pointer (some ⟨G0,0,none⟩) from a7);clear a7;have be:=Be az;exact gives_value (by simp [go_sem,be]) ⟨hf.c,rfl,rfl⟩
   ·refine VC.plain rfl fun a wx hf=>?_
    obtain ⟨bm,a8,a0⟩:=hf.got 3 (by kernel_rfl) (by intro j hj;simp [eats] at hj) rfl rfl;replace a0:=a0.trans (show bm=.pointer (some ⟨G0,1,none⟩) from a8);clear a8;have bf:=Be a0;exact gives_value (by simp [go_sem,bf,Fr.cell (p:=⟨G0,1,none⟩) hf.c.c.fr ax bb]) ⟨hf.c,rfl,rfl⟩
   ·refine VC.plain rfl fun a wx hf=>?_
    have s2:=hf.old 2 (by first | rfl | kernel_rfl);have q2:=Be s2;obtain ⟨bn,a9,av⟩:=hf.got 0 (by kernel_rfl) (by intro j hj;simp [eats] at hj) rfl rfl;replace av:=av.trans (show bn=.agg #[.int .i64 vv.kind,.string vv.text,.int .i64 vv.int,.float .f64 vv.real,.bool vv.flag,.slice m vv.list.length t] from a9);clear a9;have q12:=Be av;have ht:=Af (n:=6) hf.c.r hf.c.c.k0 rfl;have d:Fr (fun k=>k=B) wx (wx.setCells B 0 [.int .i64 vv.kind,.string vv.text,.int .i64 vv.int,.float .f64 vv.real,.bool vv.flag,.slice m vv.list.length t]):=Fr.setCells (S:=fun k=>k=B) (fun _=>rfl) _ _ _ (Fr.refl _ _);have ao:=World.rangeAt_setCells_same _ _ _ [Value.int .i64 vv.kind,.string vv.text,.int .i64 vv.int,.float .f64 vv.real,.bool vv.flag,.slice m vv.list.length t] ht
    exact Eg rfl (s2.trans rfl) av ht Ad (one6 _ _ _ _ _ _ _ _) ⟨⟨hf.c.c.set0 d ⟨_,rfl,ao⟩ (Blk.setCells _ _ _ hf.c.c.k0),ao⟩,d,ao⟩
   ·refine VC.plain rfl fun a wx hf=>?_
    have s3:=hf.old 3 (by first | rfl | kernel_rfl);have q3:=Be s3;obtain ⟨bo,ba,a1⟩:=hf.got 4 (by kernel_rfl) (by intro j hj;simp [eats] at hj) rfl rfl;replace a1:=a1.trans (show bo=.int .i64 (uu:Int) from ba);clear ba;have bg:=Be a1;obtain ⟨y1,ar⟩:=hf.c.c.t1;have d:Fr (fun k=>k=B+1) wx (wx.setCell ⟨B+1,0,none⟩ (.int .i64 (uu:Int))):=Fr.setCell (S:=fun k=>k=B+1) (Fr.refl _ _) (fun _=>rfl) _;have ap:(wx.setCell ⟨B+1,0,none⟩ (.int .i64 (uu:Int))).cell? ⟨B+1,0,none⟩=some (.int .i64 (uu:Int)):=Ak ar;exact gives_skip (w' := wx.setCell ⟨B+1,0,none⟩ (.int .i64 (uu:Int))) (by simp [go_sem,q3,bg,ar,hf.c.c.k1.frz 0 none]) ⟨⟨hf.c.c.set1 d ⟨_,ap⟩ (hf.c.c.k1.setCell _ _),fun j y hj=>d.cell (hf.c.r j y hj) (by show ¬B=B+1;omega)⟩,d,ap⟩
   ·refine VC.plain rfl fun a wx hf=>?_
    have s4:=hf.old 4 (by first | rfl | kernel_rfl);have q4:=Be s4;obtain ⟨y1,ar⟩:=hf.c.c.t2;have d:Fr (fun k=>k=B+2) wx (wx.setCell ⟨B+2,0,none⟩ (.int .i64 0)):=Fr.setCell (S:=fun k=>k=B+2) (Fr.refl _ _) (fun _=>rfl) _;have ap:(wx.setCell ⟨B+2,0,none⟩ (.int .i64 0)).cell? ⟨B+2,0,none⟩=some (.int .i64 0):=Ak ar;exact gives_skip (w' := wx.setCell ⟨B+2,0,none⟩ (.int .i64 0)) (by simp [go_sem,q4,ar,hf.c.c.k2.frz 0 none]) ⟨⟨hf.c.c.set2 d ⟨_,ap⟩ (hf.c.c.k2.setCell _ _),fun j y hj=>d.cell (hf.c.r j y hj) (by show ¬B=B+2;omega)⟩,d,ap⟩
  ·intro vs w5 hC hG
   have g6:w5.cell? ⟨B+1,0,none⟩=some (.int .i64 (uu:Int)):=hG 6 (by decide) (by intro i hi;simp [eats]);have g7:w5.cell? ⟨B+2,0,none⟩=some (.int .i64 0):=hG 7 (by decide) (by intro i hi;simp [eats]);clear hG;have ad:=hC.r;have z:=ab.out.trans (hC.c.fr.below ab.out.size (fun i hi e=>by omega));have aq:RV (Bh w.heap.size w5) (Ao vv.kind vv.text vv.int vv.real vv.flag m vv.list.length t) vv:=an.out.mono (newer_frS hC.c.fr (fun i hi e=>by omega) (by omega));clear hC;have e0:=ad 0 _ rfl;have e1:=ad 1 _ rfl;have e2:=ad 2 _ rfl;have e3:=ad 3 _ rfl;have e4:=ad 4 _ rfl;have e5:=ad 5 _ rfl;simp only [Nat.zero_add] at e0 e1 e2 e3 e4 e5;replace ad:=Hd ad;replace z:=Hd z;replace aq:=Hd aq;replace e0:=Hd e0;replace e1:=Hd e1;replace e2:=Hd e2;replace e3:=Hd e3;replace e4:=Hd e4;replace e5:=Hd e5;replace g6:=Hd g6;replace g7:=Hd g7
   simp only [A6,Act.put,List.setIfInBounds_toArray,List.set_cons_zero,List.set_cons_succ];go_wp2_with fail
   subst hBw;refine leaves_cons (f:=45) (args:=#[.pointer (some ⟨w.heap.size,0,none⟩),.pointer (some ⟨w.heap.size+1,0,none⟩),.pointer (some ⟨w.heap.size+1+1,0,none⟩)]) (by simp) (by simp [go_sem]) ?_;refine (catch_idle _ _ _ w5).mono ?_;rintro e u' a3 ⟨rfl,rfl,bp⟩;obtain rfl:=bp.symm;have hQ:Fl (.got (vv,uu,mm)) w (.returned (.tuple #[.agg #[.int .i64 vv.kind,.string vv.text,.int .i64 vv.int,.float .f64 vv.real,.bool vv.flag,.slice m vv.list.length t],.int .i64 (uu:Int),.int .i64 0])) w5:=⟨m,t,rfl,aq.out,z.out⟩;rw [<-hsc.out] at hQ;replace hQ:=Hd hQ;simp [Leaves,settle,results,Tryz.results24,go_sem,e0.out,e1.out,e2.out,e3.out,e4.out,e5.out,g6.out,g7.out];exact hQ.out
end R2
theorem value_nilbuf {w:World} {g c:Nat} {a:Option Addr} {d:Int} (c0:w.cell? ⟨g,0,none⟩=some (.slice a 0 c)) (c1:w.cell? ⟨g,1,none⟩=some (.int .i64 0)) :
  Calls Tryz.prog 46 #[.pointer (some ⟨g,0,none⟩),.int .i64 d] w fun e w' => e=C1 0/\Below w.heap.size w w' := by
 obtain ⟨W1,hW1⟩:∃W1,W1=w.alloc (.cells #[.int .i64 0,.string ⟨#[]⟩,.int .i64 0,.float .f64 0,.bool false,.slice none 0 0] 26):=⟨_,rfl⟩;have b:Below w.heap.size w W1:=by rw [hW1];exact (Below.refl _ _).alloc (Nat.le_refl _) _
 replace c0:=Aa b _ _ c0;replace c1:=Aa b _ _ c1;have hgl:g<W1.heap.size:=World.block_lt_of_cell? W1 ⟨g,0,none⟩ c0;replace hW1:=Hd hW1;replace b:=Hd b
 go_enter Tryz.func46,Tryz.ntmps46
 go_wp2_with fail
 rw [<-hW1.out];refine Ae (by kernel_rfl) (by kernel_rfl) ?_;repeat (go_big_quiet_step ((fail)))
 refine wpQuiet_nil ?_;rintro _ ⟨xq,rfl⟩;have hS:=Ah W1 xq;go_wp2_with fail
 refine (Ec _).mono ?_;rintro e w' ⟨rfl,f⟩;obtain rfl:=f.symm;exact ⟨rfl,rfl,b.out.trans (hS.mono b.out.size)⟩
structure PN (a:Option Addr) (c:Nat) (w W:World):Prop where
 r0:W.rangeAt w.heap.size 0 [.int .i64 0,.string ⟨#[]⟩,.int .i64 0,.float .f64 0,.bool false,.slice none 0 0]
 k0:Blk W w.heap.size
 c1:W.cell? ⟨w.heap.size+1,0,none⟩=some (.int .i64 0)
 k1:Blk W (w.heap.size+1)
 c2:W.cell? ⟨w.heap.size+1+1,0,none⟩=some (.int .i64 0)
 k2:Blk W (w.heap.size+1+1)
 f0:W.cell? ⟨w.heap.size+1+1+1,0,none⟩=some (.slice a 0 c)
 f1:W.cell? ⟨w.heap.size+1+1+1,1,none⟩=some (.int .i64 0)
 below:Below w.heap.size w W
theorem PN.start {a:Option Addr} {c:Nat} {w:World} {t1 t2 t3:TypeId} :
  PN a c w ((((w.alloc (.cells #[.int .i64 0,.string ⟨#[]⟩,.int .i64 0,.float .f64 0,.bool false,.slice none 0 0] 26)).alloc (.cells #[.int .i64 0] t1)).alloc (.cells #[.int .i64 0] t2)).alloc (.cells #[.slice a 0 c,.int .i64 0,.int .i64 1] t3)):=by
 obtain ⟨W1,hW1⟩:∃W1,W1=w.alloc (.cells #[.int .i64 0,.string ⟨#[]⟩,.int .i64 0,.float .f64 0,.bool false,.slice none 0 0] 26):=⟨_,rfl⟩;obtain ⟨W2,hW2⟩:∃W2,W2=W1.alloc (.cells #[.int .i64 0] t1):=⟨_,rfl⟩;obtain ⟨W3,hW3⟩:∃W3,W3=W2.alloc (.cells #[.int .i64 0] t2):=⟨_,rfl⟩;obtain ⟨W4,hW4⟩:∃W4,W4=W3.alloc (.cells #[.slice a 0 c,.int .i64 0,.int .i64 1] t3):=⟨_,rfl⟩;rw [<-hW1,<-hW2,<-hW3,<-hW4];have s1:W1.heap.size=w.heap.size+1:=by rw [hW1];simp
 have s2:W2.heap.size=w.heap.size+1+1:=by rw [hW2];simp [s1]
 have s3:W3.heap.size=w.heap.size+1+1+1:=by rw [hW3];simp [s2]
 have b1:Below w.heap.size w W1:=by rw [hW1];exact (Below.refl _ _).alloc (Nat.le_refl _) _
 have b2:Below W1.heap.size W1 W2:=by rw [hW2];exact (Below.refl _ _).alloc (Nat.le_refl _) _
 have b3:Below W2.heap.size W2 W3:=by rw [hW3];exact (Below.refl _ _).alloc (Nat.le_refl _) _
 have b4:Below W3.heap.size W3 W4:=by rw [hW4];exact (Below.refl _ _).alloc (Nat.le_refl _) _
 have b:=b3.trans (b4.mono b3.size);have d:=b2.trans (b.mono b2.size);have e:=b1.trans (d.mono b1.size);have r1:W1.rangeAt w.heap.size 0 [.int .i64 0,.string ⟨#[]⟩,.int .i64 0,.float .f64 0,.bool false,.slice none 0 0]:=by
  rw [hW1];intro j y hj;rw [Nat.zero_add,World.cell?_alloc_new];simpa using hj
 have k1:Blk W1 w.heap.size:=by rw [hW1];exact Blk.new _ _ _
 have k2:Blk W2 W1.heap.size:=by rw [hW2];exact Blk.new _ _ _
 have k3:Blk W3 W2.heap.size:=by rw [hW3];exact Blk.new _ _ _
 have k4:Blk W4 W3.heap.size:=by rw [hW4];exact Blk.new _ _ _
 have e2:W2.cell? ⟨W1.heap.size,0,none⟩=some (.int .i64 0):=by rw [hW2,World.cell?_alloc_new];rfl
 have e3:W3.cell? ⟨W2.heap.size,0,none⟩=some (.int .i64 0):=by rw [hW3,World.cell?_alloc_new];rfl
 have f0:W4.cell? ⟨W3.heap.size,0,none⟩=some (.slice a 0 c):=by rw [hW4,World.cell?_alloc_new];rfl
 have f1:W4.cell? ⟨W3.heap.size,1,none⟩=some (.int .i64 0):=by rw [hW4,World.cell?_alloc_new];rfl
 have f2:W4.cell? ⟨W3.heap.size,2,none⟩=some (.int .i64 1):=by rw [hW4,World.cell?_alloc_new];rfl
 have g2:=Aa b _ _ e2;have g3:=Aa b4 _ _ e3;have h2:=k2.of_block (b.block _ k2.lt);have h3:=k3.of_block (b4.block _ k3.lt);rw [s1] at g2 h2;rw [s2] at g3 h3;rw [s3] at f0 f1 f2 k4;exact ⟨fun j y hj=>Aa d _ _ (r1 j y hj),k1.of_block (d.block _ k1.lt),g2,h2,g3,h3,f0,f1,e⟩
theorem parse_none (a:Option Addr) (c:Nat) (w:World):Calls Tryz.prog 24 #[.slice a 0 c] w (Fl (.stop 0) w):=by
 have hmf:∀(fn:Fn) (first cap:Array Value) (w:World),(Instr.makeFunc fn first cap).run Tryz.prog w=.ok (.func fn first cap) w:=fun _ _ _ _=>rfl
 go_enter_defers Tryz.func24,Tryz.ntmps24
 go_wp2_with fail
 have hP:=PN.start (a:=a) (c:=c) (w:=w) (t1:=3) (t2:=37) (t3:=71);generalize (((w.alloc (.cells #[Value.int .i64 0,.string ⟨#[]⟩,.int .i64 0,.float .f64 0,.bool false,.slice none 0 0] 26)).alloc (.cells #[Value.int .i64 0] 3)).alloc (.cells #[Value.int .i64 0] 37)).alloc (.cells #[Value.slice a 0 c,.int .i64 0,.int .i64 1] 71)=W at hP ⊢;refine (value_nilbuf hP.f0 hP.f1).mono fun e W8 he=>?_;obtain ⟨rfl,b⟩:=he;refine leaves_cons (f:=45) (args:=#[.pointer (some ⟨w.heap.size,0,none⟩),.pointer (some ⟨w.heap.size+1,0,none⟩),.pointer (some ⟨w.heap.size+1+1,0,none⟩)]) (by simp) (by simp [go_sem]) ?_;refine (R2.catch_stop (w:=W8) (B:=w.heap.size) [] (fun j y hj=>Aa b _ _ (hP.r0 j y hj)) (hP.k0.of_block (b.block _ hP.k0.lt)) (Aa b _ _ hP.c1) (hP.k1.of_block (b.block _ hP.k1.lt)) (Aa b _ _ hP.c2) (hP.k2.of_block (b.block _ hP.k2.lt))).mono ?_;rintro e u' k ⟨rfl,rfl,d,l,m,n⟩
 have h:=hP.below.trans (b.mono hP.below.size);have g:Below w.heap.size w k := h.trans (n.below h.size (fun i hi e=>by omega));have e0:=d 0 _ rfl;have e1:=d 1 _ rfl;have e2:=d 2 _ rfl;have e3:=d 3 _ rfl;have e4:=d 4 _ rfl;have e5:=d 5 _ rfl;simp only [Nat.zero_add] at e0 e1 e2 e3 e4 e5;replace g:=Hd g;simp [Leaves,settle,results,Tryz.results24,go_sem,e0,e1,e2,e3,e4,e5,l,m,Fl];exact g.out
theorem parse_nil (w:World):Calls Tryz.prog 24 #[.slice none 0 0] w (Fl (.stop 0) w):=parse_none none 0 w
theorem rnew_any (w:World):Calls Tryz.prog 25 #[] w fun e w' => e=.returned (.pointer (some ⟨w.heap.size,0,none⟩))/\w' = w.alloc (.cells #[.slice none 0 0,.int .i64 0] 74):=by
 go_enter Tryz.func25,Tryz.ntmps25
 go_wp2;go_ret;exact ⟨rfl,rfl⟩
