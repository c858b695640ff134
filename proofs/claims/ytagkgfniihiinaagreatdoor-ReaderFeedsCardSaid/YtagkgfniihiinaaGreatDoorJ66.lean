/- The reader: a value, at every text. -/
import Derived.Test.YtagkgfniihiinaaGreatDoorJ78
import Derived.Defers
import Derived.Recover
import Derived.Tactics2
set_option linter.all false
namespace Go.Proofs.YtagkgfniihiinaaGreatDoor
open Go.RowKit
theorem scanN_many {f:Nat->List UInt8->Out (V × Nat × Nat)} (hf:∀(m:Nat) (L:List UInt8) (v:V) (u m' : Nat),m<=1000->f m L=.got (v,u,m')->m' <= 1000):∀(n m:Nat) (L:List UInt8) (l:List V) (u m' : Nat),m<=1000->Ba f n m L=.got (l,u,m')->m' <= 1000
 | 0,m,L,l,u,m', hm,h=>by
   rw [Ba] at h;simp only [Out.got.injEq,Prod.mk.injEq] at h;omega
 | n+1,m,L,l,u,m', hm,h=>by
   rw [Ba] at h;cases h1:f m L with
   | stop q=>rw [h1] at h;cases h
   | got r=>
     obtain ⟨v,u1,m1⟩:=r;rw [h1] at h;dsimp only at h;have hm1:=hf m L v u1 m1 hm h1;cases h2:Ba f n m1 (L.drop u1) with
     | stop q=>rw [h2] at h;cases h
     | got r=>
       obtain ⟨l2,u2,m2⟩:=r;rw [h2] at h;simp only [Out.got.injEq,Prod.mk.injEq] at h;have:=scanN_many hf n m1 _ l2 u2 m2 hm1 h2;omega
theorem scanV_many {rp:Rp}:∀(lv:Nat) (m:Nat) (L:List UInt8) (v:V) (u m' : Nat),m<=1000->At rp lv m L=.got (v,u,m')->m' <= 1000
 | 0,m,L,v,u,m', hm,h=>by
   rw [At] at h;split at h
   · cases h
   · simp only [Out.got.injEq,Prod.mk.injEq] at h;omega
   · cases h
 | lv+1,m,L,v,u,m', hm,h=>by
   rw [At] at h;split at h
   · cases h
   · simp only [Out.got.injEq,Prod.mk.injEq] at h;omega
   · rename_i kd n u0 _
     split at h
     · cases h
     · rename_i hb
       cases h2:Ba (At rp lv) n (m+n) (L.drop u0) with
       | stop q=>rw [h2] at h;cases h
       | got r=>
         obtain ⟨l2,u2,m2⟩:=r;rw [h2] at h;simp only [Out.got.injEq,Prod.mk.injEq] at h;have:=scanN_many (scanV_many lv) n (m+n) _ l2 u2 m2 (by omega) h2;omega
theorem value_head {rp:Rp} {w0 w:World} {g b o n cap at_ many:Nat} {s:ByteArray} {d:Int} (h:RS rp w0 w g b o n cap s at_ many) (hbw:b<w.heap.size) (out:Out (V × Nat × Nat)) (hnd:needH rp (s.data.toList.drop at_))
   (ho:match A1 rp (s.data.toList.drop at_) with
     | .stop e=>out=.stop e
     | .leaf v u=>out=.got (v,u,many)
     | .list kd N u=>∃res:Out (List V × Nat × Nat),(∀W,RS rp w0 W g b o n cap s (at_+u) many->Calls Tryz.prog 70 #[.pointer (some ⟨g,0,none⟩),.int .i64 (kd:Int),.int .i64 (N:Int),.int .i64 d] W (ListQ rp w0 g b o n cap s (kd:Int) (at_+u) res W)) /\
         out=(match res with | .stop q=>.stop q | .got (l,u2,m2)=>.got (.mk (kd:Int) ⟨#[]⟩ 0 0 false l,u+u2,m2))) :
   Calls Tryz.prog 46 #[.pointer (some ⟨g,0,none⟩),.int .i64 d] w (ValQ rp w0 g b o n cap s at_ out w):=by
 cases hL:s.data.toList.drop at_ with
 | nil=>
   rw [hL] at ho;simp only [A1] at ho;subst ho;have he:at_=n:=by
     have:=h.le;have hz:=h.scan.size;have h1:(s.data.toList.drop at_).length=0:=by rw [hL];rfl
     rw [List.length_drop,<-As] at h1;omega
   exact value_end h he
 | cons c L=>
   rw [hL] at ho;simp only [A1] at ho;by_cases hk0:Ac c=0
   · rw [if_pos hk0] at ho
     subst ho;exact value_mark h hL hk0
   rw [if_neg hk0] at ho;cases hl:Aw L with
   | stop q=>
     rw [hl] at ho;simp only at ho;subst ho;exact value_line h hL hk0 hl
   | got r=>
     obtain ⟨t,u⟩:=r;rw [hl] at ho;simp only at ho;by_cases hnil:t=[45,49]/\(Ac c=4\/Ac c=5)
     · rw [if_pos hnil] at ho
       simp only at ho;subst ho;exact value_nil h hL hnil.2 (by rw [hl,hnil.1])
     rw [if_neg hnil] at ho;by_cases hk1:Ac c=4\/Ac c=10\/Ac c=11
     · rw [if_pos hk1] at ho
       cases hm:numS t 4096 with
       | none=>
         rw [hm] at ho;simp only at ho;subst ho;exact value_num h hL (.inl ⟨rfl,hk1⟩) hl hnil hm
       | some len=>
         rw [hm] at ho;simp only at ho;cases hlo:Bw (L.drop u) len with
         | stop q=>
           rw [hlo] at ho;simp only at ho;subst ho;exact value_lstop h hL hk1 hl hnil hm hlo
         | got x=>
           rw [hlo] at ho;simp only at ho;by_cases ok:okV (Ao (Ac c) ⟨x.toArray⟩ 0 0 false)=true
           · rw [if_pos ok] at ho
             simp only at ho;subst ho;exact value_ltext h hL hk1 hl hnil hm hlo ok
           · rw [if_neg ok] at ho
             simp only at ho;subst ho;exact value_lbad h hL hk1 hl hnil hm hlo ok
     rw [if_neg hk1] at ho;by_cases hk2:Ac c=5\/Ac c=13\/Ac c=14
     · rw [if_pos hk2] at ho
       cases hm:numS t 1000 with
       | none=>
         rw [hm] at ho;simp only at ho;subst ho;exact value_num h hL (.inr ⟨rfl,by omega⟩) hl hnil hm
       | some len=>
         rw [hm] at ho;simp only at ho;obtain ⟨res,hcall,rfl⟩:=ho;have hkk:(Ac c=5/\len=len)\/(Ac c=13/\len=len)\/(Ac c=14/\len=len)\/(Ac c=12/\len=2 * len):=by
           rcases hk2 with e | e | e
           · exact .inl ⟨e,rfl⟩
           · exact .inr (.inl ⟨e,rfl⟩)
           · exact .inr (.inr (.inl ⟨e,rfl⟩))
         rw [show at_+(1+u)=at_+1+u by omega] at hcall;cases res with
         | stop q=>exact E6 h hL hkk hl hnil hm hcall
         | got r=>
           obtain ⟨l,u2,m2⟩:=r;exact Fx h hL hkk hl hnil hm hbw hcall
     rw [if_neg hk2] at ho;by_cases hk3:Ac c=12
     · rw [if_pos hk3] at ho
       cases hm:numS t 1000 with
       | none=>
         rw [hm] at ho;simp only at ho;subst ho;exact value_num h hL (.inr ⟨rfl,by omega⟩) hl hnil hm
       | some len=>
         rw [hm] at ho;simp only at ho;obtain ⟨res,hcall,rfl⟩:=ho;have e12:(12:Nat)=Ac c:=hk3.symm;rw [e12] at hcall ⊢;rw [show at_+(1+u)=at_+1+u by omega] at hcall;cases res with
         | stop q=>exact E6 h hL (.inr (.inr (.inr ⟨hk3,rfl⟩))) hl hnil hm hcall
         | got r=>
           obtain ⟨l,u2,m2⟩:=r;exact Fx h hL (.inr (.inr (.inr ⟨hk3,rfl⟩))) hl hnil hm hbw hcall
     rw [if_neg hk3] at ho;have hk4:Ac c=1\/Ac c=2\/Ac c=9\/Ac c=3\/Ac c=7\/Ac c=8\/Ac c=6:=by
       have:=kindR_le c;omega
     cases hs:Cd (rp t) (Ac c) ⟨t.toArray⟩ with
     | none=>
       rw [hs] at ho;simp only at ho;subst ho;exact value_snone h hL hk4 hl (hnd c L t u hL · hl) hs
     | some v=>
       rw [hs] at ho;simp only at ho;by_cases ok:okV v=true
       · rw [if_pos ok] at ho
         simp only at ho;subst ho;exact value_short h hL hk4 hl (hnd c L t u hL · hl) hs ok
       · rw [if_neg ok] at ho
         simp only at ho;subst ho;exact value_sbad h hL hk4 hl (hnd c L t u hL · hl) hs ok
theorem headS_len {rp:Rp} {L:List UInt8} {kd N u:Nat} (h:A1 rp L=.list kd N u):N<=100000:=by
 unfold A1 at h;split at h
 · cases h
 split at h
 · cases h
 split at h
 · cases h
 split at h
 · cases h
 split at h
 · split at h
   · cases h
   · split at h
     · cases h
     · split at h<;>cases h
 split at h
 · split at h
   · cases h
   · rename_i hn
     have:=Ek hn;simp only [Head.list.injEq] at h;omega
 split at h
 · split at h
   · cases h
   · rename_i hn
     have:=Ek hn;simp only [Head.list.injEq] at h;omega
 split at h
 · cases h
 · split at h<;>cases h
theorem value_any {rp:Rp} {w0:World} {g b o n cap:Nat} {s:ByteArray} (hbw0:b<w0.heap.size):∀(lv:Nat),lv<=8->∀(w:World) (at_ many:Nat),RS rp w0 w g b o n cap s at_ many->many<=1000->C6 rp lv many (s.data.toList.drop at_) ->
   Calls Tryz.prog 46 #[.pointer (some ⟨g,0,none⟩),.int .i64 (8 - (lv:Int))] w (ValQ rp w0 g b o n cap s at_ (At rp lv many (s.data.toList.drop at_)) w):=by
 intro lv
 induction lv with
 | zero=>
   intro _ w at_ many h hm hnd;have hbw:b<w.heap.size:=Nat.lt_of_lt_of_le hbw0 h.below.size;refine value_head h hbw _ (needV_head hnd) ?_;rw [At];cases hh:A1 rp (s.data.toList.drop at_) with
   | stop e=>rfl
   | leaf v u=>rfl
   | list kd N u=>
     refine ⟨.stop 51,fun W hW=>?_,rfl⟩;exact list_no hW (by omega) (headS_len hh) (.inr (.inl (by omega)))
 | succ lv ih=>
   intro hlv w at_ many h hm hnd;have hbw:b<w.heap.size:=Nat.lt_of_lt_of_le hbw0 h.below.size;refine value_head h hbw _ (needV_head hnd) ?_;rw [At];cases hh:A1 rp (s.data.toList.drop at_) with
   | stop e=>rfl
   | leaf v u=>rfl
   | list kd N u=>
     dsimp only;by_cases hbad:1000<many+N\/(kd=14/\(N=0\/lv<7))
     · rw [if_pos hbad]
       refine ⟨.stop 51,fun W hW=>?_,rfl⟩;exact list_no hW (by omega) (headS_len hh) (by
         rcases hbad with e | e
         · exact .inl e
         · exact .inr (.inr ⟨by omega,by omega⟩))
     · rw [if_neg hbad]
       refine ⟨Ba (At rp lv) N (many+N) (s.data.toList.drop (at_+u)),fun W hW=>?_,?_⟩
       · have hbW:b<W.heap.size:=Nat.lt_of_lt_of_le hbw0 hW.below.size
         refine R2.R3.list_any hW hbW (by omega) (by omega) (by omega) (by omega) (need:=C6 rp lv) (fun X at2 m2 hX hm2 hn2=>?_) (scanV_many lv) (by rw [<-List.drop_drop];exact hnd.2 kd N u hh);have:=ih (by omega) X at2 m2 hX hm2 hn2;rw [show (8:Int) - ((lv+1:Nat):Int)+1=8 - (lv:Int) by omega];exact this
       · rw [List.drop_drop]
         cases Ba (At rp lv) N (many+N) (s.data.toList.drop (at_+u)) with
         | stop q=>rfl
         | got r=>obtain ⟨l,u2,m2⟩:=r;rfl
theorem catch_idle (p1 p2 p3:Value) (w:World) :
   CallsD Tryz.prog 45 #[p1,p2,p3] .returning w fun e u' w' => e=.returned (.tuple #[])/\u' = .returning/\w' = w:=by
 refine callsD_of_wpS Tryz.func45 rfl fun c₀ cs hu=>?_
 apply wpS_seq
 apply wpS_region
 simp [wpOpsS,go_sem,recoverD,hu,Tryz.ntmps45,Exit.thenS]
 refine wpS_of_wp ?_
 go_wp2_with fail
 cases c₀
 simp_all [bodyPostS,results,Tryz.results45]
@[go_sem] theorem assert_stop (v:Value) (xT:TypeId) (w:World):(Instr.typeAssert (.iface 68 v) xT 68 true).run Tryz.prog w=.ok (.tuple #[v,.bool true]) w:=by kernel_rfl
def csR (B:Nat) (i:Nat) (w w' : World):Prop:=match i with
 | 3=>Fr (fun k=>k=B) w w'
 | 4=>Fr (fun k=>k=B+1) w w'
 | 5=>Fr (fun k=>k=B+2) w w'
 | _=>w' = w
structure CsC (B:Nat) (W w:World):Prop where
 fr:Fr (fun k=>k=B\/k=B+1\/k=B+2) W w
 t0:∃ys:List Value,ys.length=6/\w.rangeAt B 0 ys
 k0:Blk w B
 t1:∃y,w.cell? ⟨B+1,0,none⟩=some y
 k1:Blk w (B+1)
 t2:∃y,w.cell? ⟨B+2,0,none⟩=some y
 k2:Blk w (B+2)
theorem CsC.set0 {B:Nat} {W w w' : World} (h:CsC B W w) (hf:Fr (fun k=>k=B) w w') (ht:∃ys:List Value,ys.length=6/\w'.rangeAt B 0 ys) (hk:Blk w' B):CsC B W w' :=
 ⟨h.fr.trans (hf.mono (fun _ _ e=>Or.inl e)),ht,hk,h.t1.imp fun _ e=>hf.cell e (by show ¬B+1=B;omega),h.k1.fr hf (by omega),h.t2.imp fun _ e=>hf.cell e (by show ¬B+2=B;omega),h.k2.fr hf (by omega)⟩
theorem CsC.set1 {B:Nat} {W w w' : World} (h:CsC B W w) (hf:Fr (fun k=>k=B+1) w w') (ht:∃y,w'.cell? ⟨B+1,0,none⟩=some y) (hk:Blk w' (B+1)):CsC B W w' :=
 ⟨h.fr.trans (hf.mono (fun _ _ e=>Or.inr (Or.inl e))),h.t0.imp fun _ e=>⟨e.1,fun j y hj=>hf.cell (e.2 j y hj) (by show ¬B=B+1;omega)⟩,h.k0.fr hf (by omega),ht,hk,h.t2.imp fun _ e=>hf.cell e (by show ¬B+2=B+1;omega),h.k2.fr hf (by omega)⟩
theorem CsC.set2 {B:Nat} {W w w' : World} (h:CsC B W w) (hf:Fr (fun k=>k=B+2) w w') (ht:∃y,w'.cell? ⟨B+2,0,none⟩=some y) (hk:Blk w' (B+2)):CsC B W w' :=
 ⟨h.fr.trans (hf.mono (fun _ _ e=>Or.inr (Or.inr e))),h.t0.imp fun _ e=>⟨e.1,fun j y hj=>hf.cell (e.2 j y hj) (by show ¬B=B+2;omega)⟩,h.k0.fr hf (by omega),h.t1.imp fun _ e=>hf.cell e (by show ¬B+1=B+2;omega),h.k1.fr hf (by omega),ht,hk⟩
namespace R2
set_option maxRecDepth 100000 in
set_option maxHeartbeats 3200000 in
theorem catch_stop {w:World} {B:Nat} {q:Nat} {c0 c1 c2 c3 c4 c5 x1 x2:Value} (older:List PanicEntry) (hr:w.rangeAt B 0 [c0,c1,c2,c3,c4,c5]) (hk:Blk w B) (h1:w.cell? ⟨B+1,0,none⟩=some x1) (z1:Blk w (B+1)) (h2:w.cell? ⟨B+2,0,none⟩=some x2) (z2:Blk w (B+2)) :
   CallsD Tryz.prog 45 #[.pointer (some ⟨B,0,none⟩),.pointer (some ⟨B+1,0,none⟩),.pointer (some ⟨B+2,0,none⟩)] (.panicking ({ v:=.iface 68 (.agg #[.int .i64 (q:Int)]),recovered:=false } :: older)) w fun e u' w' =>
     e=.returned (.tuple #[])/\u' = .panicking ({ v:=.iface 68 (.agg #[.int .i64 (q:Int)]),recovered:=true } :: older) /\
     w'.rangeAt B 0 [.int .i64 0,.string ⟨#[]⟩,.int .i64 0,.float .f64 0,.bool false,.slice none 0 0]/\w'.cell? ⟨B+1,0,none⟩=some (.int .i64 0)/\w'.cell? ⟨B+2,0,none⟩=some (.int .i64 (q:Int))/\Fr (fun k=>k=B\/k=B+1\/k=B+2) w w' := by
 have htC:=Ae (n:=6) hr hk rfl
 have hf1:=z1.frz 0 none
 have hf2:=z2.frz 0 none
 replace htC:=Hd htC
 refine callsD_of_wpS Tryz.func45 rfl fun c₀ cs hu=>?_
 change Code.wpS _ _ _ { tmps:=#[.pointer (some ⟨B,0,none⟩),.pointer (some ⟨B+1,0,none⟩),.pointer (some ⟨B+2,0,none⟩),undef,undef,undef,undef,undef,undef,undef,undef,undef,undef,undef,undef],defers:=[] } _ _
 apply wpS_seq
 apply wpS_region
 simp [wpOpsS,go_sem,recoverD,hu,Exit.thenS]
 refine wpS_of_wp ?_
 go_upto_region 7 with fail
 obtain ⟨W,hW⟩:∃W,W=w.alloc (.cells #[.int .i64 (q:Int)] 68):=⟨_,rfl⟩
 obtain ⟨M,hM0⟩:∃M,M=w.heap.size:=⟨_,rfl⟩
 have hbox:W.cell? ⟨M,0,none⟩=some (.int .i64 (q:Int)):=by rw [hW,hM0,World.cell?_alloc_new];rfl
 have hB2:B+2<M:=by rw [hM0];exact z2.lt
 have hM:¬(M=B\/M=B+1\/M=B+2):=by omega
 have hbW:Below w.heap.size w W:=by rw [hW];exact (Below.refl _ _).alloc (Nat.le_refl _) _
 have hCW:CsC B W W.drew:=⟨(Fr.refl _ _).drew,⟨_,rfl,fun j y hj=>Aa hbW _ _ (hr j y hj)⟩,(hk.of_block (hbW.block _ hk.lt)).drew,⟨_,Aa hbW _ _ h1⟩,(z1.of_block (hbW.block _ z1.lt)).drew,⟨_,Aa hbW _ _ h2⟩,(z2.of_block (hbW.block _ z2.lt)).drew⟩
 have hfW:=Fr.of_below hbW
 rw [<-hW,<-hM0]
 refine wp_region_rely (l:=[_,_,_,_,_,_]) (CsC B W) (fun _=>True) (csR B) (fun kG_=>([fun v _=>v=.agg #[.int .i64 0,.string ⟨#[]⟩,.int .i64 0,.float .f64 0,.bool false,.slice none 0 0],fun v _=>v=.pointer (some ⟨M,0,none⟩),fun v _=>v=.int .i64 (q:Int),fun v w=>w.rangeAt B 0 [.int .i64 0,.string ⟨#[]⟩,.int .i64 0,.float .f64 0,.bool false,.slice none 0 0],fun v w=>w.cell? ⟨B+1,0,none⟩=some (.int .i64 0),fun v w=>w.cell? ⟨B+2,0,none⟩=some (.int .i64 (q:Int))]:List (Value->World->Prop)).getD kG_ (fun _ _=>True)) (eats []) (isIn []) (by kernel_rfl) (by kernel_rfl) (by kernel_rfl) hCW trivial ?_ ?_ ?_ ?_
 · intro i kG_ u w w' hne hE hg hr
   rcases kG_ with _ | _ | _ | _ | _ | _ | kG_
   · exact hg
   · exact hg
   · exact hg
   · replace hg:(fun (v:Value) (w:World)=>w.rangeAt B 0 [.int .i64 0,.string ⟨#[]⟩,.int .i64 0,.float .f64 0,.bool false,.slice none 0 0]) u w:=hg
     show (fun (v:Value) (w:World)=>w.rangeAt B 0 [.int .i64 0,.string ⟨#[]⟩,.int .i64 0,.float .f64 0,.bool false,.slice none 0 0]) u w';dsimp only at hg ⊢;replace hE:exB _ _ i 3=false:=hE;replace hne:3≠i:=hne;unfold csR at hr;split at hr
     all_goals first
       | exact absurd rfl hne
       | exact absurd (hE.symm.trans (by decide +kernel:exB _ _ _ _=true)) (by decide)
       | (subst hr;exact hg)
       | ((intro j y hj;exact hr.cell (hg j y hj) (by show ¬B=_;omega)))
   · replace hg:(fun (v:Value) (w:World)=>w.cell? ⟨B+1,0,none⟩=some (.int .i64 0)) u w:=hg
     show (fun (v:Value) (w:World)=>w.cell? ⟨B+1,0,none⟩=some (.int .i64 0)) u w';dsimp only at hg ⊢;replace hE:exB _ _ i 4=false:=hE;replace hne:4≠i:=hne;unfold csR at hr;split at hr
     all_goals first
       | exact absurd rfl hne
       | exact absurd (hE.symm.trans (by decide +kernel:exB _ _ _ _=true)) (by decide)
       | (subst hr;exact hg)
       | ((exact hr.cell hg (by show ¬B+1=_;omega)))
   · replace hg:(fun (v:Value) (w:World)=>w.cell? ⟨B+2,0,none⟩=some (.int .i64 (q:Int))) u w:=hg
     show (fun (v:Value) (w:World)=>w.cell? ⟨B+2,0,none⟩=some (.int .i64 (q:Int))) u w';dsimp only at hg ⊢;replace hE:exB _ _ i 5=false:=hE;replace hne:5≠i:=hne;unfold csR at hr;split at hr
     all_goals first
       | exact absurd rfl hne
       | exact absurd (hE.symm.trans (by decide +kernel:exB _ _ _ _=true)) (by decide)
       | (subst hr;exact hg)
       | ((exact hr.cell hg (by show ¬B+2=_;omega)))
   · trivial
 · exact fun _ _ _ _ _ _=>trivial
 · refine ⟨?_,?_,?_,?_,?_,?_,trivial⟩
   · refine VC.plain rfl fun a wx hf=>?_
     exact gives_value (by simp [go_sem,Tryz.underlying26]) ⟨hf.c,rfl,rfl⟩
   · refine VC.plain rfl fun a wx hf=>?_
     have s4:=hf.old 4 (by first | rfl | kernel_rfl);have q4:=A8 s4;exact gives_value (by simp [go_sem,q4]) ⟨hf.c,rfl,rfl⟩
   · refine VC.plain rfl fun a wx hf=>?_
     obtain ⟨v13,g13,s13⟩:=hf.got 1 (by kernel_rfl) (by intro j hj;simp [eats] at hj) rfl rfl;replace s13:=s13.trans (show v13=.pointer (some ⟨M,0,none⟩) from g13);clear g13;have q13:=A8 s13;exact gives_value (by simp [go_sem,q13,Fr.cell (p:=⟨M,0,none⟩) hf.c.fr hbox hM]) ⟨hf.c,rfl,rfl⟩
   · refine VC.plain rfl fun a wx hf=>?_
     have s0:=hf.old 0 (by first | rfl | kernel_rfl);have q0:=A8 s0;obtain ⟨v12,g12,s12⟩:=hf.got 0 (by kernel_rfl) (by intro j hj;simp [eats] at hj) rfl rfl;replace s12:=s12.trans (show v12=.agg #[.int .i64 0,.string ⟨#[]⟩,.int .i64 0,.float .f64 0,.bool false,.slice none 0 0] from g12);clear g12;have q12:=A8 s12;obtain ⟨ys,hy1,hy2⟩:=hf.c.t0;have ht:=Ae (n:=6) hy2 hf.c.k0 hy1.symm;have hfw:Fr (fun k=>k=B) wx (wx.setCells B 0 [.int .i64 0,.string ⟨#[]⟩,.int .i64 0,.float .f64 0,.bool false,.slice none 0 0]):=Fr.setCells (S:=fun k=>k=B) (fun _=>rfl) _ _ _ (Fr.refl _ _);have hrs:=World.rangeAt_setCells_same _ _ _ [Value.int .i64 0,.string ⟨#[]⟩,.int .i64 0,.float .f64 0,.bool false,.slice none 0 0] ht;exact Dk rfl (s0.trans rfl) s12 ht Ab (one6 _ _ _ _ _ _ _ _) ⟨hf.c.set0 hfw ⟨_,rfl,hrs⟩ (Blk.setCells _ _ _ hf.c.k0),hfw,hrs⟩
   · refine VC.plain rfl fun a wx hf=>?_
     have s1:=hf.old 1 (by first | rfl | kernel_rfl);have q1:=A8 s1;obtain ⟨y1,hy1⟩:=hf.c.t1;have hfw:Fr (fun k=>k=B+1) wx (wx.setCell ⟨B+1,0,none⟩ (.int .i64 0)):=Fr.setCell (S:=fun k=>k=B+1) (Fr.refl _ _) (fun _=>rfl) _;have hcs:(wx.setCell ⟨B+1,0,none⟩ (.int .i64 0)).cell? ⟨B+1,0,none⟩=some (.int .i64 0):=Am hy1;exact gives_skip (w' := wx.setCell ⟨B+1,0,none⟩ (.int .i64 0)) (by simp [go_sem,q1,hy1,hf.c.k1.frz 0 none]) ⟨hf.c.set1 hfw ⟨_,hcs⟩ (hf.c.k1.setCell _ _),hfw,hcs⟩
   · refine VC.plain rfl fun a wx hf=>?_
     have s2:=hf.old 2 (by first | rfl | kernel_rfl);have q2:=A8 s2;obtain ⟨v14,g14,s14⟩:=hf.got 2 (by kernel_rfl) (by intro j hj;simp [eats] at hj) rfl rfl;replace s14:=s14.trans (show v14=.int .i64 (q:Int) from g14);clear g14;have q14:=A8 s14;obtain ⟨y1,hy1⟩:=hf.c.t2;have hfw:Fr (fun k=>k=B+2) wx (wx.setCell ⟨B+2,0,none⟩ (.int .i64 (q:Int))):=Fr.setCell (S:=fun k=>k=B+2) (Fr.refl _ _) (fun _=>rfl) _;have hcs:(wx.setCell ⟨B+2,0,none⟩ (.int .i64 (q:Int))).cell? ⟨B+2,0,none⟩=some (.int .i64 (q:Int)):=Am hy1;exact gives_skip (w' := wx.setCell ⟨B+2,0,none⟩ (.int .i64 (q:Int))) (by simp [go_sem,q2,q14,hy1,hf.c.k2.frz 0 none]) ⟨hf.c.set2 hfw ⟨_,hcs⟩ (hf.c.k2.setCell _ _),hfw,hcs⟩
 · intro vs w5 hC hG
   have g3:=hG 3 (by decide) (by intro i hi;simp [eats]);have g4:=hG 4 (by decide) (by intro i hi;simp [eats]);have g5:=hG 5 (by decide) (by intro i hi;simp [eats]);clear hG;have hfin:Fr (fun k=>k=B\/k=B+1\/k=B+2) w w5:=Fr.trans (hfW.mono (fun i hi e=>absurd hi (Nat.not_lt_of_le e))) hC.fr;replace g3:=Hd g3;replace g4:=Hd g4;replace g5:=Hd g5;replace hfin:=Hd hfin;simp only [putFrom,Act.put,List.setIfInBounds_toArray,List.set_cons_zero,List.set_cons_succ];go_wp2_with fail
   refine ⟨rfl,_,rfl,.tuple #[],by simp [results,Tryz.results45,go_sem],rfl,?_,g3.out,g4.out,g5.out,hfin.out⟩;rfl
end R2
def Ed (out:Out (V × Nat × Nat)) (w:World) (e:Ending) (w' : World):Prop:=
 match out with
 | .stop q=>e=.returned (.tuple #[.agg #[.int .i64 0,.string ⟨#[]⟩,.int .i64 0,.float .f64 0,.bool false,.slice none 0 0],.int .i64 0,.int .i64 (q:Int)])/\Below w.heap.size w w'
 | .got (v,u,_)=>∃(a:Option Addr) (ca:Nat),e=.returned (.tuple #[.agg #[.int .i64 v.kind,.string v.text,.int .i64 v.int,.float .f64 v.real,.bool v.flag,.slice a v.list.length ca],.int .i64 (u:Int),.int .i64 0]) /\
     RV (A5 w.heap.size w') (An v.kind v.text v.int v.real v.flag a v.list.length ca) v/\Below w.heap.size w w'
structure PS (rp:Rp) (b o n cap:Nat) (s:ByteArray) (w W:World):Prop where
 r0:W.rangeAt w.heap.size 0 [.int .i64 0,.string ⟨#[]⟩,.int .i64 0,.float .f64 0,.bool false,.slice none 0 0]
 k0:Blk W w.heap.size
 c1:W.cell? ⟨w.heap.size+1,0,none⟩=some (.int .i64 0)
 k1:Blk W (w.heap.size+1)
 c2:W.cell? ⟨w.heap.size+1+1,0,none⟩=some (.int .i64 0)
 k2:Blk W (w.heap.size+1+1)
 rs:RS rp w W (w.heap.size+1+1+1) b o n cap s 0 1
 below:Below w.heap.size w W
theorem PS.start {rp:Rp} {w:World} {b o n cap:Nat} {s:ByteArray} {t1 t2 t3:TypeId} (hB:Lib.Bytes w b o s) (hs:s.size=n) (hr:n<=cap) (hbig:n<=1000000000) (hE:Env rp w s) (hbw:b<w.heap.size) :
   PS rp b o n cap s w ((((w.alloc (.cells #[.int .i64 0,.string ⟨#[]⟩,.int .i64 0,.float .f64 0,.bool false,.slice none 0 0] 26)).alloc (.cells #[.int .i64 0] t1)).alloc (.cells #[.int .i64 0] t2)).alloc (.cells #[.slice (some ⟨b,o,none⟩) n cap,.int .i64 0,.int .i64 1] t3)):=by
 obtain ⟨W1,hW1⟩:∃W1,W1=w.alloc (.cells #[.int .i64 0,.string ⟨#[]⟩,.int .i64 0,.float .f64 0,.bool false,.slice none 0 0] 26):=⟨_,rfl⟩
 obtain ⟨W2,hW2⟩:∃W2,W2=W1.alloc (.cells #[.int .i64 0] t1):=⟨_,rfl⟩
 obtain ⟨W3,hW3⟩:∃W3,W3=W2.alloc (.cells #[.int .i64 0] t2):=⟨_,rfl⟩
 obtain ⟨W4,hW4⟩:∃W4,W4=W3.alloc (.cells #[.slice (some ⟨b,o,none⟩) n cap,.int .i64 0,.int .i64 1] t3):=⟨_,rfl⟩
 rw [<-hW1,<-hW2,<-hW3,<-hW4]
 have s1:W1.heap.size=w.heap.size+1:=by rw [hW1];simp
 have s2:W2.heap.size=w.heap.size+1+1:=by rw [hW2];simp [s1]
 have s3:W3.heap.size=w.heap.size+1+1+1:=by rw [hW3];simp [s2]
 have b1:Below w.heap.size w W1:=by rw [hW1];exact (Below.refl _ _).alloc (Nat.le_refl _) _
 have b2:Below W1.heap.size W1 W2:=by rw [hW2];exact (Below.refl _ _).alloc (Nat.le_refl _) _
 have b3:Below W2.heap.size W2 W3:=by rw [hW3];exact (Below.refl _ _).alloc (Nat.le_refl _) _
 have b4:Below W3.heap.size W3 W4:=by rw [hW4];exact (Below.refl _ _).alloc (Nat.le_refl _) _
 have b34:=b3.trans (b4.mono b3.size)
 have b24:=b2.trans (b34.mono b2.size)
 have b14:=b1.trans (b24.mono b1.size)
 have r1:W1.rangeAt w.heap.size 0 [.int .i64 0,.string ⟨#[]⟩,.int .i64 0,.float .f64 0,.bool false,.slice none 0 0]:=by
   rw [hW1];intro j y hj;rw [Nat.zero_add,World.cell?_alloc_new];simpa using hj
 have k1:Blk W1 w.heap.size:=by rw [hW1];exact Blk.new _ _ _
 have k2:Blk W2 W1.heap.size:=by rw [hW2];exact Blk.new _ _ _
 have k3:Blk W3 W2.heap.size:=by rw [hW3];exact Blk.new _ _ _
 have k4:Blk W4 W3.heap.size:=by rw [hW4];exact Blk.new _ _ _
 have e2:W2.cell? ⟨W1.heap.size,0,none⟩=some (.int .i64 0):=by rw [hW2,World.cell?_alloc_new];rfl
 have e3:W3.cell? ⟨W2.heap.size,0,none⟩=some (.int .i64 0):=by rw [hW3,World.cell?_alloc_new];rfl
 have f0:W4.cell? ⟨W3.heap.size,0,none⟩=some (.slice (some ⟨b,o,none⟩) n cap):=by rw [hW4,World.cell?_alloc_new];rfl
 have f1:W4.cell? ⟨W3.heap.size,1,none⟩=some (.int .i64 0):=by rw [hW4,World.cell?_alloc_new];rfl
 have f2:W4.cell? ⟨W3.heap.size,2,none⟩=some (.int .i64 1):=by rw [hW4,World.cell?_alloc_new];rfl
 have g2:=Aa b34 _ _ e2
 have g3:=Aa b4 _ _ e3
 have h2:=k2.of_block (b34.block _ k2.lt)
 have h3:=k3.of_block (b4.block _ k3.lt)
 rw [s1] at g2 h2
 rw [s2] at g3 h3
 rw [s3] at f0 f1 f2 k4
 exact ⟨fun j y hj=>Aa b24 _ _ (r1 j y hj),k1.of_block (b24.block _ k1.lt),g2,h2,g3,h3,⟨⟨f0,f1,f2,k4,Bo hB b14,hs,by omega,hr,hbig⟩,hE,b14,by omega,Nat.zero_le _⟩,b14⟩
theorem newer_frS {B x:Nat} {S:Nat->Prop} {w w' : World} (hf:Fr S w w') (hS:∀i,x<=i->¬S i) (hB:B<=x):∀a u,A5 x w a=some u->A5 B w' a=some u:=fun a u h=>by
 obtain ⟨h1,h2⟩:=Cw h;unfold A5;rw [if_neg (by omega)];exact hf.cell h1 (hS _ h2)
def csP (B:Nat) (i:Nat) (w w' : World):Prop:=match i with
 | 5=>Fr (fun k=>k=B) w w'
 | 6=>Fr (fun k=>k=B+1) w w'
 | 7=>Fr (fun k=>k=B+2) w w'
 | _=>w' = w
structure CsV (B:Nat) (ys:List Value) (W w:World):Prop where
 c:CsC B W w
 r:w.rangeAt B 0 ys
namespace R2
set_option maxRecDepth 100000 in
set_option maxHeartbeats 3200000 in
theorem parse_any {rp:Rp} {w:World} {b o n cap:Nat} {s:ByteArray} (hB:Lib.Bytes w b o s) (hs:s.size=n) (hr:n<=cap) (hbig:n<=1000000000) (hE:Env rp w s) (hbw:b<w.heap.size) (hnd:C6 rp 8 1 s.data.toList) :
   Calls Tryz.prog 24 #[.slice (some ⟨b,o,none⟩) n cap] w (Ed (At rp 8 1 s.data.toList) w):=by
 have hmf:∀(fn:Fn) (first cap:Array Value) (w:World),(Instr.makeFunc fn first cap).run Tryz.prog w=.ok (.func fn first cap) w:=fun _ _ _ _=>rfl
 go_enter_defers Tryz.func24,Tryz.ntmps24
 go_wp2_with fail
 have hP:=PS.start (t1:=3) (t2:=37) (t3:=71) hB hs hr hbig hE hbw
 generalize (((w.alloc (.cells #[Value.int .i64 0,.string ⟨#[]⟩,.int .i64 0,.float .f64 0,.bool false,.slice none 0 0] 26)).alloc (.cells #[Value.int .i64 0] 3)).alloc (.cells #[Value.int .i64 0] 37)).alloc (.cells #[Value.slice (some ⟨b,o,none⟩) n cap,.int .i64 0,.int .i64 1] 71)=W at hP ⊢
 have hv:=value_any (rp:=rp) (g:=w.heap.size+1+1+1) (o:=o) (n:=n) (cap:=cap) (s:=s) hbw 8 (Nat.le_refl _) W 0 1 hP.rs (by omega) hnd
 rw [List.drop_zero,show (8:Int) - ((8:Nat):Int)=0 by omega] at hv
 refine hv.mono fun e W8 he=>?_
 cases hsc:At rp 8 1 s.data.toList with
 | stop q=>
   rw [hsc] at he;obtain ⟨rfl,hf8⟩:=he;have ne0:¬w.heap.size=w.heap.size+1+1+1:=by omega
   have ne1:¬w.heap.size+1=w.heap.size+1+1+1:=by omega
   have ne2:¬w.heap.size+1+1=w.heap.size+1+1+1:=by omega
   refine leaves_cons (f:=45) (args:=#[.pointer (some ⟨w.heap.size,0,none⟩),.pointer (some ⟨w.heap.size+1,0,none⟩),.pointer (some ⟨w.heap.size+1+1,0,none⟩)]) (by simp) (by simp [go_sem]) ?_;refine (R2.catch_stop (w:=W8) (B:=w.heap.size) [] (fun j y hj=>hf8.cell (hP.r0 j y hj) ne0) (hP.k0.fr hf8 ne0) (hf8.cell hP.c1 ne1) (hP.k1.fr hf8 ne1) (hf8.cell hP.c2 ne2) (hP.k2.fr hf8 ne2)).mono ?_;rintro e u' w'' ⟨rfl,rfl,hr9,c19,c29,hf9⟩;have hbel:Below w.heap.size w w'' := (hP.below.trans (hf8.below hP.below.size (fun i hi e=>by omega))).trans (hf9.below (Nat.le_trans hP.below.size hf8.size) (fun i hi e=>by omega));have e0:=hr9 0 _ rfl;have e1:=hr9 1 _ rfl;have e2:=hr9 2 _ rfl;have e3:=hr9 3 _ rfl;have e4:=hr9 4 _ rfl;have e5:=hr9 5 _ rfl;simp only [Nat.zero_add] at e0 e1 e2 e3 e4 e5;replace hbel:=Hd hbel;simp [Leaves,settle,results,Tryz.results24,go_sem,e0,e1,e2,e3,e4,e5,c19,c29,Ed]
   exact hbel.out
 | got r=>
   obtain ⟨vv,uu,mm⟩:=r;rw [hsc] at he;obtain ⟨ad1,ca1,rfl,hrv,hf8,hrs⟩:=he;have ne0:¬w.heap.size=w.heap.size+1+1+1:=by omega
   have ne1:¬w.heap.size+1=w.heap.size+1+1+1:=by omega
   have ne2:¬w.heap.size+1+1=w.heap.size+1+1+1:=by omega
   have htC:=Ae (n:=6) (fun j y hj=>hf8.cell (hP.r0 j y hj) ne0) (hP.k0.fr hf8 ne0) rfl;have hbW8:Below w.heap.size w W8:=hP.below.trans (hf8.below hP.below.size (fun i hi e=>by omega));have hfw:Fr (fun k=>k=w.heap.size) W8 (W8.setCells w.heap.size 0 [.int .i64 vv.kind,.string vv.text,.int .i64 vv.int,.float .f64 vv.real,.bool vv.flag,.slice ad1 vv.list.length ca1]):=Fr.setCells (S:=fun k=>k=w.heap.size) (fun _=>rfl) _ _ _ (Fr.refl _ _);have hr9:=World.rangeAt_setCells_same _ _ _ [Value.int .i64 vv.kind,.string vv.text,.int .i64 vv.int,.float .f64 vv.real,.bool vv.flag,.slice ad1 vv.list.length ca1] htC;have hk9:=Blk.setCells (b:=w.heap.size) [.int .i64 vv.kind,.string vv.text,.int .i64 vv.int,.float .f64 vv.real,.bool vv.flag,.slice ad1 vv.list.length ca1] 0 W8 (hP.k0.fr hf8 ne0);have hc19:=hfw.cell (hf8.cell hP.c1 ne1) (by show ¬w.heap.size+1=w.heap.size;omega)
   have hc29:=hfw.cell (hf8.cell hP.c2 ne2) (by show ¬w.heap.size+1+1=w.heap.size;omega);have hk19:=(hP.k1.fr hf8 ne1).fr hfw (by omega);have hk29:=(hP.k2.fr hf8 ne2).fr hfw (by omega);have hg1:=hfw.cell hrs.scan.c1 (by show ¬w.heap.size+1+1+1=w.heap.size;omega);rw [Nat.zero_add] at hg1;have hbel9:Below w.heap.size w (W8.setCells w.heap.size 0 [.int .i64 vv.kind,.string vv.text,.int .i64 vv.int,.float .f64 vv.real,.bool vv.flag,.slice ad1 vv.list.length ca1]):=hbW8.trans (hfw.below hbW8.size (fun i hi e=>by omega));have hWs:w.heap.size+1+1+1<W.heap.size:=hP.rs.scan.blk.lt;replace htC:=Hd htC;replace hP:=Hd hP;replace hE:=Hd hE;clear hnd;replace hB:=Hd hB;replace hsc:=Hd hsc;go_upto_region 4 with (refine wpList_store_mid rfl 26 _ _ rfl w.heap.size 0 _ rfl rfl htC.out Ab (one6 _ _ _ _ _ _ _ _) ?_)
   dsimp only [Act.put];generalize W8.setCells w.heap.size 0 [Value.int .i64 vv.kind,.string vv.text,.int .i64 vv.int,.float .f64 vv.real,.bool vv.flag,.slice ad1 vv.list.length ca1]=W9 at *;obtain ⟨B,hBw⟩:∃B,B=w.heap.size:=⟨_,rfl⟩;obtain ⟨G0,hG0⟩:∃G0,G0=w.heap.size+1+1+1:=⟨_,rfl⟩;have hgn:¬(G0=B\/G0=B+1\/G0=B+2):=by omega
   have hrvm:RV (A5 W.heap.size W9) (An vv.kind vv.text vv.int vv.real vv.flag ad1 vv.list.length ca1) vv:=hrv.mono (newer_frS hfw (fun i hi e=>by omega) (Nat.le_refl _));have hlt2:=hk29.lt;replace hrvm:=Hd hrvm;replace hbel9:=Hd hbel9;rw [<-hG0,<-hBw];rw [<-hG0] at hg1;rw [<-hBw] at hr9 hk9 hc19 hk19 hc29 hk29 hlt2;have hCW:CsV B [.int .i64 vv.kind,.string vv.text,.int .i64 vv.int,.float .f64 vv.real,.bool vv.flag,.slice ad1 vv.list.length ca1] W9 W9.drew:=⟨⟨(Fr.refl _ _).drew,⟨_,rfl,hr9⟩,hk9.drew,⟨_,hc19⟩,hk19.drew,⟨_,hc29⟩,hk29.drew⟩,hr9⟩;clear hr9 hk9 hc19 hc29 hk19 hk29 hfw hrv htC hrs hf8 hbW8
   refine wp_region_rely (l:=[_,_,_,_,_,_,_,_]) (CsV B [.int .i64 vv.kind,.string vv.text,.int .i64 vv.int,.float .f64 vv.real,.bool vv.flag,.slice ad1 vv.list.length ca1] W9) (fun _=>True) (csP B) (fun kG_=>([fun v _=>v=.agg #[.int .i64 vv.kind,.string vv.text,.int .i64 vv.int,.float .f64 vv.real,.bool vv.flag,.slice ad1 vv.list.length ca1],fun v _=>v=.pointer (some ⟨G0,0,none⟩),fun v _=>v=.pointer (some ⟨G0,0,none⟩),fun v _=>v=.pointer (some ⟨G0,1,none⟩),fun v _=>v=.int .i64 (uu:Int),fun v w=>w.rangeAt B 0 [.int .i64 vv.kind,.string vv.text,.int .i64 vv.int,.float .f64 vv.real,.bool vv.flag,.slice ad1 vv.list.length ca1],fun v w=>w.cell? ⟨B+1,0,none⟩=some (.int .i64 (uu:Int)),fun v w=>w.cell? ⟨B+2,0,none⟩=some (.int .i64 0)]:List (Value->World->Prop)).getD kG_ (fun _ _=>True)) (eats []) (isIn []) (by kernel_rfl) (by kernel_rfl) (by kernel_rfl) hCW trivial ?_ ?_ ?_ ?_
   · intro i kG_ u w w' hne hE hg hr
     rcases kG_ with _ | _ | _ | _ | _ | _ | _ | _ | kG_
     · exact hg
     · exact hg
     · exact hg
     · exact hg
     · exact hg
     · replace hg:(fun (v:Value) (w:World)=>w.rangeAt B 0 [.int .i64 vv.kind,.string vv.text,.int .i64 vv.int,.float .f64 vv.real,.bool vv.flag,.slice ad1 vv.list.length ca1]) u w:=hg
       show (fun (v:Value) (w:World)=>w.rangeAt B 0 [.int .i64 vv.kind,.string vv.text,.int .i64 vv.int,.float .f64 vv.real,.bool vv.flag,.slice ad1 vv.list.length ca1]) u w';dsimp only at hg ⊢;replace hE:exB _ _ i 5=false:=hE;replace hne:5≠i:=hne;unfold csP at hr;split at hr
       all_goals first
         | exact absurd rfl hne
         | exact absurd (hE.symm.trans (by decide +kernel:exB _ _ _ _=true)) (by decide)
         | (subst hr;exact hg)
         | ((intro j y hj;exact hr.cell (hg j y hj) (by show ¬B=_;omega)))
     · replace hg:(fun (v:Value) (w:World)=>w.cell? ⟨B+1,0,none⟩=some (.int .i64 (uu:Int))) u w:=hg
       show (fun (v:Value) (w:World)=>w.cell? ⟨B+1,0,none⟩=some (.int .i64 (uu:Int))) u w';dsimp only at hg ⊢;replace hE:exB _ _ i 6=false:=hE;replace hne:6≠i:=hne;unfold csP at hr;split at hr
       all_goals first
         | exact absurd rfl hne
         | exact absurd (hE.symm.trans (by decide +kernel:exB _ _ _ _=true)) (by decide)
         | (subst hr;exact hg)
         | ((exact hr.cell hg (by show ¬B+1=_;omega)))
     · replace hg:(fun (v:Value) (w:World)=>w.cell? ⟨B+2,0,none⟩=some (.int .i64 0)) u w:=hg
       show (fun (v:Value) (w:World)=>w.cell? ⟨B+2,0,none⟩=some (.int .i64 0)) u w';dsimp only at hg ⊢;replace hE:exB _ _ i 7=false:=hE;replace hne:7≠i:=hne;unfold csP at hr;split at hr
       all_goals first
         | exact absurd rfl hne
         | exact absurd (hE.symm.trans (by decide +kernel:exB _ _ _ _=true)) (by decide)
         | (subst hr;exact hg)
         | ((exact hr.cell hg (by show ¬B+2=_;omega)))
     · trivial
   · exact fun _ _ _ _ _ _=>trivial
   · refine ⟨?_,?_,?_,?_,?_,?_,?_,?_,trivial⟩
     · refine VC.plain rfl fun a wx hf=>?_
       have s2:=hf.old 2 (by first | rfl | kernel_rfl);have q2:=A8 s2;exact gives_load_mid rfl (s2.trans rfl) hf.c.r Tryz.underlying26 rfl Ab ⟨hf.c,rfl,rfl⟩
     · refine VC.plain rfl fun a wx hf=>?_
       have s5:=hf.old 5 (by first | rfl | kernel_rfl);have q5:=A8 s5;exact gives_value (by simp [go_sem,q5]) ⟨hf.c,rfl,rfl⟩
     · refine VC.plain rfl fun a wx hf=>?_
       obtain ⟨v13,g13,s13⟩:=hf.got 1 (by kernel_rfl) (by intro j hj;simp [eats] at hj) rfl rfl;replace s13:=s13.trans (show v13=.pointer (some ⟨G0,0,none⟩) from g13);clear g13;have q13:=A8 s13;exact gives_value (by simp [go_sem,q13]) ⟨hf.c,rfl,rfl⟩
     · refine VC.plain rfl fun a wx hf=>?_
       obtain ⟨v14,g14,s14⟩:=hf.got 2 (by kernel_rfl) (by intro j hj;simp [eats] at hj) rfl rfl;replace s14:=s14.trans (show v14=.pointer (some ⟨G0,0,none⟩) from g14);clear g14;have q14:=A8 s14;exact gives_value (by simp [go_sem,q14]) ⟨hf.c,rfl,rfl⟩
     · refine VC.plain rfl fun a wx hf=>?_
       obtain ⟨v15,g15,s15⟩:=hf.got 3 (by kernel_rfl) (by intro j hj;simp [eats] at hj) rfl rfl;replace s15:=s15.trans (show v15=.pointer (some ⟨G0,1,none⟩) from g15);clear g15;have q15:=A8 s15;exact gives_value (by simp [go_sem,q15,Fr.cell (p:=⟨G0,1,none⟩) hf.c.c.fr hg1 hgn]) ⟨hf.c,rfl,rfl⟩
     · refine VC.plain rfl fun a wx hf=>?_
       have s2:=hf.old 2 (by first | rfl | kernel_rfl);have q2:=A8 s2;obtain ⟨v12,g12,s12⟩:=hf.got 0 (by kernel_rfl) (by intro j hj;simp [eats] at hj) rfl rfl;replace s12:=s12.trans (show v12=.agg #[.int .i64 vv.kind,.string vv.text,.int .i64 vv.int,.float .f64 vv.real,.bool vv.flag,.slice ad1 vv.list.length ca1] from g12);clear g12;have q12:=A8 s12;have ht:=Ae (n:=6) hf.c.r hf.c.c.k0 rfl;have hfw:Fr (fun k=>k=B) wx (wx.setCells B 0 [.int .i64 vv.kind,.string vv.text,.int .i64 vv.int,.float .f64 vv.real,.bool vv.flag,.slice ad1 vv.list.length ca1]):=Fr.setCells (S:=fun k=>k=B) (fun _=>rfl) _ _ _ (Fr.refl _ _);have hrs9:=World.rangeAt_setCells_same _ _ _ [Value.int .i64 vv.kind,.string vv.text,.int .i64 vv.int,.float .f64 vv.real,.bool vv.flag,.slice ad1 vv.list.length ca1] ht
       exact Dk rfl (s2.trans rfl) s12 ht Ab (one6 _ _ _ _ _ _ _ _) ⟨⟨hf.c.c.set0 hfw ⟨_,rfl,hrs9⟩ (Blk.setCells _ _ _ hf.c.c.k0),hrs9⟩,hfw,hrs9⟩
     · refine VC.plain rfl fun a wx hf=>?_
       have s3:=hf.old 3 (by first | rfl | kernel_rfl);have q3:=A8 s3;obtain ⟨v16,g16,s16⟩:=hf.got 4 (by kernel_rfl) (by intro j hj;simp [eats] at hj) rfl rfl;replace s16:=s16.trans (show v16=.int .i64 (uu:Int) from g16);clear g16;have q16:=A8 s16;obtain ⟨y1,hy1⟩:=hf.c.c.t1;have hfw:Fr (fun k=>k=B+1) wx (wx.setCell ⟨B+1,0,none⟩ (.int .i64 (uu:Int))):=Fr.setCell (S:=fun k=>k=B+1) (Fr.refl _ _) (fun _=>rfl) _;have hcs:(wx.setCell ⟨B+1,0,none⟩ (.int .i64 (uu:Int))).cell? ⟨B+1,0,none⟩=some (.int .i64 (uu:Int)):=Am hy1;exact gives_skip (w' := wx.setCell ⟨B+1,0,none⟩ (.int .i64 (uu:Int))) (by simp [go_sem,q3,q16,hy1,hf.c.c.k1.frz 0 none]) ⟨⟨hf.c.c.set1 hfw ⟨_,hcs⟩ (hf.c.c.k1.setCell _ _),fun j y hj=>hfw.cell (hf.c.r j y hj) (by show ¬B=B+1;omega)⟩,hfw,hcs⟩
     · refine VC.plain rfl fun a wx hf=>?_
       have s4:=hf.old 4 (by first | rfl | kernel_rfl);have q4:=A8 s4;obtain ⟨y1,hy1⟩:=hf.c.c.t2;have hfw:Fr (fun k=>k=B+2) wx (wx.setCell ⟨B+2,0,none⟩ (.int .i64 0)):=Fr.setCell (S:=fun k=>k=B+2) (Fr.refl _ _) (fun _=>rfl) _;have hcs:(wx.setCell ⟨B+2,0,none⟩ (.int .i64 0)).cell? ⟨B+2,0,none⟩=some (.int .i64 0):=Am hy1;exact gives_skip (w' := wx.setCell ⟨B+2,0,none⟩ (.int .i64 0)) (by simp [go_sem,q4,hy1,hf.c.c.k2.frz 0 none]) ⟨⟨hf.c.c.set2 hfw ⟨_,hcs⟩ (hf.c.c.k2.setCell _ _),fun j y hj=>hfw.cell (hf.c.r j y hj) (by show ¬B=B+2;omega)⟩,hfw,hcs⟩
   · intro vs w5 hC hG
     have g6:w5.cell? ⟨B+1,0,none⟩=some (.int .i64 (uu:Int)):=hG 6 (by decide) (by intro i hi;simp [eats]);have g7:w5.cell? ⟨B+2,0,none⟩=some (.int .i64 0):=hG 7 (by decide) (by intro i hi;simp [eats]);clear hG;have hr5:=hC.r;have hbel:=hbel9.out.trans (hC.c.fr.below hbel9.out.size (fun i hi e=>by omega));have hrv5:RV (A5 w.heap.size w5) (An vv.kind vv.text vv.int vv.real vv.flag ad1 vv.list.length ca1) vv:=hrvm.out.mono (newer_frS hC.c.fr (fun i hi e=>by omega) (by omega));clear hC;have e0:=hr5 0 _ rfl;have e1:=hr5 1 _ rfl;have e2:=hr5 2 _ rfl;have e3:=hr5 3 _ rfl;have e4:=hr5 4 _ rfl;have e5:=hr5 5 _ rfl;simp only [Nat.zero_add] at e0 e1 e2 e3 e4 e5;replace hr5:=Hd hr5;replace hbel:=Hd hbel;replace hrv5:=Hd hrv5;replace e0:=Hd e0;replace e1:=Hd e1;replace e2:=Hd e2;replace e3:=Hd e3;replace e4:=Hd e4;replace e5:=Hd e5;replace g6:=Hd g6;replace g7:=Hd g7
     simp only [putFrom,Act.put,List.setIfInBounds_toArray,List.set_cons_zero,List.set_cons_succ];go_wp2_with fail
     subst hBw;refine leaves_cons (f:=45) (args:=#[.pointer (some ⟨w.heap.size,0,none⟩),.pointer (some ⟨w.heap.size+1,0,none⟩),.pointer (some ⟨w.heap.size+1+1,0,none⟩)]) (by simp) (by simp [go_sem]) ?_;refine (catch_idle _ _ _ w5).mono ?_;rintro e u' w'' ⟨rfl,rfl,hww⟩;obtain rfl:=hww.symm;have hQ:Ed (.got (vv,uu,mm)) w (.returned (.tuple #[.agg #[.int .i64 vv.kind,.string vv.text,.int .i64 vv.int,.float .f64 vv.real,.bool vv.flag,.slice ad1 vv.list.length ca1],.int .i64 (uu:Int),.int .i64 0])) w5:=⟨ad1,ca1,rfl,hrv5.out,hbel.out⟩;rw [<-hsc.out] at hQ;replace hQ:=Hd hQ;simp [Leaves,settle,results,Tryz.results24,go_sem,e0.out,e1.out,e2.out,e3.out,e4.out,e5.out,g6.out,g7.out];exact hQ.out
end R2
set_option maxRecDepth 100000 in
set_option maxHeartbeats 3200000 in
theorem value_nilbuf {w:World} {g c:Nat} {a:Option Addr} {d:Int} (c0:w.cell? ⟨g,0,none⟩=some (.slice a 0 c)) (c1:w.cell? ⟨g,1,none⟩=some (.int .i64 0)) :
   Calls Tryz.prog 46 #[.pointer (some ⟨g,0,none⟩),.int .i64 d] w fun e w' => e=B1 0/\Below w.heap.size w w' := by
 obtain ⟨W1,hW1⟩:∃W1,W1=w.alloc (.cells #[.int .i64 0,.string ⟨#[]⟩,.int .i64 0,.float .f64 0,.bool false,.slice none 0 0] 26):=⟨_,rfl⟩
 have hb1:Below w.heap.size w W1:=by rw [hW1];exact (Below.refl _ _).alloc (Nat.le_refl _) _
 replace c0:=Aa hb1 _ _ c0
 replace c1:=Aa hb1 _ _ c1
 have hgl:g<W1.heap.size:=World.block_lt_of_cell? W1 ⟨g,0,none⟩ c0
 replace hW1:=Hd hW1
 replace hb1:=Hd hb1
 go_enter Tryz.func46,Tryz.ntmps46
 go_wp2_with fail
 rw [<-hW1.out]
 refine Af (by kernel_rfl) (by kernel_rfl) ?_
 repeat (go_big_quiet_step ((fail)))
 refine wpQuiet_nil ?_
 rintro _ ⟨xq,rfl⟩
 have hS:=Ag W1 xq
 go_wp2_with fail
 refine (Dg _).mono ?_
 rintro e w' ⟨rfl,hww⟩
 obtain rfl:=hww.symm
 exact ⟨rfl,rfl,hb1.out.trans (hS.mono hb1.out.size)⟩
structure PN (a:Option Addr) (c:Nat) (w W:World):Prop where
 r0:W.rangeAt w.heap.size 0 [.int .i64 0,.string ⟨#[]⟩,.int .i64 0,.float .f64 0,.bool false,.slice none 0 0]
 k0:Blk W w.heap.size
 c1:W.cell? ⟨w.heap.size+1,0,none⟩=some (.int .i64 0)
 k1:Blk W (w.heap.size+1)
 c2:W.cell? ⟨w.heap.size+1+1,0,none⟩=some (.int .i64 0)
 k2:Blk W (w.heap.size+1+1)
 f0:W.cell? ⟨w.heap.size+1+1+1,0,none⟩=some (.slice a 0 c)
 f1:W.cell? ⟨w.heap.size+1+1+1,1,none⟩=some (.int .i64 0)
 below:Below w.heap.size w W
theorem PN.start {a:Option Addr} {c:Nat} {w:World} {t1 t2 t3:TypeId} :
   PN a c w ((((w.alloc (.cells #[.int .i64 0,.string ⟨#[]⟩,.int .i64 0,.float .f64 0,.bool false,.slice none 0 0] 26)).alloc (.cells #[.int .i64 0] t1)).alloc (.cells #[.int .i64 0] t2)).alloc (.cells #[.slice a 0 c,.int .i64 0,.int .i64 1] t3)):=by
 obtain ⟨W1,hW1⟩:∃W1,W1=w.alloc (.cells #[.int .i64 0,.string ⟨#[]⟩,.int .i64 0,.float .f64 0,.bool false,.slice none 0 0] 26):=⟨_,rfl⟩
 obtain ⟨W2,hW2⟩:∃W2,W2=W1.alloc (.cells #[.int .i64 0] t1):=⟨_,rfl⟩
 obtain ⟨W3,hW3⟩:∃W3,W3=W2.alloc (.cells #[.int .i64 0] t2):=⟨_,rfl⟩
 obtain ⟨W4,hW4⟩:∃W4,W4=W3.alloc (.cells #[.slice a 0 c,.int .i64 0,.int .i64 1] t3):=⟨_,rfl⟩
 rw [<-hW1,<-hW2,<-hW3,<-hW4]
 have s1:W1.heap.size=w.heap.size+1:=by rw [hW1];simp
 have s2:W2.heap.size=w.heap.size+1+1:=by rw [hW2];simp [s1]
 have s3:W3.heap.size=w.heap.size+1+1+1:=by rw [hW3];simp [s2]
 have b1:Below w.heap.size w W1:=by rw [hW1];exact (Below.refl _ _).alloc (Nat.le_refl _) _
 have b2:Below W1.heap.size W1 W2:=by rw [hW2];exact (Below.refl _ _).alloc (Nat.le_refl _) _
 have b3:Below W2.heap.size W2 W3:=by rw [hW3];exact (Below.refl _ _).alloc (Nat.le_refl _) _
 have b4:Below W3.heap.size W3 W4:=by rw [hW4];exact (Below.refl _ _).alloc (Nat.le_refl _) _
 have b34:=b3.trans (b4.mono b3.size)
 have b24:=b2.trans (b34.mono b2.size)
 have b14:=b1.trans (b24.mono b1.size)
 have r1:W1.rangeAt w.heap.size 0 [.int .i64 0,.string ⟨#[]⟩,.int .i64 0,.float .f64 0,.bool false,.slice none 0 0]:=by
   rw [hW1];intro j y hj;rw [Nat.zero_add,World.cell?_alloc_new];simpa using hj
 have k1:Blk W1 w.heap.size:=by rw [hW1];exact Blk.new _ _ _
 have k2:Blk W2 W1.heap.size:=by rw [hW2];exact Blk.new _ _ _
 have k3:Blk W3 W2.heap.size:=by rw [hW3];exact Blk.new _ _ _
 have k4:Blk W4 W3.heap.size:=by rw [hW4];exact Blk.new _ _ _
 have e2:W2.cell? ⟨W1.heap.size,0,none⟩=some (.int .i64 0):=by rw [hW2,World.cell?_alloc_new];rfl
 have e3:W3.cell? ⟨W2.heap.size,0,none⟩=some (.int .i64 0):=by rw [hW3,World.cell?_alloc_new];rfl
 have f0:W4.cell? ⟨W3.heap.size,0,none⟩=some (.slice a 0 c):=by rw [hW4,World.cell?_alloc_new];rfl
 have f1:W4.cell? ⟨W3.heap.size,1,none⟩=some (.int .i64 0):=by rw [hW4,World.cell?_alloc_new];rfl
 have f2:W4.cell? ⟨W3.heap.size,2,none⟩=some (.int .i64 1):=by rw [hW4,World.cell?_alloc_new];rfl
 have g2:=Aa b34 _ _ e2
 have g3:=Aa b4 _ _ e3
 have h2:=k2.of_block (b34.block _ k2.lt)
 have h3:=k3.of_block (b4.block _ k3.lt)
 rw [s1] at g2 h2
 rw [s2] at g3 h3
 rw [s3] at f0 f1 f2 k4
 exact ⟨fun j y hj=>Aa b24 _ _ (r1 j y hj),k1.of_block (b24.block _ k1.lt),g2,h2,g3,h3,f0,f1,b14⟩
set_option maxRecDepth 100000 in
set_option maxHeartbeats 3200000 in
theorem parse_none (a:Option Addr) (c:Nat) (w:World):Calls Tryz.prog 24 #[.slice a 0 c] w (Ed (.stop 0) w):=by
 have hmf:∀(fn:Fn) (first cap:Array Value) (w:World),(Instr.makeFunc fn first cap).run Tryz.prog w=.ok (.func fn first cap) w:=fun _ _ _ _=>rfl
 go_enter_defers Tryz.func24,Tryz.ntmps24
 go_wp2_with fail
 have hP:=PN.start (a:=a) (c:=c) (w:=w) (t1:=3) (t2:=37) (t3:=71);generalize (((w.alloc (.cells #[Value.int .i64 0,.string ⟨#[]⟩,.int .i64 0,.float .f64 0,.bool false,.slice none 0 0] 26)).alloc (.cells #[Value.int .i64 0] 3)).alloc (.cells #[Value.int .i64 0] 37)).alloc (.cells #[Value.slice a 0 c,.int .i64 0,.int .i64 1] 71)=W at hP ⊢;refine (value_nilbuf hP.f0 hP.f1).mono fun e W8 he=>?_;obtain ⟨rfl,hf8⟩:=he;refine leaves_cons (f:=45) (args:=#[.pointer (some ⟨w.heap.size,0,none⟩),.pointer (some ⟨w.heap.size+1,0,none⟩),.pointer (some ⟨w.heap.size+1+1,0,none⟩)]) (by simp) (by simp [go_sem]) ?_;refine (R2.catch_stop (w:=W8) (B:=w.heap.size) [] (fun j y hj=>Aa hf8 _ _ (hP.r0 j y hj)) (hP.k0.of_block (hf8.block _ hP.k0.lt)) (Aa hf8 _ _ hP.c1) (hP.k1.of_block (hf8.block _ hP.k1.lt)) (Aa hf8 _ _ hP.c2) (hP.k2.of_block (hf8.block _ hP.k2.lt))).mono ?_;rintro e u' w'' ⟨rfl,rfl,hr9,c19,c29,hf9⟩
 have hb8:=hP.below.trans (hf8.mono hP.below.size);have hbel:Below w.heap.size w w'' := hb8.trans (hf9.below hb8.size (fun i hi e=>by omega));have e0:=hr9 0 _ rfl;have e1:=hr9 1 _ rfl;have e2:=hr9 2 _ rfl;have e3:=hr9 3 _ rfl;have e4:=hr9 4 _ rfl;have e5:=hr9 5 _ rfl;simp only [Nat.zero_add] at e0 e1 e2 e3 e4 e5;replace hbel:=Hd hbel;simp [Leaves,settle,results,Tryz.results24,go_sem,e0,e1,e2,e3,e4,e5,c19,c29,Ed];exact hbel.out
theorem parse_nil (w:World):Calls Tryz.prog 24 #[.slice none 0 0] w (Ed (.stop 0) w):=parse_none none 0 w
theorem rnew_any (w:World):Calls Tryz.prog 25 #[] w fun e w' => e=.returned (.pointer (some ⟨w.heap.size,0,none⟩))/\w' = w.alloc (.cells #[.slice none 0 0,.int .i64 0] 74):=by
 go_enter Tryz.func25,Tryz.ntmps25
 go_wp2;go_ret;exact ⟨rfl,rfl⟩
theorem left_any {w:World} {r:Nat} {ad:Option Addr} {n c:Nat} (h:w.cell? ⟨r,0,none⟩=some (.slice ad n c)):Calls Tryz.prog 28 #[.pointer (some ⟨r,0,none⟩)] w fun e w' => e=.returned (.int .i64 (n:Int))/\w' = w:=by
 go_enter Tryz.func28,Tryz.ntmps28
 go_wp2;go_ret;exact ⟨rfl,rfl⟩
end Go.Proofs.YtagkgfniihiinaaGreatDoor
