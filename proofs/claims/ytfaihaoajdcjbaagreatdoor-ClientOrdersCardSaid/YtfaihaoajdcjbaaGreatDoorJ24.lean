/- The reader: a value, at every text. -/
import Derived.Test.YtfaihaoajdcjbaaGreatDoorRdE
import Derived.Test.YtfaihaoajdcjbaaGreatDoorJ30
import Derived.Defers
import Derived.Recover
import Derived.Tactics2
set_option linter.all false
namespace Go.Proofs.YtfaihaoajdcjbaaGreatDoor
open Go.RowKit
theorem E7 {f:Nat->List UInt8->Out (V × Nat × Nat)} (hf:∀(m:Nat) (L:List UInt8) (v:V) (u m' : Nat),m<=1000->f m L=.got (v,u,m')->m' <= 1000):∀(n m:Nat) (L:List UInt8) (l:List V) (u m' : Nat),m<=1000->Bo f n m L=.got (l,u,m')->m' <= 1000
 | 0,m,L,l,u,m', hm,h=>by
   rw [Bo] at h;simp only [Out.got.injEq,Prod.mk.injEq] at h;omega
 | n+1,m,L,l,u,m', hm,h=>by
   rw [Bo] at h;cases h1:f m L with
   | stop q=>rw [h1] at h;cases h
   | got r=>
     obtain ⟨v,u1,m1⟩:=r;rw [h1] at h;dsimp only at h;have hm1:=hf m L v u1 m1 hm h1;cases h2:Bo f n m1 (L.drop u1) with
     | stop q=>rw [h2] at h;cases h
     | got r=>
       obtain ⟨l2,u2,m2⟩:=r;rw [h2] at h;simp only [Out.got.injEq,Prod.mk.injEq] at h;have:=E7 hf n m1 _ l2 u2 m2 hm1 h2;omega
theorem Ff {rp:Rp}:∀(lv:Nat) (m:Nat) (L:List UInt8) (v:V) (u m' : Nat),m<=1000->Aw rp lv m L=.got (v,u,m')->m' <= 1000
 | 0,m,L,v,u,m', hm,h=>by
   rw [Aw] at h;split at h
   · cases h
   · simp only [Out.got.injEq,Prod.mk.injEq] at h;omega
   · cases h
 | lv+1,m,L,v,u,m', hm,h=>by
   rw [Aw] at h;split at h
   · cases h
   · simp only [Out.got.injEq,Prod.mk.injEq] at h;omega
   · rename_i kd n u0 _
     split at h
     · cases h
     · rename_i hb
       cases h2:Bo (Aw rp lv) n (m+n) (L.drop u0) with
       | stop q=>rw [h2] at h;cases h
       | got r=>
         obtain ⟨l2,u2,m2⟩:=r;rw [h2] at h;simp only [Out.got.injEq,Prod.mk.injEq] at h;have:=E7 (Ff lv) n (m+n) _ l2 u2 m2 (by omega) h2;omega
theorem Fx {rp:Rp} {w0 w:World} {g b o n cap at_ many:Nat} {s:ByteArray} {d:Int} (h:RS rp w0 w g b o n cap s at_ many) (hbw:b<w.heap.size) (out:Out (V × Nat × Nat)) (hnd:F4 rp (s.data.toList.drop at_))
   (ho:match Cn rp (s.data.toList.drop at_) with
     | .stop e=>out=.stop e
     | .leaf v u=>out=.got (v,u,many)
     | .list kd N u=>∃res:Out (List V × Nat × Nat),(∀W,RS rp w0 W g b o n cap s (at_+u) many->Calls Tryz.prog 106 #[.pointer (some ⟨g,0,none⟩),.int .i64 (kd:Int),.int .i64 (N:Int),.int .i64 d] W (ListQ rp w0 g b o n cap s (kd:Int) (at_+u) res W)) /\
         out=(match res with | .stop q=>.stop q | .got (l,u2,m2)=>.got (.mk (kd:Int) ⟨#[]⟩ 0 0 false l,u+u2,m2))) :
   Calls Tryz.prog 77 #[.pointer (some ⟨g,0,none⟩),.int .i64 d] w (ValQ rp w0 g b o n cap s at_ out w):=by
 cases hL:s.data.toList.drop at_ with
 | nil=>
   rw [hL] at ho;simp only [Cn] at ho;subst ho;have he:at_=n:=by
     have:=h.le;have hz:=h.scan.size;have h1:(s.data.toList.drop at_).length=0:=by rw [hL];rfl
     rw [List.length_drop,<-Am] at h1;omega
   exact value_end h he
 | cons c L=>
   rw [hL] at ho;simp only [Cn] at ho;by_cases hk0:Ae c=0
   · rw [if_pos hk0] at ho
     subst ho;exact value_mark h hL hk0
   rw [if_neg hk0] at ho;cases hl:Bp L with
   | stop q=>
     rw [hl] at ho;simp only at ho;subst ho;exact value_line h hL hk0 hl
   | got r=>
     obtain ⟨t,u⟩:=r;rw [hl] at ho;simp only at ho;by_cases hnil:t=[45,49]/\(Ae c=4\/Ae c=5)
     · rw [if_pos hnil] at ho
       simp only at ho;subst ho;exact value_nil h hL hnil.2 (by rw [hl,hnil.1])
     rw [if_neg hnil] at ho;by_cases hk1:Ae c=4\/Ae c=10\/Ae c=11
     · rw [if_pos hk1] at ho
       cases hm:numS t 4096 with
       | none=>
         rw [hm] at ho;simp only at ho;subst ho;exact Eh h hL (.inl ⟨rfl,hk1⟩) hl hnil hm
       | some len=>
         rw [hm] at ho;simp only at ho;cases hlo:Dq (L.drop u) len with
         | stop q=>
           rw [hlo] at ho;simp only at ho;subst ho;exact value_lstop h hL hk1 hl hnil hm hlo
         | got x=>
           rw [hlo] at ho;simp only at ho;by_cases ok:okV (Ay (Ae c) ⟨x.toArray⟩ 0 0 false)=true
           · rw [if_pos ok] at ho
             simp only at ho;subst ho;exact Eu h hL hk1 hl hnil hm hlo (.inl ⟨ok,rfl⟩)
           · rw [if_neg ok] at ho
             simp only at ho;subst ho;exact Eu h hL hk1 hl hnil hm hlo (.inr ⟨ok,rfl⟩)
     rw [if_neg hk1] at ho;by_cases hk2:Ae c=5\/Ae c=13\/Ae c=14
     · rw [if_pos hk2] at ho
       cases hm:numS t 1000 with
       | none=>
         rw [hm] at ho;simp only at ho;subst ho;exact Eh h hL (.inr ⟨rfl,by omega⟩) hl hnil hm
       | some len=>
         rw [hm] at ho;simp only at ho;obtain ⟨res,hcall,rfl⟩:=ho;have hkk:(Ae c=5/\len=len)\/(Ae c=13/\len=len)\/(Ae c=14/\len=len)\/(Ae c=12/\len=2 * len):=by
           rcases hk2 with e | e | e
           · exact .inl ⟨e,rfl⟩
           · exact .inr (.inl ⟨e,rfl⟩)
           · exact .inr (.inr (.inl ⟨e,rfl⟩))
         rw [show at_+(1+u)=at_+1+u by omega] at hcall;cases res with
         | stop q=>exact Cv h hL hkk hl hnil hm hbw hcall rfl
         | got r=>
           obtain ⟨l,u2,m2⟩:=r;exact Cv h hL hkk hl hnil hm hbw hcall rfl
     rw [if_neg hk2] at ho;by_cases hk3:Ae c=12
     · rw [if_pos hk3] at ho
       cases hm:numS t 1000 with
       | none=>
         rw [hm] at ho;simp only at ho;subst ho;exact Eh h hL (.inr ⟨rfl,by omega⟩) hl hnil hm
       | some len=>
         rw [hm] at ho;simp only at ho;obtain ⟨res,hcall,rfl⟩:=ho;have e12:(12:Nat)=Ae c:=hk3.symm;rw [e12] at hcall ⊢;rw [show at_+(1+u)=at_+1+u by omega] at hcall;cases res with
         | stop q=>exact Cv h hL (.inr (.inr (.inr ⟨hk3,rfl⟩))) hl hnil hm hbw hcall rfl
         | got r=>
           obtain ⟨l,u2,m2⟩:=r;exact Cv h hL (.inr (.inr (.inr ⟨hk3,rfl⟩))) hl hnil hm hbw hcall rfl
     rw [if_neg hk3] at ho;have hk4:Ae c=1\/Ae c=2\/Ae c=9\/Ae c=3\/Ae c=7\/Ae c=8\/Ae c=6:=by
       have:=kindR_le c;omega
     cases hs:Cc (rp t) (Ae c) ⟨t.toArray⟩ with
     | none=>
       rw [hs] at ho;simp only at ho;subst ho;exact Ei h hL hk4 hl (hnd c L t u hL · hl) (.inr ⟨rfl,fun v hv=>by rw [hs] at hv;cases hv⟩)
     | some v=>
       rw [hs] at ho;simp only at ho;by_cases ok:okV v=true
       · rw [if_pos ok] at ho
         simp only at ho;subst ho;exact Ei h hL hk4 hl (hnd c L t u hL · hl) (.inl ⟨v,hs,ok,rfl⟩)
       · rw [if_neg ok] at ho
         simp only at ho;subst ho;exact Ei h hL hk4 hl (hnd c L t u hL · hl) (.inr ⟨rfl,fun v' hv=>by rw [hs] at hv;cases hv;exact ok⟩)
theorem F8 {rp:Rp} {L:List UInt8} {kd N u:Nat} (h:Cn rp L=.list kd N u):N<=100000:=by
 unfold Cn at h;split at h
 · cases h
 split at h
 · cases h
 split at h
 · cases h
 split at h
 · cases h
 split at h
 · split at h
   · cases h
   · split at h
     · cases h
     · split at h<;>cases h
 split at h
 · split at h
   · cases h
   · rename_i hn
     have:=D4 hn;simp only [Head.list.injEq] at h;omega
 split at h
 · split at h
   · cases h
   · rename_i hn
     have:=D4 hn;simp only [Head.list.injEq] at h;omega
 split at h
 · cases h
 · split at h<;>cases h
theorem value_any {rp:Rp} {w0:World} {g b o n cap:Nat} {s:ByteArray} (hbw0:b<w0.heap.size):∀(lv:Nat),lv<=8->∀(w:World) (at_ many:Nat),RS rp w0 w g b o n cap s at_ many->many<=1000->A7 rp lv many (s.data.toList.drop at_) ->
   Calls Tryz.prog 77 #[.pointer (some ⟨g,0,none⟩),.int .i64 (8 - (lv:Int))] w (ValQ rp w0 g b o n cap s at_ (Aw rp lv many (s.data.toList.drop at_)) w):=by
 intro lv;induction lv with
 | zero=>
   intro _ w at_ many h hm hnd;have hbw:b<w.heap.size:=Nat.lt_of_lt_of_le hbw0 h.below.size;refine Fx h hbw _ (Fk hnd) ?_;rw [Aw];cases hh:Cn rp (s.data.toList.drop at_) with
   | stop e=>rfl
   | leaf v u=>rfl
   | list kd N u=>
     refine ⟨.stop 51,fun W hW=>?_,rfl⟩;exact list_no hW (by omega) (F8 hh) (.inr (.inl (by omega)))
 | succ lv ih=>
   intro hlv w at_ many h hm hnd;have hbw:b<w.heap.size:=Nat.lt_of_lt_of_le hbw0 h.below.size;refine Fx h hbw _ (Fk hnd) ?_;rw [Aw];cases hh:Cn rp (s.data.toList.drop at_) with
   | stop e=>rfl
   | leaf v u=>rfl
   | list kd N u=>
     dsimp only;by_cases hbad:1000<many+N\/(kd=14/\(N=0\/lv<7))
     · rw [if_pos hbad]
       refine ⟨.stop 51,fun W hW=>?_,rfl⟩;exact list_no hW (by omega) (F8 hh) (by
         rcases hbad with e | e
         · exact .inl e
         · exact .inr (.inr ⟨by omega,by omega⟩))
     · rw [if_neg hbad]
       refine ⟨Bo (Aw rp lv) N (many+N) (s.data.toList.drop (at_+u)),fun W hW=>?_,?_⟩
       · have hbW:b<W.heap.size:=Nat.lt_of_lt_of_le hbw0 hW.below.size
         refine R2.R3.list_any hW hbW (by omega) (by omega) (by omega) (by omega) (need:=A7 rp lv) (fun X at2 m2 hX hm2 hn2=>?_) (Ff lv) (by rw [<-List.drop_drop];exact hnd.2 kd N u hh);have:=ih (by omega) X at2 m2 hX hm2 hn2;rw [show (8:Int) - ((lv+1:Nat):Int)+1=8 - (lv:Int) by omega];exact this
       · rw [List.drop_drop]
         cases Bo (Aw rp lv) N (many+N) (s.data.toList.drop (at_+u)) with
         | stop q=>rfl
         | got r=>obtain ⟨l,u2,m2⟩:=r;rfl
theorem catch_idle (p1 p2 p3:Value) (w:World) :
   CallsD Tryz.prog 76 #[p1,p2,p3] .returning w fun e u' w' => e=.returned (.tuple #[])/\u' = .returning/\w' = w:=by
 refine callsD_of_wpS Tryz.func76 rfl fun c₀ cs hu=>?_;apply wpS_seq;apply wpS_region;simp [wpOpsS,go_sem,recoverD,hu,Tryz.ntmps76,Exit.thenS];refine wpS_of_wp ?_;go_wp2_with fail
 cases c₀
 simp_all [bodyPostS,results,Tryz.results76]
@[go_sem] theorem assert_stop (v:Value) (xT:TypeId) (w:World):(Instr.typeAssert (.iface 121 v) xT 121 true).run Tryz.prog w=.ok (.tuple #[v,.bool true]) w:=by kernel_rfl
def csR (B:Nat) (i:Nat) (w w' : World):Prop:=match i with
 | 3=>Fr (fun k=>k=B) w w'
 | 4=>Fr (fun k=>k=B+1) w w'
 | 5=>Fr (fun k=>k=B+2) w w'
 | _=>w' = w
structure CsC (B:Nat) (W w:World):Prop where
 fr:Fr (fun k=>k=B\/k=B+1\/k=B+2) W w
 t0:∃ys:List Value,ys.length=6/\w.rangeAt B 0 ys
 k0:Blk w B
 t1:∃y,w.cell? ⟨B+1,0,none⟩=some y
 k1:Blk w (B+1)
 t2:∃y,w.cell? ⟨B+2,0,none⟩=some y
 k2:Blk w (B+2)
theorem CsC.set0 {B:Nat} {W w w' : World} (h:CsC B W w) (hf:Fr (fun k=>k=B) w w') (ht:∃ys:List Value,ys.length=6/\w'.rangeAt B 0 ys) (hk:Blk w' B):CsC B W w' :=
 ⟨h.fr.trans (hf.mono (fun _ _ e=>Or.inl e)),ht,hk,h.t1.imp fun _ e=>hf.cell e (by show ¬B+1=B;omega),h.k1.fr hf (by omega),h.t2.imp fun _ e=>hf.cell e (by show ¬B+2=B;omega),h.k2.fr hf (by omega)⟩
theorem CsC.set1 {B:Nat} {W w w' : World} (h:CsC B W w) (hf:Fr (fun k=>k=B+1) w w') (ht:∃y,w'.cell? ⟨B+1,0,none⟩=some y) (hk:Blk w' (B+1)):CsC B W w' :=
 ⟨h.fr.trans (hf.mono (fun _ _ e=>Or.inr (Or.inl e))),h.t0.imp fun _ e=>⟨e.1,fun j y hj=>hf.cell (e.2 j y hj) (by show ¬B=B+1;omega)⟩,h.k0.fr hf (by omega),ht,hk,h.t2.imp fun _ e=>hf.cell e (by show ¬B+2=B+1;omega),h.k2.fr hf (by omega)⟩
theorem CsC.set2 {B:Nat} {W w w' : World} (h:CsC B W w) (hf:Fr (fun k=>k=B+2) w w') (ht:∃y,w'.cell? ⟨B+2,0,none⟩=some y) (hk:Blk w' (B+2)):CsC B W w' :=
 ⟨h.fr.trans (hf.mono (fun _ _ e=>Or.inr (Or.inr e))),h.t0.imp fun _ e=>⟨e.1,fun j y hj=>hf.cell (e.2 j y hj) (by show ¬B=B+2;omega)⟩,h.k0.fr hf (by omega),h.t1.imp fun _ e=>hf.cell e (by show ¬B+1=B+2;omega),h.k1.fr hf (by omega),ht,hk⟩
namespace R2
set_option maxRecDepth 100000 in
set_option maxHeartbeats 3200000 in
theorem catch_stop {w:World} {B:Nat} {q:Nat} {c0 c1 c2 c3 c4 c5 x1 x2:Value} (older:List PanicEntry) (hr:w.rangeAt B 0 [c0,c1,c2,c3,c4,c5]) (hk:Blk w B) (h1:w.cell? ⟨B+1,0,none⟩=some x1) (z1:Blk w (B+1)) (h2:w.cell? ⟨B+2,0,none⟩=some x2) (z2:Blk w (B+2)) :
   CallsD Tryz.prog 76 #[.pointer (some ⟨B,0,none⟩),.pointer (some ⟨B+1,0,none⟩),.pointer (some ⟨B+2,0,none⟩)] (.panicking ({ v:=.iface 121 (.agg #[.int .i64 (q:Int)]),recovered:=false } :: older)) w fun e u' w' =>
     e=.returned (.tuple #[])/\u' = .panicking ({ v:=.iface 121 (.agg #[.int .i64 (q:Int)]),recovered:=true } :: older) /\
     w'.rangeAt B 0 [.int .i64 0,.string ⟨#[]⟩,.int .i64 0,.float .f64 0,.bool false,.slice none 0 0]/\w'.cell? ⟨B+1,0,none⟩=some (.int .i64 0)/\w'.cell? ⟨B+2,0,none⟩=some (.int .i64 (q:Int))/\Fr (fun k=>k=B\/k=B+1\/k=B+2) w w' := by
 have htC:=Hd (At (n:=6) hr hk rfl);have hf1:=z1.frz 0 none;have hf2:=z2.frz 0 none;refine callsD_of_wpS Tryz.func76 rfl fun c₀ cs hu=>?_;change Code.wpS _ _ _ { tmps:=#[.pointer (some ⟨B,0,none⟩),.pointer (some ⟨B+1,0,none⟩),.pointer (some ⟨B+2,0,none⟩),undef,undef,undef,undef,undef,undef,undef,undef,undef,undef,undef,undef],defers:=[] } _ _;apply wpS_seq;apply wpS_region;simp [wpOpsS,go_sem,recoverD,hu,Exit.thenS];refine wpS_of_wp ?_;go_upto_region 7 with fail
 obtain ⟨W,hW⟩:∃W,W=w.alloc (.cells #[.int .i64 (q:Int)] 121):=⟨_,rfl⟩;obtain ⟨M,hM0⟩:∃M,M=w.heap.size:=⟨_,rfl⟩;have hbox:W.cell? ⟨M,0,none⟩=some (.int .i64 (q:Int)):=by rw [hW,hM0,World.cell?_alloc_new];rfl
 have hB2:B+2<M:=by rw [hM0];exact z2.lt
 have hM:¬(M=B\/M=B+1\/M=B+2):=by omega
 have hbW:Below w.heap.size w W:=by rw [hW];exact (Below.refl _ _).alloc (Nat.le_refl _) _
 have hCW:CsC B W W.drew:=⟨(Fr.refl _ _).drew,⟨_,rfl,fun j y hj=>Aa hbW _ _ (hr j y hj)⟩,(hk.of_block (hbW.block _ hk.lt)).drew,⟨_,Aa hbW _ _ h1⟩,(z1.of_block (hbW.block _ z1.lt)).drew,⟨_,Aa hbW _ _ h2⟩,(z2.of_block (hbW.block _ z2.lt)).drew⟩;have hfW:=Fr.of_below hbW;rw [<-hW,<-hM0];refine wp_region_rely (l:=[_,_,_,_,_,_]) (CsC B W) (fun _=>True) (csR B) (fun kG_=>([fun v _=>v=.agg #[.int .i64 0,.string ⟨#[]⟩,.int .i64 0,.float .f64 0,.bool false,.slice none 0 0],fun v _=>v=.pointer (some ⟨M,0,none⟩),fun v _=>v=.int .i64 (q:Int),fun v w=>w.rangeAt B 0 [.int .i64 0,.string ⟨#[]⟩,.int .i64 0,.float .f64 0,.bool false,.slice none 0 0],fun v w=>w.cell? ⟨B+1,0,none⟩=some (.int .i64 0),fun v w=>w.cell? ⟨B+2,0,none⟩=some (.int .i64 (q:Int))]:List (Value->World->Prop)).getD kG_ (fun _ _=>True)) (eats []) (isIn []) (by kernel_rfl) (by kernel_rfl) (by kernel_rfl) hCW trivial ?_ ?_ ?_ ?_
 · intro i kG_ u w w' hne hE hg hr
   rcases kG_ with _ | _ | _ | _ | _ | _ | kG_
   · exact hg
   · exact hg
   · exact hg
   · replace hg:(fun (v:Value) (w:World)=>w.rangeAt B 0 [.int .i64 0,.string ⟨#[]⟩,.int .i64 0,.float .f64 0,.bool false,.slice none 0 0]) u w:=hg
     show (fun (v:Value) (w:World)=>w.rangeAt B 0 [.int .i64 0,.string ⟨#[]⟩,.int .i64 0,.float .f64 0,.bool false,.slice none 0 0]) u w';dsimp only at hg ⊢;replace hE:exB _ _ i 3=false:=hE;replace hne:3≠i:=hne;unfold csR at hr;split at hr
     all_goals first
       | exact absurd rfl hne
       | exact absurd (hE.symm.trans (by decide +kernel:exB _ _ _ _=true)) (by decide)
       | (subst hr;exact hg)
       | ((intro j y hj;exact hr.cell (hg j y hj) (by show ¬B=_;omega)))
   · replace hg:(fun (v:Value) (w:World)=>w.cell? ⟨B+1,0,none⟩=some (.int .i64 0)) u w:=hg
     show (fun (v:Value) (w:World)=>w.cell? ⟨B+1,0,none⟩=some (.int .i64 0)) u w';dsimp only at hg ⊢;replace hE:exB _ _ i 4=false:=hE;replace hne:4≠i:=hne;unfold csR at hr;split at hr
     all_goals first
       | exact absurd rfl hne
       | exact absurd (hE.symm.trans (by decide +kernel:exB _ _ _ _=true)) (by decide)
       | (subst hr;exact hg)
       | ((exact hr.cell hg (by show ¬B+1=_;omega)))
   · replace hg:(fun (v:Value) (w:World)=>w.cell? ⟨B+2,0,none⟩=some (.int .i64 (q:Int))) u w:=hg
     show (fun (v:Value) (w:World)=>w.cell? ⟨B+2,0,none⟩=some (.int .i64 (q:Int))) u w';dsimp only at hg ⊢;replace hE:exB _ _ i 5=false:=hE;replace hne:5≠i:=hne;unfold csR at hr;split at hr
     all_goals first
       | exact absurd rfl hne
       | exact absurd (hE.symm.trans (by decide +kernel:exB _ _ _ _=true)) (by decide)
       | (subst hr;exact hg)
       | ((exact hr.cell hg (by show ¬B+2=_;omega)))
   · trivial
 · exact fun _ _ _ _ _ _=>trivial
 · refine ⟨?_,?_,?_,?_,?_,?_,trivial⟩
   · refine VC.plain rfl fun a wx hf=>?_
     exact gives_value (by simp [go_sem,Tryz.underlying40]) ⟨hf.c,rfl,rfl⟩
   · refine VC.plain rfl fun a wx hf=>?_
     have s4:=hf.old 4 (by first | rfl | kernel_rfl);have q4:=Ac s4;exact gives_value (by simp [go_sem,q4]) ⟨hf.c,rfl,rfl⟩
   · refine VC.plain rfl fun a wx hf=>?_
     obtain ⟨v13,g13,s13⟩:=hf.got 1 (by kernel_rfl) (by intro j hj;simp [eats] at hj) rfl rfl;replace s13:=s13.trans (show v13=.pointer (some ⟨M,0,none⟩) from g13);clear g13;have q13:=Ac s13;exact gives_value (by simp [go_sem,q13,Fr.cell (p:=⟨M,0,none⟩) hf.c.fr hbox hM]) ⟨hf.c,rfl,rfl⟩
   · refine VC.plain rfl fun a wx hf=>?_
     have s0:=hf.old 0 (by first | rfl | kernel_rfl);have q0:=Ac s0;obtain ⟨v12,g12,s12⟩:=hf.got 0 (by kernel_rfl) (by intro j hj;simp [eats] at hj) rfl rfl;replace s12:=s12.trans (show v12=.agg #[.int .i64 0,.string ⟨#[]⟩,.int .i64 0,.float .f64 0,.bool false,.slice none 0 0] from g12);clear g12;have q12:=Ac s12;obtain ⟨ys,hy1,hy2⟩:=hf.c.t0;have ht:=At (n:=6) hy2 hf.c.k0 hy1.symm;have hfw:Fr (fun k=>k=B) wx (wx.setCells B 0 [.int .i64 0,.string ⟨#[]⟩,.int .i64 0,.float .f64 0,.bool false,.slice none 0 0]):=Fr.setCells (S:=fun k=>k=B) (fun _=>rfl) _ _ _ (Fr.refl _ _);have hrs:=World.rangeAt_setCells_same _ _ _ [Value.int .i64 0,.string ⟨#[]⟩,.int .i64 0,.float .f64 0,.bool false,.slice none 0 0] ht;exact C4 rfl (s0.trans rfl) s12 ht Ai (one6 _ _ _ _ _ _ _ _) ⟨hf.c.set0 hfw ⟨_,rfl,hrs⟩ (Blk.setCells _ _ _ hf.c.k0),hfw,hrs⟩
   · refine VC.plain rfl fun a wx hf=>?_
     have s1:=hf.old 1 (by first | rfl | kernel_rfl);have q1:=Ac s1;obtain ⟨y1,hy1⟩:=hf.c.t1;have hfw:Fr (fun k=>k=B+1) wx (wx.setCell ⟨B+1,0,none⟩ (.int .i64 0)):=Fr.setCell (S:=fun k=>k=B+1) (Fr.refl _ _) (fun _=>rfl) _;have hcs:(wx.setCell ⟨B+1,0,none⟩ (.int .i64 0)).cell? ⟨B+1,0,none⟩=some (.int .i64 0):=Af hy1;exact gives_skip (w' := wx.setCell ⟨B+1,0,none⟩ (.int .i64 0)) (by simp [go_sem,q1,hy1,hf.c.k1.frz 0 none]) ⟨hf.c.set1 hfw ⟨_,hcs⟩ (hf.c.k1.setCell _ _),hfw,hcs⟩
   · refine VC.plain rfl fun a wx hf=>?_
     have s2:=hf.old 2 (by first | rfl | kernel_rfl);have q2:=Ac s2;obtain ⟨v14,g14,s14⟩:=hf.got 2 (by kernel_rfl) (by intro j hj;simp [eats] at hj) rfl rfl;replace s14:=s14.trans (show v14=.int .i64 (q:Int) from g14);clear g14;have q14:=Ac s14;obtain ⟨y1,hy1⟩:=hf.c.t2;have hfw:Fr (fun k=>k=B+2) wx (wx.setCell ⟨B+2,0,none⟩ (.int .i64 (q:Int))):=Fr.setCell (S:=fun k=>k=B+2) (Fr.refl _ _) (fun _=>rfl) _;have hcs:(wx.setCell ⟨B+2,0,none⟩ (.int .i64 (q:Int))).cell? ⟨B+2,0,none⟩=some (.int .i64 (q:Int)):=Af hy1;exact gives_skip (w' := wx.setCell ⟨B+2,0,none⟩ (.int .i64 (q:Int))) (by simp [go_sem,q2,q14,hy1,hf.c.k2.frz 0 none]) ⟨hf.c.set2 hfw ⟨_,hcs⟩ (hf.c.k2.setCell _ _),hfw,hcs⟩
 · intro vs w5 hC hG
   have g3:=Hd (hG 3 (by decide) (by intro i hi;simp [eats]));have g4:=Hd (hG 4 (by decide) (by intro i hi;simp [eats]));have g5:=Hd (hG 5 (by decide) (by intro i hi;simp [eats]));clear hG;have hfin:Fr (fun k=>k=B\/k=B+1\/k=B+2) w w5:=Fr.trans (hfW.mono (fun i hi e=>absurd hi (Nat.not_lt_of_le e))) hC.fr;replace hfin:=Hd hfin;simp only [Al,Act.put,List.setIfInBounds_toArray,List.set_cons_zero,List.set_cons_succ];go_wp2_with fail
   refine ⟨rfl,_,rfl,.tuple #[],by simp [results,Tryz.results76,go_sem],rfl,?_,g3.out,g4.out,g5.out,hfin.out⟩;rfl
end R2
end Go.Proofs.YtfaihaoajdcjbaaGreatDoor
