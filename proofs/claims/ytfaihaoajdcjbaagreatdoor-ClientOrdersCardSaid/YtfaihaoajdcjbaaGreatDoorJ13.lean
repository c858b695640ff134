/- The layer near: what lies beside it turns, or is new. -/
import Derived.Test.YtfaihaoajdcjbaaGreatDoorAv
import Derived.Test.YtfaihaoajdcjbaaGreatDoorRdY
set_option linter.all false
namespace Go.Proofs.YtfaihaoajdcjbaaGreatDoor.Av
open Go.RowKit
theorem Near.move {w w' : World} {nb:Nat} {fp av av' : List Nat} {s:NS} (h:Near w nb fp av s) (hf:Fr (·∈av) w w') (hd:∀b∈fp,b ∉ av) (hn:∀b∈av', b∈av\/w.heap.size<=b) (hl:∀b∈av', b<w'.heap.size):Near w' nb fp av' s:=by
 obtain ⟨rb,m,vb,tb,ns,h⟩:=h;have hm:∀b∈nb :: rb :: m :: vb :: tb :: ns,b ∉ av:=fun b hb=>hd b (by rw [h.efp];exact hb);have h0:nb ∉ av:=hm _ (by simp);refine ⟨rb,m,vb,tb,ns,h.efp,hf.cell h.c0 h0,hf.cell h.c1 h0,hf.cell h.c2 h0,hf.cell h.c3 h0,hf.cell h.c4 h0,h.blk.fr hf h0,h.rc.fr hf (fun b hb=>hm b (by simp at hb ⊢;rcases hb with h | h | h<;>simp [h])),?_,h.tix.of_block (hf.block _ h.tix.lt (hm _ (by simp))),h.apart,h.nv,h.nt,h.vt,h.tlt,h.most0,hl⟩
 refine h.vals.of_block (hf.block _ h.vals.lt (hm _ (by simp))) (fun a u hu=>?_);obtain ⟨h1,h2⟩:=D3 hu;have hlt:=World.block_lt_of_cell? _ _ h1;refine (fun (hno:a.block ∉ fp++av')=>?_) (fun e=>?_)
 · show (if a.block∈fp++av' then none else w'.cell? a)=some u
   rw [if_neg hno];exact hf.cell h1 (fun e=>h2 (List.mem_append_right _ e))
 rcases List.mem_append.1 e with e | e
 · exact h2 (List.mem_append_left _ e)
 · rcases hn _ e with e | e
   · exact h2 (List.mem_append_right _ e)
   · omega
end Go.Proofs.YtfaihaoajdcjbaaGreatDoor.Av
namespace Go.Proofs.YtfaihaoajdcjbaaGreatDoor
open Go.RowKit
theorem Env.below {rp:Rp} {w w' : World} {s s' : ByteArray} (h:Env rp w s) (hb:Below w.heap.size w w'):Env rp w' s' :=
 ⟨h.nums.below hb,fun W hW t ht=>h.real W (hb.trans (hW.mono hb.size)) t ht⟩
theorem drop_list (s:ByteArray) (u:Nat):(s.extract u s.size).data.toList=s.data.toList.drop u:=by
 rw [ByteArray.data_extract,Array.toList_extract,List.extract_eq_take_drop,List.take_of_length_le];rw [List.length_drop,<-Am];exact Nat.le_refl _
theorem Ep {rp:Rp} {B:Nat} {w:World} {v:Value} {s:ByteArray} (h:Buf B w v s) (hbig:s.size<=1000000000) (hE:Env rp w s) (hn:A7 rp 8 1 s.data.toList):Calls Tryz.prog 56 #[v] w (Cy (Aw rp 8 1 s.data.toList) w):=by
 rcases h with ⟨rfl,h0⟩ | ⟨b,o,cap,rfl,_,h2,h3,_,h5,_⟩
 · have:s.data.toList=[]:=List.length_eq_zero_iff.1 (by rw [<-Am];exact h0)
   rw [this];have e:Aw rp 8 1 []=.stop 0:=by rw [Aw];rfl
   rw [e];exact parse_nil w
 · exact R2.parse_any h5 rfl h3 hbig hE h2 hn
theorem next_stop0F {rp:Rp} {B r:Nat} {w:World} {v:Value} {s:ByteArray} (h:Rdr B w r v s 0) (hbig:s.size<=1000000000) (hE:Env rp w s) (hn:A7 rp 8 1 s.data.toList) (hs:Aw rp 8 1 s.data.toList=.stop 0) :
   Calls Tryz.prog 34 #[.pointer (some ⟨r,0,none⟩)] w fun e w' => e=.returned (.tuple #[.agg Fs.toArray,.bool false,.int .i64 0])/\(∃v', Rdr B w' r v' s 0/\∀k,v'.ownBlock=some k->v.ownBlock=some k)/\Fr (fun k=>k=r) w w' := by
 obtain ⟨a,c,hv,_⟩:=h.buf.shape;have hbuf:=h.buf;rw [hv] at h hbuf;refine (F5 (u:=0) (kd:=0) (tx:=⟨#[]⟩) (it:=0) (rl:=0) (fl:=false) (ln:=0) (X:=fun la lc _ _=>la=none/\lc=0) h (Nat.zero_le _) hbig fun W hW=>?_).mono ?_
 · have hp:=Ep (rp:=rp) (hbuf.below hW) hbig (hE.below hW) hn
   rw [hs] at hp;refine hp.mono ?_;rintro e w' ⟨rfl,hb⟩;exact ⟨none,0,rfl,⟨rfl,rfl⟩,hb⟩
 · rintro e w' ⟨la,lc,W1,W2,rfl,⟨rfl,rfl⟩,_,_,⟨v', hr,hsb⟩,hf⟩
   have e0:s.extract 0 s.size=s:=by
     apply ByteArray.ext;apply Array.toList_inj.1;rw [drop_list];rfl
   rw [e0] at hr;exact ⟨rfl,⟨v', hr,by rw [hv];exact hsb⟩,hf⟩
theorem next_stopq {rp:Rp} {B r q:Nat} {w:World} {v:Value} {s:ByteArray} (h:Rdr B w r v s 0) (hq:q≠0) (hbig:s.size<=1000000000) (hE:Env rp w s) (hn:A7 rp 8 1 s.data.toList) (hs:Aw rp 8 1 s.data.toList=.stop q) :
   Calls Tryz.prog 34 #[.pointer (some ⟨r,0,none⟩)] w fun e w' => e=.returned (.tuple #[.agg Fs.toArray,.bool false,.int .i64 (q:Int)])/\Rdr B w' r (.slice none 0 0) ⟨#[]⟩ q/\Fr (fun k=>k=r) w w' := by
 obtain ⟨a,c,hv,_⟩:=h.buf.shape;have hbuf:=h.buf;rw [hv] at h hbuf;refine next_bad h hq fun W hW=>?_;have hp:=Ep (rp:=rp) (hbuf.below hW) hbig (hE.below hW) hn;rw [hs] at hp;exact hp
theorem next_gotF {rp:Rp} {B r u m:Nat} {w:World} {v:Value} {s:ByteArray} {x:V} (h:Rdr B w r v s 0) (hu:u<=s.size) (hu0:0<u) (hbig:s.size<=1000000000) (hE:Env rp w s) (hn:A7 rp 8 1 s.data.toList) (hs:Aw rp 8 1 s.data.toList=.got (x,u,m)) :
   Calls Tryz.prog 34 #[.pointer (some ⟨r,0,none⟩)] w fun e w' => ∃(ad:Option Addr) (ca:Nat),e=.returned (.tuple #[.agg #[.int .i64 x.kind,.string x.text,.int .i64 x.int,.float .f64 x.real,.bool x.flag,.slice ad x.list.length ca],.bool true,.int .i64 0]) /\
     RV (Aq w.heap.size w') (Aj x.kind x.text x.int x.real x.flag ad x.list.length ca) x/\(∃v', Rdr B w' r v' (s.extract u s.size) 0/\∀k,v'.ownBlock=some k->v.ownBlock=some k)/\Fr (fun k=>k=r) w w' := by
 obtain ⟨a,c,hv,_⟩:=h.buf.shape;have hbuf:=h.buf;rw [hv] at h hbuf;refine (F5 (u:=u) (kd:=x.kind) (tx:=x.text) (it:=x.int) (rl:=x.real) (fl:=x.flag) (ln:=x.list.length) (X:=fun la lc W W' => RV (Aq W.heap.size W') (Aj x.kind x.text x.int x.real x.flag la x.list.length lc) x) h hu hbig fun W hW=>?_).mono ?_
 · have hp:=Ep (rp:=rp) (hbuf.below hW) hbig (hE.below hW) hn
   rw [hs] at hp;refine hp.mono ?_;rintro e w' ⟨la,lc,rfl,hrv,hb⟩;exact ⟨la,lc,rfl,hrv,hb⟩
 · rintro e w' ⟨la,lc,W1,W2,rfl,hrv,_,hnew,hr,hf⟩
   exact ⟨la,lc,by rw [decide_eq_true hu0],hrv.mono hnew,by rw [hv];exact hr,hf⟩
def rp0:Rp:=⟨fun _=>none,fun _=>False⟩
theorem env0 {w:World} {s:ByteArray} (h:Nums w):Env rp0 w s:=⟨h,fun _ _ _ h=>h.elim⟩
theorem Fu {rp:Rp} {c:UInt8} {L:List UInt8} (h:Ae c≠7):F4 rp (c :: L):=by
 intro c' L' t u e hk _;exact absurd (by rw [(List.cons.inj e).1];exact hk) h
theorem Cl {rp:Rp} {lv many u:Nat} {c:UInt8} {L:List UInt8} {v:V} (hc:Ae c≠7) (h:Cn rp (c :: L)=.leaf v u):Aw rp lv many (c :: L)=.got (v,u,many)/\A7 rp lv many (c :: L):=by
 cases lv with
 | zero=>exact ⟨by rw [Aw,h],Fu hc⟩
 | succ lv=>exact ⟨by rw [Aw,h],Fu hc,fun kd n u e=>by rw [h] at e;cases e⟩
theorem need_nil (rp:Rp) (lv m:Nat):A7 rp lv m []:=by
 have h0:F4 rp []:=by
   intro c L t u e;cases e
 cases lv with
 | zero=>exact h0
 | succ lv=>
   refine ⟨h0,?_⟩;intro kd n u e;rw [show Cn rp []=.stop 0 from rfl] at e;cases e
def t1:ByteArray:=⟨#[36,50,13,10,97]⟩
def t2:ByteArray:=⟨#[98,13,10]⟩
def t3:ByteArray:=⟨#[42,45,49,13,10,58,53]⟩
def t4:ByteArray:=⟨#[63]⟩
def t5:ByteArray:=⟨#[42,49,13,10]⟩
def t6:ByteArray:=⟨#[42,49,13,10,62,49,13,10]⟩
def t7:ByteArray:=⟨#[58,48,49,13,10]⟩
end Go.Proofs.YtfaihaoajdcjbaaGreatDoor
