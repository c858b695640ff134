/- strings.byteReplacer: Replace. -/
import Derived.Test.YtagkgfniihiinaaGreatDoorRplC
import Derived.Lib.ConvBytes
import Derived.Lib.SlBytesRow
namespace Go.Proofs.YtagkgfniihiinaaGreatDoor
open Go.RowKit
def Bu (b : UInt8) : UInt8:=if b = 13 \/ b = 10 then 32 else b
theorem blankU_nat (b : UInt8) : blank b.toNat = (Bu b).toNat:=by
 unfold blank Bu;have e1 : b.toNat = 13 ↔ b = 13:=⟨fun h => UInt8.toNat_inj.1 h,fun h => by rw [h]; rfl⟩;have e2 : b.toNat = 10 ↔ b = 10:=⟨fun h => UInt8.toNat_inj.1 h,fun h => by rw [h]; rfl⟩;by_cases h : b = 13 \/ b = 10
 · rw [if_pos h,if_pos (h.imp e1.2 e2.2)]; rfl
 · rw [if_neg h,if_neg (fun k => h (k.imp e1.1 e2.1))]
def Bc (s : ByteArray) : ByteArray:=⟨s.data.map Bu⟩
theorem Fm (s : ByteArray) : (Bc s).size = s.size:=by show (s.data.map Bu).size = s.data.size; simp
theorem blankB_get (s : ByteArray) (i : Nat) (h : i < s.size) (h' : i < (Bc s).size) : (Bc s)[i]'h' = Bu (s[i]'h):=by
 exact Array.getElem_map ..
theorem blankB_id (s : ByteArray) (h : ∀ k (hk : k < s.size),Bu (s[k]'hk) = s[k]'hk) : Bc s = s:=by
 apply ByteArray.ext;apply Array.ext
 · simp [Bc]
 · intro i h1 h2
   simp only [Bc,Array.getElem_map];exact h i h2
def Mkd (w : World) (m n : Nat) : Prop:=∃ C t c,w.heap[m]? = some (.cells C t (c,c + 1)) /\ n <= c
theorem Mkd.frz {w : World} {m n : Nat} (h : Mkd w m n) (k : Nat) (hk : k < n) : w.frozen? ⟨m,k,none⟩ = false:=by
 obtain ⟨C,t,c,h,hc⟩:=h;have : ¬ c <= k:=by omega
 simp [World.frozen?,h,this]
theorem Mkd.setCell {w : World} {m n : Nat} (h : Mkd w m n) (a : Addr) (v : Value) : Mkd (w.setCell a v) m n:=by
 obtain ⟨C,t,c,h,hc⟩:=h;simp only [Mkd,World.setCell,Array.getElem?_modify];split
 · exact ⟨_,t,c,by rw [h]; rfl,hc⟩
 · exact ⟨C,t,c,h,hc⟩
theorem Mkd.new (w : World) (s : ByteArray) : Mkd (Lib.bytesWorld w 5 s) w.heap.size s.size:=
 ⟨_,_,_,Lib.bytesWorld_at_new w 5 s,by
   have : s.data.size = s.size:=rfl;rw [Lib.bytesCells,Array.size_append,Array.size_map]; omega⟩
theorem bytesWorld_below (w : World) (e : TypeId) (s : ByteArray) : Below w.heap.size w (Lib.bytesWorld w e s):=by
 have h1 : (Lib.bytesWorld w e s).heap.size = w.heap.size + 1:=Lib.bytesWorld_size w e s;refine ⟨?_,?_,?_,by omega,fun k hk => Lib.bytesWorld_at_old w e s k hk⟩;all_goals (unfold Lib.bytesWorld World.freeze; split <;> rfl)
def BufI (s : ByteArray) (B j : Nat) (b : Value) (w : World) : Prop:=
 (b = .slice none 0 0 /\ ∀ k (hk : k < s.size),k < j -> Bu (s[k]'hk) = s[k]'hk) \/
 ∃ m c,b = .slice (some ⟨m,0,none⟩) s.size c /\ B <= m /\ Mkd w m s.size /\ ∀ k (hk : k < s.size),w.cell? ⟨m,k,none⟩ = some (.int .u8 (((if k < j then Bu (s[k]'hk) else s[k]'hk) : UInt8).toNat : Nat))
set_option maxRecDepth 100000 in
theorem byteReplace_any {g : Nat} {w : World} (s : ByteArray) (hT : Tbl w g blank) (hn : s.size <= 1000000000000) :
   Calls Tryz.prog 281 #[.pointer (some ⟨g,0,none⟩),.string s] w fun e w' => e = .returned (.string (Bc s)) /\ Below w.heap.size w w':=by
 have hgl:=hT.lt
 replace hT:=Hd hT
 obtain ⟨B,hB⟩ : ∃ B,w.heap.size = B:=⟨_,rfl⟩
 rw [hB] at hgl ⊢
 have hnil : ∀ (a : Option Addr) (n c : Nat) (W : World),(binOp .eql 27 (.slice a n c) (.slice none 0 0)).run Tryz.prog W = .ok (.bool a.isNone) W:=fun a n c W => Lib.run_eql_slice_nil W _ _ a n c 0 0 Tryz.underlying27
 go_enter Tryz.func281,Tryz.ntmps281
 go_wp2_with fail
 go_loopw [5,6] (fun b i wr => ∃ j : Nat,j <= s.size /\ i = .int .i64 j /\ BufI s B j b wr /\ Below B w wr) (fun _ i _ => s.size - (intOf i).toNat)
 case atStart => exact ⟨0,Nat.zero_le _,rfl,.inl ⟨rfl,fun k _ h => absurd h (by omega)⟩,Below.refl _ _⟩
 case round =>
   obtain ⟨j,hj,rfl,hI,hb⟩:=hrel;have hTr : Hid (Tbl wr g blank):=Hd (hT.out.of (hb.block g hgl));have hBw : B <= wr.heap.size:=hB ▸ hb.size;have hgm : g < wr.heap.size:=by omega
   by_cases hlt : j < s.size
   · have hlti : (j : Int) < s.size:=by omega
     obtain ⟨x,hx⟩ : ∃ x : UInt8,s[j]'hlt = x:=⟨_,rfl⟩;have hx1 : (x.toNat : Int) < 256:=by have:=x.toNat_lt; omega
     have hx2 : x.toNat < 256:=by have:=x.toNat_lt; omega
     have ht:=hTr.out x.toNat (by have:=x.toNat_lt; omega);rw [blankU_nat] at ht;replace hb:=Hd hb;rcases hI with ⟨rfl,hI⟩ | ⟨m,c,rfl,hm,hk,hI⟩
     · replace hI:=Hd hI
       by_cases hbx : Bu x = x
       · rw [hbx] at ht
         have hne : ((x.toNat : Int) != (x.toNat : Int)) = false:=by simp
         go_wp2_with fail
         go_round
         case measure => simp [intOf]; omega
         case rel =>
           refine ⟨j + 1,by omega,rfl,.inl ⟨rfl,fun k hk hkj => ?_⟩,hb.out⟩;by_cases e : k = j
           · subst e; rw [hx]; exact hbx
           · exact hI.out k hk (by omega)
       · have hne : (((Bu x).toNat : Int) != (x.toNat : Int)) = true:=bne_iff_ne.2 fun h => hbx (UInt8.toNat_inj.1 (by omega))
         have hcv:=Lib.run_convert_string_bytes (P:=Tryz.prog) wr 9 27 5 s Tryz.underlying9 Tryz.underlying27 Tryz.underlying5;have hk:=Mkd.new wr s;have hc0:=Lib.bytesWorld_cell wr 5 s;have hb1:=bytesWorld_below wr 5 s;obtain ⟨W1,hW⟩ : ∃ W1,W1 = Lib.bytesWorld wr 5 s:=⟨_,rfl⟩;obtain ⟨c,hc⟩ : ∃ c,c = grownCap wr s.size 0 5:=⟨_,rfl⟩;rw [<- hW] at hcv hk hc0 hb1;rw [<- hc] at hcv;clear hW hc;have ht1 : W1.cell? ⟨g,x.toNat,none⟩ = some (.int .u8 ((Bu x).toNat : Nat)):=(hb1.cell hgm).trans ht;have hz:=hk.frz j hlt;have hcj:=hc0 j hlt;replace hk:=Hd hk;replace hc0:=Hd hc0;replace hb1:=Hd hb1;go_wp2_with fail
         go_round
         case measure => simp [intOf]; omega
         case rel =>
           have hb2 : Below B w W1:=hb.out.trans (hb1.out.mono hBw);refine ⟨j + 1,by omega,rfl,.inr ⟨_,c,rfl,hBw,hk.out.setCell _ _,fun k hkk => ?_⟩,Fr.below ((Fr.of_below hb2).setCell (fun _ => hBw) _) (by omega) fun i hi => by omega⟩;by_cases e : k = j
           · subst e
             rw [if_pos (by omega),hx]; exact As hcj
           · rw [Af (fun h => by cases h; exact e rfl),hc0.out k hkk,List.getD,byte_at s k hkk]
             by_cases e2 : k < j
             · rw [if_pos (by omega),hI.out k hkk e2]; rfl
             · rw [if_neg (by omega)]; rfl
     · have hz:=hk.frz j hlt
       have hcj:=hI j hlt;replace hI:=Hd hI;replace hk:=Hd hk;by_cases hbx : Bu x = x
       · rw [hbx] at ht
         have hne : ((x.toNat : Int) != (x.toNat : Int)) = false:=by simp
         clear hcj;go_wp2_with fail
         go_round
         case measure => simp [intOf]; omega
         case rel =>
           refine ⟨j + 1,by omega,rfl,.inr ⟨_,c,rfl,hm,hk.out,fun k hkk => ?_⟩,hb.out⟩;rw [hI.out k hkk];by_cases e : k = j
           · subst e; rw [if_neg (by omega),if_pos (by omega),hx,hbx]
           · by_cases e2 : k < j
             · rw [if_pos e2,if_pos (by omega)]
             · rw [if_neg e2,if_neg (by omega)]
       · have hne : (((Bu x).toNat : Int) != (x.toNat : Int)) = true:=bne_iff_ne.2 fun h => hbx (UInt8.toNat_inj.1 (by omega))
         rw [if_neg (by omega)] at hcj;go_wp2_with fail
         go_round
         case measure => simp [intOf]; omega
         case rel =>
           refine ⟨j + 1,by omega,rfl,.inr ⟨_,c,rfl,hm,hk.out.setCell _ _,fun k hkk => ?_⟩,Fr.below ((Fr.of_below hb.out).setCell (fun _ => hm) _) (by omega) fun i hi => by omega⟩;by_cases e : k = j
           · subst e
             rw [if_pos (by omega),hx]; exact As hcj
           · rw [Af (fun h => by cases h; exact e rfl),hI.out k hkk]
             by_cases e2 : k < j
             · rw [if_pos e2,if_pos (by omega)]
             · rw [if_neg e2,if_neg (by omega)]
   · obtain rfl : j = s.size:=by omega
     replace hb:=Hd hb;rcases hI with ⟨rfl,hI⟩ | ⟨m,c,rfl,hm,hk,hI⟩
     · have hid:=blankB_id s fun k hk => hI k hk hk
       clear hI;go_wp2_with fail
       go_ret;exact ⟨by rw [hid]; rfl,hb.out⟩
     · have hby : Lib.Bytes wr m 0 (Bc s):=fun i hi => by
         have hi' : i < s.size:=by rw [<- Fm]; exact hi
         rw [Nat.zero_add,hI i hi',if_pos hi',blankB_get s i hi' hi]
       have hcv:=Lib.run_convert_whole (P:=Tryz.prog) wr 27 5 9 Tryz.underlying27 Tryz.underlying5 Tryz.underlying9 m 0 (Bc s) hby c;rw [Fm] at hcv;replace hby:=Hd hby;clear hI;go_wp2_with fail
       go_ret;exact ⟨rfl,hb.out⟩
theorem eStrR : Elem Tryz.prog 33 9 1 16:=elem_of Tryz.underlying33 (by decide) (by decide) (by kernel_rfl)
def fourT : List Value:=[.string ⟨#[13]⟩,.string ⟨#[32]⟩,.string ⟨#[10]⟩,.string ⟨#[32]⟩]
structure Fresh (w : World) (r o cp : Nat) : Prop where
 c0 : w.cell? ⟨r,0,none⟩ = some (.int .u32 0)
 c1 : w.cell? ⟨r,1,none⟩ = some (.int .i32 0)
 c3 : w.cell? ⟨r,3,none⟩ = some .nilIface
 c4 : w.cell? ⟨r,4,none⟩ = some (.slice (some ⟨o,0,none⟩) 4 cp)
 blk : Blk w r
 ne : o ≠ r
 four : Four w o
theorem Four.of_owns {w : World} {B cp : Nat} {a : Option Addr} (h : w.ownsRow B 9 1 (.slice a 4 cp) 4 fourT) : ∃ o,a = some ⟨o,0,none⟩ /\ B <= o /\ Four w o:=by
 obtain ⟨o,hb,rfl⟩ : ∃ o,B <= o /\ a = some ⟨o,0,none⟩:=by
   rcases h.2 with ⟨_,e⟩ | ⟨g,cap,cur,e,hb,_⟩
   · cases e
   · cases e; exact ⟨g,hb,rfl⟩
 have hc:=fun j => Reads.of_owns h |>.at (j:=j);refine ⟨o,rfl,hb,?_,?_,?_,?_⟩
 · obtain ⟨b,o',e,k⟩:=hc 0 (by decide); cases e; exact k 0 _ rfl
 · obtain ⟨b,o',e,k⟩:=hc 1 (by decide); cases e; have:=k 1 _ rfl; simpa using this
 · obtain ⟨b,o',e,k⟩:=hc 2 (by decide); cases e; have:=k 2 _ rfl; simpa using this
 · obtain ⟨b,o',e,k⟩:=hc 3 (by decide); cases e; have:=k 3 _ rfl; simpa using this
set_option maxRecDepth 100000 in
set_option maxHeartbeats 1600000 in
theorem new_any {a : Addr} {c : Nat} {w : World} (hr : Reads w 1 (.slice (some a) 4 c) 4 fourT) :
   Calls Tryz.prog 49 #[.slice (some a) 4 c] w fun e w' => ∃ r o cp,e = .returned (.pointer (some ⟨r,0,none⟩)) /\ w.heap.size <= r /\ w.heap.size <= o /\ Fresh w' r o cp /\ Below w.heap.size w w':=by
 have hown:=World.ownsRow_nil w w.heap.size 9 1
 have hone : fourT.all (fun u => u.oneCell') = true:=rfl
 replace hr:=Hd hr
 replace hown:=Hd hown
 replace hone:=Hd hone
 go_enter Tryz.func49,Tryz.ntmps49
 go_wp2_with (at_builtin; refine append_many rfl rfl eStrR rfl hown.out rfl hr.out (fun h => by cases h) hone.out (by omega) (by simp) ?_)
 intro v' w' hown' hf hnw
 obtain ⟨a3,c3,rfl⟩:=(Reads.of_owns hown').shape
 have hbel : Below w.heap.size w w':=hf.below (by simp) (fun i hi h => by simp [Value.ownBlock] at h)
 obtain ⟨o,rfl,ho,h4⟩:=Four.of_owns (by simpa using hown')
 clear hf hnw hown'
 replace hbel:=Hd hbel
 replace h4:=Hd h4
 go_wp2_with fail
 go_ret
 have hol:=h4.out.lt
 have hsz:=hbel.out.size
 refine ⟨w'.heap.size,o,c3,rfl,hsz,ho,⟨?_,?_,?_,?_,Blk.new _ _ _,by omega,h4.out.of ((Below.refl _ w').alloc (Nat.le_refl _) _ |>.block o hol)⟩,hbel.out.alloc (by omega) _⟩
 all_goals (rw [World.cell?_alloc_new]; rfl)
set_option maxRecDepth 100000 in
theorem do_any {r o cp : Nat} {w : World} (h : Fresh w r o cp) :
   Calls Tryz.prog 81 #[.pointer (some ⟨r,0,none⟩),.func (.func 82) #[.pointer (some ⟨r,0,none⟩)] #[]] w fun e w' => e = .returned (.tuple #[]) /\ ∃ g,w'.cell? ⟨r,3,none⟩ = some (.iface 169 (.pointer (some ⟨g,0,none⟩))) /\ Tbl w' g blank /\ Fr (fun k => k = r) w w':=by
 have hfw : Fr (fun k => k = r) w (w.setCell ⟨r,1,none⟩ (.int .i32 1)):=Fr.setCell (S:=fun k => k = r) (Fr.refl _ _) (fun _ => rfl) _
 have hon:=h.ne
 have hB:=buildOnce_any (w:=w.setCell ⟨r,1,none⟩ (.int .i32 1)) ((Af (by simp)).trans h.c4) ((Af (by simp)).trans h.c3) (h.four.of (hfw.block o h.four.lt hon)) (h.blk.setCell _ _)
 have c0:=h.c0
 have c1:=h.c1
 have hk:=h.blk
 replace h:=Hd h
 replace hfw:=Hd hfw
 have hS:=doSlow_any (X:=Built r (w.setCell ⟨r,1,none⟩ (.int .i32 1))) c0 c1 hk (hB.mono fun e w' ⟨he,hb,hk',ho⟩ => ⟨he,by rw [ho 0 (by decide),Af (by simp)]; exact c0,by rw [ho 1 (by decide)]; exact As c1,hk',hb⟩)
 replace hS:=Hd hS
 clear hB c1 hk
 go_enter Tryz.func81,Tryz.ntmps81
 go_wp2_with fail
 refine (load_any c0).mono ?_
 rintro e w1 ⟨rfl,hww⟩
 obtain rfl:=hww.symm
 clear hww
 go_wp2_with fail
 refine hS.out.mono ?_
 rintro e w2 ⟨rfl,w3,hb,hf,hq⟩
 obtain ⟨⟨g,h3,hg,hT⟩,hfr⟩:=hb
 have hrl:=h.out.blk.lt
 have hgr : g ≠ r:=by have:=hfw.out.size; omega
 have hpost : w2.cell? ⟨r,3,none⟩ = some (.iface 169 (.pointer (some ⟨g,0,none⟩))) /\ Tbl w2 g blank /\ Fr (fun k => k = r) w w2:=⟨(hq 3 (by decide)).trans h3,hT.of (hf.block g hT.lt hgr),(hfw.out.trans hfr).trans hf⟩
 replace hpost:=Hd hpost
 clear hq hf hfr h3 hT
 go_wp2_with fail
 go_end0
 exact ⟨rfl,g,hpost.out⟩
set_option maxRecDepth 100000 in
theorem rplReplace_any {r o cp : Nat} {w : World} (h : Fresh w r o cp) (s : ByteArray) (hn : s.size <= 1000000000000) :
   Calls Tryz.prog 50 #[.pointer (some ⟨r,0,none⟩),.string s] w fun e w' => e = .returned (.string (Bc s)) /\ Fr (fun k => k = r) w w':=by
 have hD:=do_any h
 have hmf : ∀ (fn : Fn) (first cap : Array Value) (w : World),(Instr.makeFunc fn first cap).run Tryz.prog w = .ok (.func fn first cap) w:=fun _ _ _ _ => rfl
 have hm : ∀ (k g : Nat) (w : World), (method (k + 1) 169 (.pointer (some ⟨g, 0, none⟩)) "Replace").run Tryz.prog w = .ok (281, .pointer (some ⟨g, 0, none⟩)) w := fun _ _ _ => by kernel_rfl
 have hrl:=h.blk.lt
 clear h
 replace hD:=Hd hD
 go_enter Tryz.func50,Tryz.ntmps50
 go_wp2_with fail
 refine hD.out.mono ?_
 rintro e w1 ⟨rfl,g,h3,hT,hf⟩
 have hB:=byteReplace_any s hT hn
 replace hT:=Hd hT
 replace hf:=Hd hf
 replace hB:=Hd hB
 go_wp2_with fail
 refine hB.out.mono ?_
 rintro e w2 ⟨rfl,hb⟩
 have hf2 : Fr (fun k => k = r) w w2:=hf.out.trans ((Fr.of_below hb).mono fun i hi h => absurd hi (by omega))
 replace hf2:=Hd hf2
 clear hb
 go_wp2_with fail
 go_ret
 exact ⟨rfl,hf2.out⟩
end Go.Proofs.YtagkgfniihiinaaGreatDoor
