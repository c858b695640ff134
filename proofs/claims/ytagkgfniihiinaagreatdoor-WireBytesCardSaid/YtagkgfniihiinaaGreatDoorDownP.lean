/- A value as older readers know it, and its bytes: what is said of it (plain). -/
import Derived.Test.YtagkgfniihiinaaGreatDoorJ27
import Derived.Test.YtagkgfniihiinaaGreatDoorJ59
namespace Go.Proofs.YtagkgfniihiinaaGreatDoor
open Go.RowKit Go.Joins
mutual
def V.down : V -> V
 | .mk k t i r f l =>
   if k = 7 then .mk 4 ⟨(Bd r).toArray⟩ 0 0 false []
   else if k = 8 then .mk 3 ⟨#[]⟩ (if f then 1 else 0) 0 false []
   else if k = 9 then .mk 4 t 0 0 false []
   else if k = 11 then .mk 4 (t.extract 4 t.size) 0 0 false []
   else if k = 10 then .mk 2 (Bc t) 0 0 false []
   else if k = 5 \/ k = 12 \/ k = 13 \/ k = 14 then .mk 5 ⟨#[]⟩ 0 0 false (V.downL l)
   else .mk k t i r f l
def V.downL : List V -> List V
 | [] => []
 | x :: l => x.down :: V.downL l
end
theorem V.downL_map (l : List V) : V.downL l = l.map V.down:=by
 induction l with
 | nil => rfl
 | cons x l ih => rw [V.downL,ih]; rfl
theorem V.down_eq (v : V) : v.down = if v.kind = 7 then .mk 4 ⟨(Bd v.real).toArray⟩ 0 0 false []
   else if v.kind = 8 then .mk 3 ⟨#[]⟩ (if v.flag then 1 else 0) 0 false []
   else if v.kind = 9 then .mk 4 v.text 0 0 false []
   else if v.kind = 11 then .mk 4 (v.text.extract 4 v.text.size) 0 0 false []
   else if v.kind = 10 then .mk 2 (Bc v.text) 0 0 false []
   else if v.kind = 5 \/ v.kind = 12 \/ v.kind = 13 \/ v.kind = 14 then .mk 5 ⟨#[]⟩ 0 0 false (v.list.map V.down)
   else v:=by cases v; rw [V.down,V.downL_map]; rfl
mutual
def V.old : V -> List UInt8
 | .mk k t i r f l => if k = 6 then [36,45,49,13,10] else if k = 5 then numL 42 l.length ++ V.oldL l else (V.mk k t i r f l).wire
def V.oldL : List V -> List UInt8
 | [] => []
 | x :: l => x.old ++ V.oldL l
end
theorem V.old_eq (v : V) : v.old = if v.kind = 6 then [36,45,49,13,10] else if v.kind = 5 then numL 42 v.list.length ++ V.oldL v.list else v.wire:=by cases v; rw [V.old]; rfl
theorem V.oldL_append (a b : List V) : V.oldL (a ++ b) = V.oldL a ++ V.oldL b:=by
 induction a with
 | nil => rfl
 | cons x a ih => rw [List.cons_append,V.oldL,ih,V.oldL,List.append_assoc]
theorem V.oldL_snoc (l : List V) (x : V) : V.oldL (l ++ [x]) = V.oldL l ++ x.old:=by
 rw [V.oldL_append,V.oldL,V.oldL,List.append_nil]
theorem V.countL_map_down {l : List V} (h : ∀ x ∈ l,x.down.count = x.count) : V.countL (l.map V.down) = V.countL l:=by
 induction l with
 | nil => rfl
 | cons x l ih => rw [List.map_cons,V.countL,V.countL,h x (by simp),ih fun y hy => h y (by simp [hy])]
theorem blank_free (t : ByteArray) : crlfB (Bc t) = false:=by
 refine crlf_none fun j b hj hb => ?_;have h1 : b ∈ (Bc t).data.toList:=List.mem_of_getElem? hb;unfold Bc at h1;rw [Array.toList_map,List.mem_map] at h1;obtain ⟨c,_,rfl⟩:=h1;unfold Bu;split
 · decide
 · rename_i h
   rw [Bool.eq_false_iff];intro e;simp at e;exact h e
structure DownOk (v : V) (d : Int) : Prop where
 kind : 1 <= v.down.kind /\ v.down.kind <= 6
 count : v.down.count = v.count
 fine : v.down.fine d = true
 ranged : v.down.ranged
theorem Es {v : V} {d : Int} (h : okV v = true) (hk : Bw v.kind = false) (hl : v.list = []) : v.fine d = true:=by rw [V.fine_eq,h,hk,hl]; rfl
theorem fineL_map {l : List V} {d : Int} (h : ∀ x ∈ l,DownOk x d) : V.fineL (l.map V.down) d = true:=by
 induction l with
 | nil => rfl
 | cons x l ih =>
   have hx:=h x (by simp);rw [List.map_cons,V.fineL,hx.fine,ih fun y hy => h y (by simp [hy])];have : x.down.kind ≠ 14:=by have:=hx.kind; omega
   simp [this]
theorem bits0 : Do 0 = 0:=by decide +kernel
theorem rg0 (k : Int) (t : ByteArray) (f : Bool) : (V.mk k t 0 0 f []).ranged:=⟨by decide,by decide,by decide,trivial⟩
theorem text_ok (t : ByteArray) (h : t.size <= 4096) : okV (.mk 4 t 0 0 false []) = true:=by
 unfold okV;simp [V.kind,V.text,V.list,C1,B6,Bs,Cr,V.int,V.real,V.flag,Eb,h,bits0]
theorem text_ok2 (t : ByteArray) (h : t.size <= 4096) (hb : crlfB t = false) : okV (.mk 2 t 0 0 false []) = true:=by
 unfold okV;simp [V.kind,V.text,V.list,C1,B6,Bs,Cr,V.int,V.real,V.flag,Eb,h,hb,bits0]
theorem Dm (v : V) : ∀ d : Int,v.fine d = true -> v.ranged -> DownOk v d:=by
 induction v using V.ind with
 | h v ih =>
 intro d hf hr;have hfe:=hf;rw [V.fine_eq,Bool.and_eq_true,Bool.and_eq_true] at hfe;obtain ⟨⟨h1,h2⟩,h3⟩:=hfe;have ho:=Ak h1;have hk:=ho.kind;have hr0:=(V.ranged_eq v).1 hr;have e0 : ∀ t i,(-9223372036854775808 : Int) <= i -> i <= 9223372036854775807 -> (V.mk 4 t i 0 false []).ranged:=fun t i a b => ⟨a,b,by decide,trivial⟩;have hc : ¬ (v.kind = 5 \/ v.kind = 12 \/ v.kind = 13 \/ v.kind = 14) -> v.count = 1:=fun h => by rw [V.count_eq,ho.list h]; rfl
 have hd:=V.down_eq v;have q2 : (1 : Int) <= 2 /\ (2 : Int) <= 6:=by decide
 have q3 : (1 : Int) <= 3 /\ (3 : Int) <= 6:=by decide
 have q4 : (1 : Int) <= 4 /\ (4 : Int) <= 6:=by decide
 have q5 : (1 : Int) <= 5 /\ (5 : Int) <= 6:=by decide
 by_cases k7 : v.kind = 7
 · rw [if_pos k7] at hd
   have hz : (⟨(Bd v.real).toArray⟩ : ByteArray).size <= 4096:=by have:=text_len hr0.2.2.1; show (Bd v.real).toArray.size <= 4096; simp; omega
   exact ⟨by rw [hd]; exact q4,by rw [hd,hc (by omega)]; rfl,by rw [hd]; exact Es (text_ok _ hz) rfl rfl,by rw [hd]; exact rg0 _ _ _⟩
 rw [if_neg k7] at hd;by_cases k8 : v.kind = 8
 · rw [if_pos k8] at hd
   refine ⟨by rw [hd]; exact q3,by rw [hd,hc (by omega)]; rfl,?_,?_⟩
   · rw [hd]
     refine Es ?_ rfl rfl;unfold okV;simp [V.kind,V.text,V.list,C1,B6,Bs,Cr,numK,V.int,V.real,V.flag,Eb,bits0,ByteArray.size,Dt,ByteArray.toList_eq]
   · rw [hd]
     cases v.flag
     · exact rg0 _ _ _
     · exact ⟨by decide,by decide,by decide,trivial⟩
 rw [if_neg k8] at hd;by_cases k9 : v.kind = 9
 · rw [if_pos k9] at hd
   exact ⟨by rw [hd]; exact q4,by rw [hd,hc (by omega)]; rfl,by rw [hd]; exact Es (text_ok _ ho.size) rfl rfl,by rw [hd]; exact rg0 _ _ _⟩
 rw [if_neg k9] at hd;by_cases k11 : v.kind = 11
 · rw [if_pos k11] at hd
   have hz : (v.text.extract 4 v.text.size).size <= 4096:=by have:=ho.size; rw [ByteArray.size_extract]; omega
   exact ⟨by rw [hd]; exact q4,by rw [hd,hc (by omega)]; rfl,by rw [hd]; exact Es (text_ok _ hz) rfl rfl,by rw [hd]; exact rg0 _ _ _⟩
 rw [if_neg k11] at hd;by_cases k10 : v.kind = 10
 · rw [if_pos k10] at hd
   refine ⟨by rw [hd]; exact q2,by rw [hd,hc (by omega)]; rfl,?_,by rw [hd]; exact rg0 _ _ _⟩;rw [hd];refine Es ?_ rfl rfl;have hb:=blank_free v.text;exact text_ok2 _ (by rw [Fm]; exact ho.size) hb
 rw [if_neg k10] at hd;by_cases kl : v.kind = 5 \/ v.kind = 12 \/ v.kind = 13 \/ v.kind = 14
 · rw [if_pos kl] at hd
   have hk5 : Bw v.kind = true:=decide_eq_true kl;rw [hk5] at h2;have hall : ∀ x ∈ v.list,DownOk x (d - 1):=fun x hx => ih x hx (d - 1) (A4 h3 x hx) (V.rangedL_mem hr0.2.2.2 x hx);refine ⟨by rw [hd]; exact q5,?_,?_,?_⟩
   · rw [hd,V.count_eq,V.count_eq v]
     show V.countL (v.list.map V.down) + 1 = _;rw [V.countL_map_down fun x hx => (hall x hx).count]
   · rw [hd,V.fine_eq]
     show (okV _ && (!Bw 5 || decide (1 <= d)) && V.fineL (v.list.map V.down) (d - 1)) = true;rw [fineL_map hall,Bool.and_true,Bool.and_eq_true];refine ⟨?_,by simpa [Bw] using h2⟩;unfold okV;simp [V.kind,V.text,V.list,C1,B6,Bs,Cr,Bw,V.int,V.real,V.flag,Eb,bits0,ByteArray.size,Dt,ByteArray.toList_eq]
   · rw [hd,V.ranged_eq]
     refine ⟨by show (-9223372036854775808 : Int) <= 0; decide,by show (0 : Int) <= 9223372036854775807; decide,by show (0 : Nat) < 18446744073709551616; decide,C2 fun x hx => ?_⟩;obtain ⟨y,hy,rfl⟩:=List.mem_map.1 hx;exact (hall y hy).ranged
 rw [if_neg kl] at hd;exact ⟨by rw [hd]; omega,by rw [hd],by rw [hd]; exact hf,by rw [hd]; exact hr⟩
theorem old_len (v : V) : ∀ d : Int,v.fine d = true -> v.ranged -> v.count <= 100000 -> 3 <= v.old.length /\ v.old.length <= 5000 * v.count:=by
 induction v using V.ind with
 | h v ih =>
 intro d hf hr hc;rw [V.old_eq];by_cases k6 : v.kind = 6
 · rw [if_pos k6]
   have:=v.count_pos;exact ⟨by decide,by show 5 <= _; omega⟩
 rw [if_neg k6];by_cases k5 : v.kind = 5
 · rw [if_pos k5]
   rw [V.fine_eq,Bool.and_eq_true] at hf;have hr0:=(V.ranged_eq v).1 hr;rw [V.count_eq] at hc ⊢;have key : ∀ l : List V,(∀ x ∈ l,x ∈ v.list) -> V.countL l <= V.countL v.list -> (V.oldL l).length <= 5000 * V.countL l:=by
     intro l;induction l with
     | nil => intro _ _; exact Nat.zero_le _
     | cons x l ih2 =>
       intro hm hcl;rw [V.countL] at hcl;have h1:=(ih x (hm x (by simp)) (d - 1) (A4 hf.2 x (hm x (by simp))) (V.rangedL_mem hr0.2.2.2 x (hm x (by simp))) (by omega)).2;have h2:=ih2 (fun y hy => hm y (by simp [hy])) (by omega);rw [V.oldL,List.length_append,V.countL]; omega
   have h1:=key v.list (fun _ h => h) (Nat.le_refl _);have hll:=V.length_le v.list;have h2 : (numL 42 v.list.length).length <= 24:=by
     have:=Ch 42 v.list.length (by omega) (by omega);rw [<- Eh] at this;simpa [ByteArray.size] using this
   have h3 : 3 <= (numL 42 v.list.length).length:=by unfold numL B8; simp
   rw [List.length_append];exact ⟨by omega,by omega⟩
 · rw [if_neg k5]; exact wire_len v d hf hr hc
end Go.Proofs.YtagkgfniihiinaaGreatDoor
