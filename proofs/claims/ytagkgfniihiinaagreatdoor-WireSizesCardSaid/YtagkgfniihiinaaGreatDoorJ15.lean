/- Values that came in, opened: their texts are no longer than texts can be, their numbers within their words.
-/
import Derived.Test.YtagkgfniihiinaaGreatDoorJ20
import Derived.Test.YtagkgfniihiinaaGreatDoorJ18
namespace Go.Proofs.YtagkgfniihiinaaGreatDoor
open Go.ChangeShapes Go.WideShapes Go.ChangeAt Go.RowKit Go.Deep
theorem trod_floatW {H : Type} {enc : TypeId × Value -> H} {P : Program} {w : World} {base : Nat} {spare : Nat -> Bool} {held : Bool} {fuel : Nat} {t : TypeId} {cs : List Value} {x : DataW H × List MemPlace} (ht : P.underlying t = some (.float .f64))
   (h : DataW.trod enc P w base spare held fuel t cs = some x) : ∃ b, cs = [.float .f64 b] /\ b < 18446744073709551616 := by
 obtain ⟨b, rfl⟩ := trod_float' ht h
 refine ⟨b, rfl, ?_⟩
 cases fuel with
 | zero => simp [DataW.trod] at h
 | succ n =>
   unfold DataW.trod at h
   simp only [ht, Lit.wf, true_and, decide_eq_true_eq] at h
   split at h
   · assumption
   · cases h
set_option maxHeartbeats 1600000 in
theorem open_valueG {H : Type} {enc : TypeId × Value -> H} {w : World} : ∀ (fuel : Nat) (cs : List Value) (x : DataW H × List MemPlace), DataW.trod enc Tryz.prog w 0 (fun _ => true) true fuel 26 cs = some x ->
   ∃ (v : V) (a : Option Addr) (cap : Nat), cs = Ad v.kind v.text v.int v.real v.flag a v.list.length cap /\ RV w.cell? cs v /\ v.sized /\ v.ranged := by
 intro fuel
 induction fuel using Nat.strongRecOn with
 | ind fuel ih =>
 intro cs x h
 obtain ⟨xs, n, rfl, hx, hlen, hxl, hf⟩ := DataW.trod_struct Tryz.underlying26 h
 have hC : Tryz.prog.cellsOf 26 = 6 := by kernel_rfl
 rw [hC] at hlen
 obtain ⟨c0, c1, c2, c3, c4, c5, rfl⟩ := six_of hlen
 have g : ∀ i (hi : i < xs.length), xs[i]? = some xs[i] := fun i hi => List.getElem?_eq_getElem hi
 have hx6 : xs.length = 6 := hxl
 have key : ∀ (i : Nat) (f : Field) (c : Value), _ -> Tryz.prog.cellsOf f.type = 1 -> (([c0, c1, c2, c3, c4, c5] : List Value).drop f.offset).take 1 = [c] -> DataW.trod enc Tryz.prog w 0 (fun _ => true) true n f.type [c] = xs[i]? := fun i f c h1 h2 h3 => by
   have := hf i f h1
   rw [h2, h3] at this
   exact this
 have f0 : DataW.trod enc Tryz.prog w 0 (fun _ => true) true n 3 [c0] = some xs[0] := (key 0 _ c0 rfl (by kernel_rfl) rfl).trans (g 0 (by omega))
 have f1 : DataW.trod enc Tryz.prog w 0 (fun _ => true) true n 9 [c1] = some xs[1] := (key 1 _ c1 rfl (by kernel_rfl) rfl).trans (g 1 (by omega))
 have f2 : DataW.trod enc Tryz.prog w 0 (fun _ => true) true n 2 [c2] = some xs[2] := (key 2 _ c2 rfl (by kernel_rfl) rfl).trans (g 2 (by omega))
 have f3 : DataW.trod enc Tryz.prog w 0 (fun _ => true) true n 23 [c3] = some xs[3] := (key 3 _ c3 rfl (by kernel_rfl) rfl).trans (g 3 (by omega))
 have f4 : DataW.trod enc Tryz.prog w 0 (fun _ => true) true n 4 [c4] = some xs[4] := (key 4 _ c4 rfl (by kernel_rfl) rfl).trans (g 4 (by omega))
 have f5 : DataW.trod enc Tryz.prog w 0 (fun _ => true) true n 24 [c5] = some xs[5] := (key 5 _ c5 rfl (by kernel_rfl) rfl).trans (g 5 (by omega))
 obtain ⟨k, e0, _⟩ := DataW.trod_int Tryz.underlying3 f0
 obtain ⟨t, e1, _, htm⟩ := DataW.trod_string Tryz.underlying9 f1
 have htm : t.size <= 9223372036854775807 := htm
 obtain ⟨i, e2, _, e2w⟩ := DataW.trod_int Tryz.underlying2 f2
 have hi64 : -9223372036854775808 <= i /\ i <= 9223372036854775807 := by
   rw [Lit.wf, Bool.and_eq_true, decide_eq_true_eq, decide_eq_true_eq] at e2w
   exact e2w
 obtain ⟨r, e3, hr64⟩ := trod_floatW Tryz.underlying23 f3
 obtain ⟨b, e4, _⟩ := DataW.trod_bool Tryz.underlying4 f4
 simp only [List.cons.injEq, and_true] at e0 e1 e2 e3 e4
 subst e0; subst e1; subst e2; subst e3; subst e4
 rcases DataW.trod_slice Tryz.underlying24 f5 with ⟨e5, _⟩ | ⟨ad, len, cap, elems, rest, m, rfl, e5, _, _, hlc, _, hel, hi, _⟩
 · simp only [List.cons.injEq, and_true] at e5
   subst e5
   exact ⟨.mk k t i r b [], none, 0, rfl, RV.leaf _ _ _ _ _ _ _ _, (V.sized_eq _).2 ⟨htm, trivial⟩, (V.ranged_eq _).2 ⟨hi64.1, hi64.2, hr64, trivial⟩⟩
 · simp only [List.cons.injEq, and_true] at e5
   subst e5
   rw [hC] at hi
   obtain ⟨ps, hpl, hpr⟩ := Du (R := fun j (p : List Value × V) => w.cells? 0 (ad.add (j * 6)) 6 = some p.1 /\ RV w.cell? p.1 p.2 /\ p.2.sized /\ p.2.ranged) len (fun j hj => by
     have h1 := hi j hj
     rw [List.getElem?_eq_getElem (by omega)] at h1
     obtain ⟨cs', h2, h3⟩ := Option.bind_eq_some_iff.1 h1
     obtain ⟨v, _, _, _, hv, hvs⟩ := ih m (by omega) cs' _ h3
     exact ⟨(cs', v), h2, hv, hvs⟩)
   refine ⟨.mk k t i r b (ps.map (·.2)), some ad, cap, by simp [Ad, V.kind, V.text, V.int, V.real, V.flag, V.list, hpl], RV.mk k t i r b (some ad) len cap (ps.map (·.2)) (ps.map (·.1)) (by simp [hpl]) (by simp) (fun j x hx => ?_) (fun j x y hx hy => ?_), (V.sized_eq _).2 ⟨htm, sizedL_of fun x hx => ?_⟩, (V.ranged_eq _).2 ⟨hi64.1, hi64.2, hr64, Bn fun x hx => ?_⟩⟩
   · obtain ⟨p, hp, rfl⟩ := List.mem_map.1 (List.mem_of_getElem? hx)
     rw [List.getElem?_map] at hx
     obtain ⟨p', hp', hpe⟩ := Option.map_eq_some_iff.1 hx
     obtain ⟨hjl, rfl⟩ := List.getElem?_eq_some_iff.1 hp'
     obtain ⟨_, h6, hat⟩ := World.cells?_some (hpr j hjl).1
     have h60 := hpr 0 (by omega)
     obtain ⟨_, h60', hat0⟩ := World.cells?_some h60.1
     have e0 : w.cell? (ad.add 0) = some (ps[0].1[0]'(by omega)) := by
       have := hat0 0 (by omega)
       rw [List.getElem?_eq_getElem (by omega)] at this
       simpa [Addr.add] using this
     obtain ⟨b0, o0, rfl⟩ := add_plain e0
     refine ⟨b0, o0, rfl, fun q u hu => ?_⟩
     rw [<- hpe] at hu
     have hq : q < 6 := by have := (List.getElem?_eq_some_iff.1 hu).1; omega
     have := hat q hq
     rw [add_mk, add_mk, hu] at this
     exact this
   · rw [List.getElem?_map] at hx hy
     obtain ⟨p, hp, rfl⟩ := Option.map_eq_some_iff.1 hx
     rw [hp] at hy
     simp at hy
     subst hy
     obtain ⟨hjl, rfl⟩ := List.getElem?_eq_some_iff.1 hp
     exact (hpr j hjl).2.1
   · obtain ⟨p, hp, rfl⟩ := List.mem_map.1 hx
     obtain ⟨j, hjl, rfl⟩ := List.getElem_of_mem hp
     exact (hpr j hjl).2.2.1
   · obtain ⟨p, hp, rfl⟩ := List.mem_map.1 hx
     obtain ⟨j, hjl, rfl⟩ := List.getElem_of_mem hp
     exact (hpr j hjl).2.2.2
theorem open_listG {H : Type} {enc : TypeId × Value -> H} {w : World} {fuel : Nat} {a : Option Addr} {n cap : Nat} {x : DataW H × List MemPlace} (h : DataW.trod enc Tryz.prog w 0 (fun _ => true) true fuel 24 [.slice a n cap] = some x) :
   ∃ l : List V, RV w.cell? (Ad 5 ⟨#[]⟩ 0 0 false a n cap) (.mk 5 ⟨#[]⟩ 0 0 false l) /\ V.sizedL l /\ V.rangedL l := by
 rcases DataW.trod_slice Tryz.underlying24 h with ⟨e5, _⟩ | ⟨ad, len, cap', elems, rest, m, rfl, e5, _, _, hlc, _, hel, hi, _⟩
 · simp only [List.cons.injEq, and_true, Value.slice.injEq] at e5
   obtain ⟨rfl, rfl, rfl⟩ := e5
   exact ⟨[], RV.leaf _ _ _ _ _ _ _ _, trivial, trivial⟩
 · simp only [List.cons.injEq, and_true, Value.slice.injEq] at e5
   obtain ⟨rfl, rfl, rfl⟩ := e5
   have hC : Tryz.prog.cellsOf 26 = 6 := by kernel_rfl
   rw [hC] at hi
   obtain ⟨ps, hpl, hpr⟩ := Du (R := fun j (p : List Value × V) => w.cells? 0 (ad.add (j * 6)) 6 = some p.1 /\ RV w.cell? p.1 p.2 /\ p.2.sized /\ p.2.ranged) n (fun j hj => by
     have h1 := hi j hj
     rw [List.getElem?_eq_getElem (by omega)] at h1
     obtain ⟨cs', h2, h3⟩ := Option.bind_eq_some_iff.1 h1
     obtain ⟨v, _, _, _, hv, hvs⟩ := open_valueG m cs' _ h3
     exact ⟨(cs', v), h2, hv, hvs⟩)
   refine ⟨ps.map (·.2), RV.mk 5 ⟨#[]⟩ 0 0 false (some ad) n cap (ps.map (·.2)) (ps.map (·.1)) (by simp [hpl]) (by simp) (fun j x hx => ?_) (fun j x y hx hy => ?_), sizedL_of fun x hx => ?_, Bn fun x hx => ?_⟩
   · obtain ⟨p, hp, rfl⟩ := List.mem_map.1 (List.mem_of_getElem? hx)
     rw [List.getElem?_map] at hx
     obtain ⟨p', hp', hpe⟩ := Option.map_eq_some_iff.1 hx
     obtain ⟨hjl, rfl⟩ := List.getElem?_eq_some_iff.1 hp'
     obtain ⟨_, h6, hat⟩ := World.cells?_some (hpr j hjl).1
     have h60 := hpr 0 (by omega)
     obtain ⟨_, h60', hat0⟩ := World.cells?_some h60.1
     have e0 : w.cell? (ad.add 0) = some (ps[0].1[0]'(by omega)) := by
       have := hat0 0 (by omega)
       rw [List.getElem?_eq_getElem (by omega)] at this
       simpa [Addr.add] using this
     obtain ⟨b0, o0, rfl⟩ := add_plain e0
     refine ⟨b0, o0, rfl, fun q u hu => ?_⟩
     rw [<- hpe] at hu
     have hq : q < 6 := by have := (List.getElem?_eq_some_iff.1 hu).1; omega
     have := hat q hq
     rw [add_mk, add_mk, hu] at this
     exact this
   · rw [List.getElem?_map] at hx hy
     obtain ⟨p, hp, rfl⟩ := Option.map_eq_some_iff.1 hx
     rw [hp] at hy
     simp at hy
     subst hy
     obtain ⟨hjl, rfl⟩ := List.getElem?_eq_some_iff.1 hp
     exact (hpr j hjl).2.1
   · obtain ⟨p, hp, rfl⟩ := List.mem_map.1 hx
     obtain ⟨j, hjl, rfl⟩ := List.getElem_of_mem hp
     exact (hpr j hjl).2.2.1
   · obtain ⟨p, hp, rfl⟩ := List.mem_map.1 hx
     obtain ⟨j, hjl, rfl⟩ := List.getElem_of_mem hp
     exact (hpr j hjl).2.2.2
end Go.Proofs.YtagkgfniihiinaaGreatDoor
