/- strings.NewReplacer("\r", " ", "\n", " ").Replace(s). -/
import Derived.Test.YtagkgfniihiinaaGreatDoorRplD
namespace Go.Proofs.YtagkgfniihiinaaGreatDoor
open Go.RowKit
theorem eStrR : Elem Tryz.prog 33 9 1 16 := elem_of Tryz.underlying33 (by decide) (by decide) (by kernel_rfl)
def fourT : List Value := [.string ⟨#[13]⟩, .string ⟨#[32]⟩, .string ⟨#[10]⟩, .string ⟨#[32]⟩]
structure Fresh (w : World) (r o cp : Nat) : Prop where
 c0 : w.cell? ⟨r, 0, none⟩ = some (.int .u32 0)
 c1 : w.cell? ⟨r, 1, none⟩ = some (.int .i32 0)
 c3 : w.cell? ⟨r, 3, none⟩ = some .nilIface
 c4 : w.cell? ⟨r, 4, none⟩ = some (.slice (some ⟨o, 0, none⟩) 4 cp)
 blk : Blk w r
 ne : o ≠ r
 four : Four w o
theorem Four.of_owns {w : World} {B cp : Nat} {a : Option Addr} (h : w.ownsRow B 9 1 (.slice a 4 cp) 4 fourT) : ∃ o, a = some ⟨o, 0, none⟩ /\ B <= o /\ Four w o := by
 obtain ⟨o, hb, rfl⟩ : ∃ o, B <= o /\ a = some ⟨o, 0, none⟩ := by
   rcases h.2 with ⟨_, e⟩ | ⟨g, cap, cur, e, hb, _⟩
   · cases e
   · cases e; exact ⟨g, hb, rfl⟩
 have hc := fun j => Reads.of_owns h |>.at (j := j)
 refine ⟨o, rfl, hb, ?_, ?_, ?_, ?_⟩
 · obtain ⟨b, o', e, k⟩ := hc 0 (by decide); cases e; exact k 0 _ rfl
 · obtain ⟨b, o', e, k⟩ := hc 1 (by decide); cases e; have := k 1 _ rfl; simpa using this
 · obtain ⟨b, o', e, k⟩ := hc 2 (by decide); cases e; have := k 2 _ rfl; simpa using this
 · obtain ⟨b, o', e, k⟩ := hc 3 (by decide); cases e; have := k 3 _ rfl; simpa using this
set_option maxRecDepth 100000 in
set_option maxHeartbeats 1600000 in
theorem new_any {a : Addr} {c : Nat} {w : World} (hr : Reads w 1 (.slice (some a) 4 c) 4 fourT) :
   Calls Tryz.prog 49 #[.slice (some a) 4 c] w fun e w' => ∃ r o cp, e = .returned (.pointer (some ⟨r, 0, none⟩)) /\ w.heap.size <= r /\ w.heap.size <= o /\ Fresh w' r o cp /\ Below w.heap.size w w' := by
 have hown := World.ownsRow_nil w w.heap.size 9 1
 have hone : fourT.all (fun u => u.oneCell') = true := rfl
 replace hr := Hd hr
 replace hown := Hd hown
 replace hone := Hd hone
 go_enter Tryz.func49, Tryz.ntmps49
 go_wp2_with (at_builtin; refine append_many rfl rfl eStrR rfl hown.out rfl hr.out (fun h => by cases h) hone.out (by omega) (by simp) ?_)
 intro v' w' hown' hf hnw
 obtain ⟨a3, c3, rfl⟩ := (Reads.of_owns hown').shape
 have hbel : Below w.heap.size w w' := hf.below (by simp) (fun i hi h => by simp [Value.ownBlock] at h)
 obtain ⟨o, rfl, ho, h4⟩ := Four.of_owns (by simpa using hown')
 clear hf hnw hown'
 replace hbel := Hd hbel
 replace h4 := Hd h4
 go_wp2_with fail
 go_ret
 have hol := h4.out.lt
 have hsz := hbel.out.size
 refine ⟨w'.heap.size, o, c3, rfl, hsz, ho, ⟨?_, ?_, ?_, ?_, Blk.new _ _ _, by omega, h4.out.of ((Below.refl _ w').alloc (Nat.le_refl _) _ |>.block o hol)⟩, hbel.out.alloc (by omega) _⟩
 all_goals (rw [World.cell?_alloc_new]; rfl)
set_option maxRecDepth 100000 in
theorem do_any {r o cp : Nat} {w : World} (h : Fresh w r o cp) :
   Calls Tryz.prog 81 #[.pointer (some ⟨r, 0, none⟩), .func (.func 82) #[.pointer (some ⟨r, 0, none⟩)] #[]] w fun e w' => e = .returned (.tuple #[]) /\ ∃ g, w'.cell? ⟨r, 3, none⟩ = some (.iface 169 (.pointer (some ⟨g, 0, none⟩))) /\ Tbl w' g D9 /\ Fr (fun k => k = r) w w' := by
 have hfw : Fr (fun k => k = r) w (w.setCell ⟨r, 1, none⟩ (.int .i32 1)) := Fr.setCell (S := fun k => k = r) (Fr.refl _ _) (fun _ => rfl) _
 have hon := h.ne
 have hB := Fp (w := w.setCell ⟨r, 1, none⟩ (.int .i32 1)) ((Ag (by simp)).trans h.c4) ((Ag (by simp)).trans h.c3) (h.four.of (hfw.block o h.four.lt hon)) (h.blk.setCell _ _)
 have c0 := h.c0
 have c1 := h.c1
 have hk := h.blk
 replace h := Hd h
 replace hfw := Hd hfw
 have hS := doSlow_any (X := Built r (w.setCell ⟨r, 1, none⟩ (.int .i32 1))) c0 c1 hk (hB.mono fun e w' ⟨he, hb, hk', ho⟩ => ⟨he, by rw [ho 0 (by decide), Ag (by simp)]; exact c0, by rw [ho 1 (by decide)]; exact Ap c1, hk', hb⟩)
 replace hS := Hd hS
 clear hB c1 hk
 go_enter Tryz.func81, Tryz.ntmps81
 go_wp2_with fail
 refine (load_any c0).mono ?_
 rintro e w1 ⟨rfl, hww⟩
 obtain rfl := hww.symm
 clear hww
 go_wp2_with fail
 refine hS.out.mono ?_
 rintro e w2 ⟨rfl, w3, hb, hf, hq⟩
 obtain ⟨⟨g, h3, hg, hT⟩, hfr⟩ := hb
 have hrl := h.out.blk.lt
 have hgr : g ≠ r := by have := hfw.out.size; omega
 have hpost : w2.cell? ⟨r, 3, none⟩ = some (.iface 169 (.pointer (some ⟨g, 0, none⟩))) /\ Tbl w2 g D9 /\ Fr (fun k => k = r) w w2 := ⟨(hq 3 (by decide)).trans h3, hT.of (hf.block g hT.lt hgr), (hfw.out.trans hfr).trans hf⟩
 replace hpost := Hd hpost
 clear hq hf hfr h3 hT
 go_wp2_with fail
 go_end0
 exact ⟨rfl, g, hpost.out⟩
set_option maxRecDepth 100000 in
theorem Fj {r o cp : Nat} {w : World} (h : Fresh w r o cp) (s : ByteArray) (hn : s.size <= 1000000000000) :
   Calls Tryz.prog 50 #[.pointer (some ⟨r, 0, none⟩), .string s] w fun e w' => e = .returned (.string (Ay s)) /\ Fr (fun k => k = r) w w' := by
 have hD := do_any h
 have hmf : ∀ (fn : Fn) (first cap : Array Value) (w : World), (Instr.makeFunc fn first cap).run Tryz.prog w = .ok (.func fn first cap) w := fun _ _ _ _ => rfl
 have hm : ∀ (k g : Nat) (w : World), (method (k + 1) 169 (.pointer (some ⟨g, 0, none⟩)) "Replace").run Tryz.prog w = .ok (281, .pointer (some ⟨g, 0, none⟩)) w := fun _ _ _ => by kernel_rfl
 have hrl := h.blk.lt
 clear h
 replace hD := Hd hD
 go_enter Tryz.func50, Tryz.ntmps50
 go_wp2_with fail
 refine hD.out.mono ?_
 rintro e w1 ⟨rfl, g, h3, hT, hf⟩
 have hB := Er s hT hn
 replace hT := Hd hT
 replace hf := Hd hf
 replace hB := Hd hB
 go_wp2_with fail
 refine hB.out.mono ?_
 rintro e w2 ⟨rfl, hb⟩
 have hf2 : Fr (fun k => k = r) w w2 := hf.out.trans ((Fr.of_below hb).mono fun i hi h => absurd hi (by omega))
 replace hf2 := Hd hf2
 clear hb
 go_wp2_with fail
 go_ret
 exact ⟨rfl, hf2.out⟩
end Go.Proofs.YtagkgfniihiinaaGreatDoor
