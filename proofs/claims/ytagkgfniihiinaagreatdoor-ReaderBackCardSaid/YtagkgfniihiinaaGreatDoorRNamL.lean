/- real.Parse of what has no digits, of nought, of what is beyond all; RealNames: its walk. -/
import Derived.Test.YtagkgfniihiinaaGreatDoorAtof2
import Derived.Test.YtagkgfniihiinaaGreatDoorJ18
import Derived.Test.YtagkgfniihiinaaGreatDoorJ50
namespace Go.Proofs.YtagkgfniihiinaaGreatDoor
open Go.RowKit
structure Rng (w : World) : Prop where
 rng : ∃ te pe, w.cell? ⟨4, 0, none⟩ = some (.iface te pe)
theorem Rng.below {w w' : World} (h : Rng w) (hb : Below w.heap.size w w') : Rng w' := let ⟨te, pe, hv⟩ := h.rng; ⟨te, pe, Aa hb _ _ hv⟩
theorem inf_pos (w : World) : Calls Tryz.prog 108 #[.int .i64 1] w fun e w' => e = .returned (.float .f64 9218868437227405312) /\ w' = w := by
 have f1 : ∀ w, (callFunc 57 #[.int .u64 9218868437227405312]).run Tryz.prog w = .ok (.value (.float .f64 9218868437227405312)) w := fun w => mfrom_run 9218868437227405312 w
 go_enter Tryz.func108, Tryz.ntmps108
 go_wp2
 go_ret
 exact ⟨rfl, rfl⟩
theorem inf_neg (w : World) : Calls Tryz.prog 108 #[.int .i64 (-1)] w fun e w' => e = .returned (.float .f64 18442240474082181120) /\ w' = w := by
 have f1 : ∀ w, (callFunc 57 #[.int .u64 18442240474082181120]).run Tryz.prog w = .ok (.value (.float .f64 18442240474082181120)) w := fun w => mfrom_run 18442240474082181120 w
 go_enter Tryz.func108, Tryz.ntmps108
 go_wp2
 go_ret
 exact ⟨rfl, rfl⟩
theorem parse_inf (w : World) : Calls Tryz.prog 90 #[.string ⟨#[105, 110, 102]⟩] w fun e w' => e = .returned (.tuple #[.float .f64 9218868437227405312, .int .i64 0]) /\ w' = w := by
 have hi := inf_pos
 go_enter Tryz.func90, Tryz.ntmps90
 go_wp2_with fail
 refine (hi _).mono ?_
 rintro e w' ⟨rfl, hww⟩
 obtain rfl := hww.symm
 clear hww
 go_wp2
 go_ret2
 exact ⟨rfl, rfl⟩
theorem parse_minf (w : World) : Calls Tryz.prog 90 #[.string ⟨#[45, 105, 110, 102]⟩] w fun e w' => e = .returned (.tuple #[.float .f64 18442240474082181120, .int .i64 0]) /\ w' = w := by
 have hi := inf_neg
 go_enter Tryz.func90, Tryz.ntmps90
 go_wp2_with fail
 refine (hi _).mono ?_
 rintro e w' ⟨rfl, hww⟩
 obtain rfl := hww.symm
 clear hww
 go_wp2
 go_ret2
 exact ⟨rfl, rfl⟩
theorem parse_nan (w : World) : Calls Tryz.prog 90 #[.string ⟨#[110, 97, 110]⟩] w fun e w' => e = .returned (.tuple #[.float .f64 9221120237041090561, .int .i64 0]) /\ w' = w := by
 have f1 : ∀ w, (callFunc 57 #[.int .u64 9221120237041090561]).run Tryz.prog w = .ok (.value (.float .f64 9221120237041090561)) w := fun w => mfrom_run 9221120237041090561 w
 go_enter Tryz.func90, Tryz.ntmps90
 go_wp2
 go_ret2
 exact ⟨rfl, rfl⟩
theorem minus_txt : FTxt ⟨#[45, 48]⟩ true false [48] 1 0 := by
 refine ⟨⟨48, [], [], rfl, by decide, ?_, .none, ?_⟩, by show (2 : Nat) <= 1000; omega, by simp⟩
 · simp only [Cj]
   rw [if_neg (by decide), if_pos (by decide)]
   rfl
 · intro b hb
   simp only [List.mem_cons, List.not_mem_nil, or_false] at hb
   rw [hb]; exact .inl (by decide)
theorem parse_mzero {w : World} (hP : Par w) : Calls Tryz.prog 90 #[.string ⟨#[45, 48]⟩] w fun e w' => e = .returned (.tuple #[.float .f64 9223372036854775808, .int .i64 0]) /\ Below w.heap.size w w' :=
 parse_num (neg := true) (c := 48) (l := []) rfl (by decide) (by decide) (by decide +kernel) fun w' hb => sparse_ok (atof_zero minus_txt (by decide +kernel) (hP.below hb))
end Go.Proofs.YtagkgfniihiinaaGreatDoor
