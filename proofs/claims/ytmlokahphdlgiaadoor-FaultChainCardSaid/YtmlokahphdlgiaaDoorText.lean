/- The text of a fault of number 2, line 3, wrapped once. -/
import Derived.Test.YtmlokahphdlgiaaDoorIs
namespace Go.Proofs.YtmlokahphdlgiaaDoor
open Go.RowKit Go.Extern.Stop Go.Stop Go.Extern

theorem itoa2 (w : World) : Calls Tryd.prog 43 #[.int .i64 2] w fun e w' => e = .returned (.string ⟨#[50]⟩) ∧ w = w' := by
  go_enter Tryd.func43, Tryd.ntmps43
  go_wp2
  go_ret
  exact ⟨rfl, rfl⟩
theorem itoa3 (w : World) : Calls Tryd.prog 43 #[.int .i64 3] w fun e w' => e = .returned (.string ⟨#[51]⟩) ∧ w = w' := by
  go_enter Tryd.func43, Tryd.ntmps43
  go_wp2
  go_ret
  exact ⟨rfl, rfl⟩
set_option maxRecDepth 100000 in
theorem error23 (b : Nat) (w : World) (hf : FaultAt w b 2 3) : Calls Tryd.prog 41 #[.pointer (some ⟨b, 0, none⟩)] w fun e w' => e = .returned (.string ⟨#[101, 114, 114, 111, 114, 32, 50, 32, 108, 105, 110, 101, 32, 51]⟩) ∧ w = w' := by
  have h1 : w.cell? ⟨b, 0, none⟩ = some (.int .i64 2) := by unfold FaultAt at hf; simp [World.cell?, hf]
  have h2 : w.cell? ⟨b, 1, none⟩ = some (.int .i64 3) := by unfold FaultAt at hf; simp [World.cell?, hf]
  clear hf
  go_enter Tryd.func41, Tryd.ntmps41
  go_wp2_with (go_at_call 43; (first | (refine (itoa2 _).mono ?_; rintro e w' ⟨rfl, rfl⟩) | (refine (itoa3 _).mono ?_; rintro e w' ⟨rfl, rfl⟩)))
  go_ret
  exact ⟨rfl, rfl⟩

set_option maxRecDepth 100000 in
theorem errorRead (b b1 : Nat) (w : World) (hw : w.heap[b]? = some (.cells #[.iface 36 (.pointer (some ⟨b1, 0, none⟩)), .string ⟨#[114, 101, 97, 100]⟩] 41 (0, 0))) (hf : FaultAt w b1 2 3) :
    Calls Tryd.prog 57 #[.pointer (some ⟨b, 0, none⟩)] w fun e w' => e = .returned (.string ⟨#[114, 101, 97, 100, 58, 32, 101, 114, 114, 111, 114, 32, 50, 32, 108, 105, 110, 101, 32, 51]⟩) ∧ ∃ n, w' = w.drewN n := by
  have h1 : w.cell? ⟨b, 0, none⟩ = some (.iface 36 (.pointer (some ⟨b1, 0, none⟩))) := by simp [World.cell?, hw]
  have h2 : w.cell? ⟨b, 1, none⟩ = some (.string ⟨#[114, 101, 97, 100]⟩) := by simp [World.cell?, hw]
  have mE := methodError36
  have nE := nilAheadError36
  have HE : ∀ nd, Calls Tryd.prog 41 #[.pointer (some ⟨b1, 0, none⟩)] (w.drewN nd) fun e w' => e = .returned (.string ⟨#[101, 114, 114, 111, 114, 32, 50, 32, 108, 105, 110, 101, 32, 51]⟩) ∧ w' = w.drewN nd := fun nd => (error23 b1 (w.drewN nd) hf).mono fun _ _ h => ⟨h.1, h.2.symm⟩
  clear hf hw
  go_enter Tryd.func57, Tryd.ntmps57
  go_wp2
  go_quiet ((go_at_call 41; exact Calls.quiet_of_same (HE _)))
  all_goals (go_wp2)
  all_goals (go_ret)
  all_goals exact ⟨rfl, _, rfl⟩

set_option maxRecDepth 100000 in
theorem textRead (b b1 : Nat) (w : World) (hw : w.heap[b]? = some (.cells #[.iface 36 (.pointer (some ⟨b1, 0, none⟩)), .string ⟨#[114, 101, 97, 100]⟩] 41 (0, 0))) (hf : FaultAt w b1 2 3) :
    Calls Tryd.prog 8 #[.iface 39 (.pointer (some ⟨b, 0, none⟩))] w fun e w' => e = .returned (.string ⟨#[114, 101, 97, 100, 58, 32, 101, 114, 114, 111, 114, 32, 50, 32, 108, 105, 110, 101, 32, 51]⟩) ∧ Below w.heap.size w w' := by
  have mE := methodError39
  have nE := nilAheadError39
  have HE := errorRead b b1 w hw hf
  clear hf hw
  go_enter Tryd.func8, Tryd.ntmps8
  go_wp2_with (go_at_call 57; refine HE.mono ?_; rintro e w' ⟨rfl, nd, rfl⟩)
  go_ret
  exact ⟨rfl, below_draws (Below.refl _ _) _⟩
end Go.Proofs.YtmlokahphdlgiaaDoor
