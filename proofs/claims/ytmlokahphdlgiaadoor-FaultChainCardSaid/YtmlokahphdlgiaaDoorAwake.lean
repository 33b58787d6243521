/- The fixed answer of layer 26's statements; the contracts in whatever later world. -/
import Derived.Test.YtmlokahphdlgiaaDoorText
namespace Go.Proofs.YtmlokahphdlgiaaDoor
open Go.RowKit Go.Extern.Stop Go.Stop Go.Extern

/-- The variable errors.errorType. -/
def TypeVar (w : World) : Prop := w.cell? ⟨0, 0, none⟩ = some (.iface 62 (.agg #[.pointer (some ⟨4, 26, none⟩)]))
theorem TypeVar.pos {w : World} (h : TypeVar w) : 0 < w.heap.size := by
  unfold TypeVar at h
  rcases Nat.eq_zero_or_pos w.heap.size with h0 | h0
  · simp [World.cell?, h0] at h
  · exact h0
theorem TypeVar.below {w w' : World} (h : TypeVar w) (hb : Below w.heap.size w w') : TypeVar w' := by
  have hp := h.pos
  unfold TypeVar at *
  rw [hb.cell (p := ⟨0, 0, none⟩) hp]; exact h
theorem later {W w w' : World} (hb : Below W.heap.size W w) (h : Below w.heap.size w w') : Below W.heap.size W w' := hb.trans (h.mono hb.size)

theorem code_at (W w : World) (n : Nat) (v : Value) (c l : Int) (hch : Chain W n v c l) (hg : TypeVar W) (hb : Below W.heap.size W w) :
    Calls Tryd.prog 10 #[v] w fun e w' => e = .returned (.int .i64 c) ∧ Below W.heap.size W w' :=
  (code_chain n v c l w (hch.below hb) (hg.below hb)).mono fun _ _ ⟨h1, h2⟩ => ⟨h1, later hb h2⟩
theorem line_at (W w : World) (n : Nat) (v : Value) (c l : Int) (hch : Chain W n v c l) (hg : TypeVar W) (hb : Below W.heap.size W w) :
    Calls Tryd.prog 11 #[v] w fun e w' => e = .returned (.int .i64 l) ∧ Below W.heap.size W w' :=
  (line_chain n v c l w (hch.below hb) (hg.below hb)).mono fun _ _ ⟨h1, h2⟩ => ⟨h1, later hb h2⟩
theorem fis_at (W w : World) (n : Nat) (v : Value) (c l o : Int) (r : Bool) (ho : (o == 0) = false) (hr : (o == c) = r) (hch : Chain W n v c l) (hb : Below W.heap.size W w) :
    Calls Tryd.prog 12 #[v, .int .i64 o] w fun e w' => e = .returned (.bool r) ∧ Below W.heap.size W w' :=
  (fis_chain n v c l o r ho hr w (hch.below hb)).mono fun _ _ ⟨h1, h2⟩ => ⟨h1, later hb h2⟩
theorem text_at (W w : World) (b b1 : Nat) (hb : Below W.heap.size W w) (hw : W.heap[b]? = some (.cells #[.iface 36 (.pointer (some ⟨b1, 0, none⟩)), .string ⟨#[114, 101, 97, 100]⟩] 41 (0, 0))) (hf : FaultAt W b1 2 3) :
    Calls Tryd.prog 8 #[.iface 39 (.pointer (some ⟨b, 0, none⟩))] w fun e w' => e = .returned (.string ⟨#[114, 101, 97, 100, 58, 32, 101, 114, 114, 111, 114, 32, 50, 32, 108, 105, 110, 101, 32, 51]⟩) ∧ Below W.heap.size W w' :=
  (textRead b b1 w (by rw [hb.block _ (heap_lt hw)]; exact hw) (hf.below hb)).mono fun _ _ ⟨h1, h2⟩ => ⟨h1, later hb h2⟩

set_option maxRecDepth 100000 in
set_option maxHeartbeats 1000000 in
theorem awake_any (w : World) (hg : TypeVar w) : Calls Tryd.prog 5 #[] w fun e w' => e = .returned (.bool true) ∧ Below w.heap.size w w' := by
  have hB : Below w.heap.size w ((w.alloc (.cells #[.int .i64 2, .int .i64 3] 38)).alloc (.cells #[.iface 36 (.pointer (some ⟨w.heap.size, 0, none⟩)), .string ⟨#[114, 101, 97, 100]⟩] 41)) := ((Below.refl _ _).alloc (Nat.le_refl _) _).alloc (by simp) _
  have hf : FaultAt ((w.alloc (.cells #[.int .i64 2, .int .i64 3] 38)).alloc (.cells #[.iface 36 (.pointer (some ⟨w.heap.size, 0, none⟩)), .string ⟨#[114, 101, 97, 100]⟩] 41)) w.heap.size 2 3 := heap_alloc2_old w _ _
  have hw : ((w.alloc (.cells #[.int .i64 2, .int .i64 3] 38)).alloc (.cells #[.iface 36 (.pointer (some ⟨w.heap.size, 0, none⟩)), .string ⟨#[114, 101, 97, 100]⟩] 41)).heap[w.heap.size + 1]? = some (.cells #[.iface 36 (.pointer (some ⟨w.heap.size, 0, none⟩)), .string ⟨#[114, 101, 97, 100]⟩] 41 (0, 0)) := heap_alloc2_new w _ _
  have hch : Chain ((w.alloc (.cells #[.int .i64 2, .int .i64 3] 38)).alloc (.cells #[.iface 36 (.pointer (some ⟨w.heap.size, 0, none⟩)), .string ⟨#[114, 101, 97, 100]⟩] 41)) 1 (.iface 39 (.pointer (some ⟨w.heap.size + 1, 0, none⟩))) 2 3 := ⟨_, _, _, rfl, hw, _, rfl, hf⟩
  have hg2 := hg.below hB
  have hb0 := Below.refl ((w.alloc (.cells #[.int .i64 2, .int .i64 3] 38)).alloc (.cells #[.iface 36 (.pointer (some ⟨w.heap.size, 0, none⟩)), .string ⟨#[114, 101, 97, 100]⟩] 41)).heap.size ((w.alloc (.cells #[.int .i64 2, .int .i64 3] 38)).alloc (.cells #[.iface 36 (.pointer (some ⟨w.heap.size, 0, none⟩)), .string ⟨#[114, 101, 97, 100]⟩] 41))
  have HW : Hid (_ = _) := hw
  clear hw
  go_enter Tryd.func5, Tryd.ntmps5
  go_wp2_with (first
    | (go_at_call 6; refine (new_err _ _ _ (by decide)).mono ?_; rintro e w' ⟨rfl, rfl⟩)
    | (go_at_call 7; refine (wrap_some _ _ _ _).mono ?_; rintro e w' ⟨rfl, rfl⟩))
  refine (code_at _ _ 1 _ 2 3 hch hg2 hb0).mono ?_
  rintro e w1 ⟨rfl, hb1⟩
  go_wp2_with fail
  refine (line_at _ _ 1 _ 2 3 hch hg2 hb1).mono ?_
  rintro e w2 ⟨rfl, hb2⟩
  go_wp2_with fail
  refine (fis_at _ _ 1 _ 2 3 2 true (by decide) (by decide) hch hb2).mono ?_
  rintro e w3 ⟨rfl, hb3⟩
  go_wp2_with fail
  refine (fis_at _ _ 1 _ 2 3 1 false (by decide) (by decide) hch hb3).mono ?_
  rintro e w4 ⟨rfl, hb4⟩
  go_wp2_with fail
  refine (text_at _ _ _ _ hb4 HW.out hf).mono ?_
  rintro e w5 ⟨rfl, hb5⟩
  go_wp2_with fail
  go_ret
  exact ⟨rfl, hB.trans (hb5.mono hB.size)⟩
end Go.Proofs.YtmlokahphdlgiaaDoor
