/- The small contracts of layer 26: New, Wrap, Unwrap; a chain of wrapped faults in memory. -/
import Derived.Test.YtmlokahphdlgiaaDoorProg
import Derived.WalkKit
import Derived.LaidEql
import Derived.Stop.Asserts
import Derived.RowKitTokens
import Derived.Deep.LoopGhost
import Derived.Below
namespace Go.Proofs.YtmlokahphdlgiaaDoor
open Go.RowKit Go.Extern.Stop Go.Stop Go.Extern

/-- A fault lies in block b. -/
def FaultAt (w : World) (b : Nat) (code line : Int) : Prop := w.heap[b]? = some (.cells #[.int .i64 code, .int .i64 line] 38 (0, 0))
/-- An error that is a fault, wrapped n times. -/
def Chain (w : World) : Nat → Value → Int → Int → Prop
  | 0, v, c, l => ∃ b, v = .iface 36 (.pointer (some ⟨b, 0, none⟩)) ∧ FaultAt w b c l
  | n + 1, v, c, l => ∃ b u s, v = .iface 39 (.pointer (some ⟨b, 0, none⟩)) ∧ w.heap[b]? = some (.cells #[u, .string s] 41 (0, 0)) ∧ Chain w n u c l

theorem heap_lt {w : World} {b : Nat} {o : Obj} (h : w.heap[b]? = some o) : b < w.heap.size := by
  rcases Nat.lt_or_ge b w.heap.size with h1 | h1
  · exact h1
  · rw [Array.getElem?_eq_none h1] at h; cases h

theorem FaultAt.below {w w' : World} {b : Nat} {c l : Int} (h : FaultAt w b c l) (hb : Below w.heap.size w w') : FaultAt w' b c l := by
  unfold FaultAt at *
  rw [hb.block b (heap_lt h)]; exact h
theorem Chain.below {w w' : World} (hb : Below w.heap.size w w') : ∀ {n : Nat} {v : Value} {c l : Int}, Chain w n v c l → Chain w' n v c l
  | 0, _, _, _, ⟨b, e, h⟩ => ⟨b, e, h.below hb⟩
  | n + 1, _, _, _, ⟨b, u, s, e, h, k⟩ => ⟨b, u, s, e, by rw [hb.block b (heap_lt h)]; exact h, Chain.below hb k⟩

theorem new_ok (line : Int) (w : World) : Calls Tryd.prog 6 #[.int .i64 0, .int .i64 line] w fun e w' => e = .returned .nilIface ∧ w = w' := by
  go_enter Tryd.func6, Tryd.ntmps6
  go_wp2
  go_ret
  exact ⟨rfl, rfl⟩
theorem new_err (code line : Int) (w : World) (hc : (code == 0) = false) :
    Calls Tryd.prog 6 #[.int .i64 code, .int .i64 line] w fun e w' => e = .returned (.iface 36 (.pointer (some ⟨w.heap.size, 0, none⟩))) ∧ w.alloc (.cells #[.int .i64 code, .int .i64 line] 38) = w' := by
  go_enter Tryd.func6, Tryd.ntmps6
  go_wp2
  go_ret
  exact ⟨rfl, rfl⟩
theorem wrap_nil (s : ByteArray) (w : World) : Calls Tryd.prog 7 #[.nilIface, .string s] w fun e w' => e = .returned .nilIface ∧ w = w' := by
  go_enter Tryd.func7, Tryd.ntmps7
  go_wp2
  go_ret
  exact ⟨rfl, rfl⟩
theorem wrap_some (t : TypeId) (v : Value) (s : ByteArray) (w : World) :
    Calls Tryd.prog 7 #[.iface t v, .string s] w fun e w' => e = .returned (.iface 39 (.pointer (some ⟨w.heap.size, 0, none⟩))) ∧ w.alloc (.cells #[.iface t v, .string s] 41) = w' := by
  go_enter Tryd.func7, Tryd.ntmps7
  go_wp2
  go_ret
  exact ⟨rfl, rfl⟩
theorem unwrap_any (b : Nat) (u : Value) (s : ByteArray) (w : World) (h : w.heap[b]? = some (.cells #[u, .string s] 41 (0, 0))) :
    Calls Tryd.prog 58 #[.pointer (some ⟨b, 0, none⟩)] w fun e w' => e = .returned u ∧ w = w' := by
  have hc : w.cell? ⟨b, 0, none⟩ = some u := by simp [World.cell?, h]
  clear h
  go_enter Tryd.func58, Tryd.ntmps58
  go_wp2
  go_ret
  exact ⟨rfl, rfl⟩
end Go.Proofs.YtmlokahphdlgiaaDoor
