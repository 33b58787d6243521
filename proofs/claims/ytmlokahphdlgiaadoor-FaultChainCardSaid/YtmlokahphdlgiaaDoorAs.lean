/- errors.As at a chain of wrapped faults: it finds the fault. -/
import Derived.Test.YtmlokahphdlgiaaDoorFacts
import Derived.OneCell
namespace Go.Proofs.YtmlokahphdlgiaaDoor
open Go.RowKit Go.Extern.Stop Go.Stop Go.Extern

theorem as_nil (t : Value) (w : World) :
    Calls Tryd.prog 14 #[.nilIface, t] w fun e w' => e = .returned (.bool false) ∧ w = w' := by
  go_enter Tryd.func14, Tryd.ntmps14
  go_wp2
  go_ret
  exact ⟨rfl, rfl⟩

/-- What errors.as leaves: the variable in block T leads to a fault. -/
def Found (W0 : World) (c l : Int) (e : Ending) (w' : World) : Prop :=
  e = .returned (.bool true) ∧ (∃ b, w'.heap[W0.heap.size]? = some (.cells #[.pointer (some ⟨b, 0, none⟩)] 36 (0, 0)) ∧ FaultAt W0 b c l) ∧ Below W0.heap.size W0 w'

theorem hit_done {W0 w : World} {b : Nat} {c l : Int} (A B : Obj) (hb : Below W0.heap.size W0 w) (ht : w.heap[W0.heap.size]? = some (.cells #[.pointer none] 36 (0, 0))) (hf : FaultAt W0 b c l) :
    Found W0 c l (.returned (.bool true)) (((w.setCell ⟨W0.heap.size, 0, none⟩ (.pointer (some ⟨b, 0, none⟩))).alloc A).alloc B) := by
  have htl := heap_lt ht
  have h0 : (w.setCell ⟨W0.heap.size, 0, none⟩ (.pointer (some ⟨b, 0, none⟩))).heap.size = w.heap.size := by simp [World.setCell]
  have h1 : ((w.setCell ⟨W0.heap.size, 0, none⟩ (.pointer (some ⟨b, 0, none⟩))).alloc A).heap.size = w.heap.size + 1 := by rw [World.size_alloc, h0]
  refine ⟨rfl, ⟨b, ?_, hf⟩, ((hb.setCell (Nat.le_refl _) _).alloc (by rw [h0]; omega) A).alloc (by rw [h1]; omega) B⟩
  rw [Below.heap_alloc _ _ _ (by rw [h1]; omega), Below.heap_alloc _ _ _ (by rw [h0]; omega)]
  exact one_setCell ht

set_option maxHeartbeats 4000000 in
theorem as_loop (W0 w : World) (n : Nat) (v : Value) (c l : Int) (vb : Nat) (hch : Chain W0 n v c l) (hb : Below W0.heap.size W0 w)
    (ht : w.heap[W0.heap.size]? = some (.cells #[.pointer none] 36 (0, 0))) (hv : w.cell? ⟨vb, 0, none⟩ = some (.pointer (some ⟨W0.heap.size, 0, none⟩))) :
    Calls Tryd.prog 19 #[v, .iface 45 (.pointer (some ⟨W0.heap.size, 0, none⟩)), .agg #[.pointer (some ⟨4, 45, none⟩), .pointer (some ⟨vb, 0, none⟩), .int .u64 150], .iface 62 (.agg #[.pointer (some ⟨4, 36, none⟩)])] w (Found W0 c l) := by
  have h16 := @run_callFunc_extern Tryd.prog 16 _ (fun args => ReflectliteValue.unpack (args.getD 0 (.tuple #[]))) Tryd.func16 (by kernel_rfl) (by kernel_rfl) (by kernel_rfl) (by kernel_rfl)
  have h20 := @run_callFunc_extern Tryd.prog 20 _ ReflectliteType.typeOf Tryd.func20 (by kernel_rfl) (by kernel_rfl) (by kernel_rfl) (by kernel_rfl)
  have h63 := @run_callFunc_extern Tryd.prog 63 _ (ReflectliteType.relation "AssignableTo" ReflectliteType.assignableTo) Tryd.func63 (by kernel_rfl) (by kernel_rfl) (by kernel_rfl) (by kernel_rfl)
  have h22 := @run_callFunc_extern Tryd.prog 22 _ (ReflectliteValue.method (ReflectliteValue.valueError "reflectlite.Value.Elem" 0) ReflectliteValue.elem) Tryd.func22 (by kernel_rfl) (by kernel_rfl) (by kernel_rfl) (by kernel_rfl)
  have h23 := @run_callFunc_extern Tryd.prog 23 _ ReflectliteValue.set Tryd.func23 (by kernel_rfl) (by kernel_rfl) (by kernel_rfl) (by kernel_rfl)
  have tO := typeOf36
  have tP := typeOf39
  have mA := methodAssignableTo
  have a36 := assignable36
  have a39 := assignable39
  have v36 := valueOf36
  have nA := noAs39
  have uA := unwraps39
  have mU := methodUnwrap
  have nU := nilAheadUnwrap
  have hvl : vb < w.heap.size := by
    rcases Nat.lt_or_ge vb w.heap.size with h | h
    · exact h
    · simp [World.cell?, Array.getElem?_eq_none h] at hv
  have htl := heap_lt ht
  go_enter Tryd.func19, Tryd.ntmps19
  go_wp2
  go_loopg [0] n (fun k u wr => Aside (Chain W0 k u c l ∧ wr = w.alloc (.cells #[.pointer (some ⟨4, 45, none⟩), .pointer (some ⟨vb, 0, none⟩), .int .u64 150] 50)))
  case atStart => exact ⟨hch, rfl⟩
  case round =>
    obtain ⟨hk, hw⟩ := hrel.out
    clear hrel
    subst hw
    cases gk with
    | zero =>
      obtain ⟨b, rfl, hf⟩ := hk
      have el := elemV45 ⟨vb, 0, none⟩ ⟨W0.heap.size, 0, none⟩ (w.alloc (.cells #[.pointer (some ⟨4, 45, none⟩), .pointer (some ⟨vb, 0, none⟩), .int .u64 150] 50)) (by rw [World.cell?_alloc_lt _ _ _ (by exact hvl)]; exact hv)
      have st := set36 ⟨W0.heap.size, 0, none⟩ ⟨w.heap.size + 1, 0, none⟩ ⟨b, 0, none⟩ (.pointer none) ((w.alloc (.cells #[.pointer (some ⟨4, 45, none⟩), .pointer (some ⟨vb, 0, none⟩), .int .u64 150] 50)).alloc (.cells #[.pointer (some ⟨b, 0, none⟩)] 36))
        (by rw [World.cell?_alloc_at _ _ _ _ (by simp)]; rfl)
        (by rw [World.cell?_alloc_lt _ _ _ (by simp; omega), World.cell?_alloc_lt _ _ _ (by exact htl)]; simp [World.cell?, ht])
        (by rw [World.frozen?_alloc_old _ _ _ (by simp; omega), World.frozen?_alloc_old _ _ _ (Nat.ne_of_lt (by exact htl))]; simp [World.frozen?, ht])
      go_wp2
      go_ret
      exact ⟨rfl, (hit_done _ _ hb ht hf).2⟩
    | succ k =>
      obtain ⟨b, u, s, rfl, hc, hk⟩ := hk
      have hcw : (w.alloc (.cells #[.pointer (some ⟨4, 45, none⟩), .pointer (some ⟨vb, 0, none⟩), .int .u64 150] 50)).heap[b]? = some (.cells #[u, .string s] 41 (0, 0)) := by
        have hb0 := heap_lt hc
        rw [Below.heap_alloc _ _ _ (by omega), hb.block b hb0]; exact hc
      have hu : ∃ t x, u = .iface t x := by
        cases k with
        | zero => obtain ⟨b, rfl, _⟩ := hk; exact ⟨_, _, rfl⟩
        | succ k => obtain ⟨b, _, _, rfl, _⟩ := hk; exact ⟨_, _, rfl⟩
      obtain ⟨ut, ux, rfl⟩ := hu
      have HK : Aside (Chain W0 k (.iface ut ux) c l) := hk
      clear hk hc ht hv
      go_wp2_with (go_at_call 58; refine (unwrap_any b _ s _ hcw).mono ?_; rintro e w' ⟨rfl, rfl⟩)
      go_roundg k
      case measure => omega
      case rel => exact ⟨HK, rfl⟩

/-- errors.As at the variable behind T. -/
theorem as_chain (W0 w : World) (n : Nat) (v : Value) (c l : Int) (hch : Chain W0 n v c l) (hb : Below W0.heap.size W0 w)
    (ht : w.heap[W0.heap.size]? = some (.cells #[.pointer none] 36 (0, 0))) (hg : W0.cell? ⟨0, 0, none⟩ = some (.iface 62 (.agg #[.pointer (some ⟨4, 26, none⟩)]))) :
    Calls Tryd.prog 14 #[v, .iface 45 (.pointer (some ⟨W0.heap.size, 0, none⟩))] w (Found W0 c l) := by
  have h16 := @run_callFunc_extern Tryd.prog 16 _ (fun args => ReflectliteValue.unpack (args.getD 0 (.tuple #[]))) Tryd.func16 (by kernel_rfl) (by kernel_rfl) (by kernel_rfl) (by kernel_rfl)
  have h17 := @run_callFunc_extern Tryd.prog 17 _ (ReflectliteValue.methodAny (ReflectliteValue.valueError "reflectlite.Value.Type" 0) (fun t _ _ _ => ReflectliteType.toType t)) Tryd.func17 (by kernel_rfl) (by kernel_rfl) (by kernel_rfl) (by kernel_rfl)
  have h18 := @run_callFunc_extern Tryd.prog 18 _ (ReflectliteValue.method (ReflectliteValue.valueError "reflectlite.Value.IsNil" 0) ReflectliteValue.isNil) Tryd.func18 (by kernel_rfl) (by kernel_rfl) (by kernel_rfl) (by kernel_rfl)
  have h38 := @run_callFunc_extern Tryd.prog 38 _ (ReflectliteType.abiMethod fun t => do pure (.int .u8 (← Rtype.kind t))) Tryd.func38 (by kernel_rfl) (by kernel_rfl) (by kernel_rfl) (by kernel_rfl)
  have h65 := @run_callFunc_extern Tryd.prog 65 _ (ReflectliteType.method ReflectliteType.elem) Tryd.func65 (by kernel_rfl) (by kernel_rfl) (by kernel_rfl) (by kernel_rfl)
  have h66 := @run_callFunc_extern Tryd.prog 66 _ (ReflectliteType.relation "Implements" ReflectliteType.implements_) Tryd.func66 (by kernel_rfl) (by kernel_rfl) (by kernel_rfl) (by kernel_rfl)
  have f16 := valueOf45
  have f17 := type45
  have mK := methodKind
  have mE := methodElem
  have mI := methodImplements
  have k45 := kind45
  have k36 := kind36
  have e45 := elem45
  have i36 := implements36
  have htl := heap_lt ht
  have hlt : 0 < W0.heap.size := by
    rcases Nat.eq_zero_or_pos W0.heap.size with h0 | h
    · simp [World.cell?, h0] at hg
    · exact h
  have n18 := isNil45 ⟨w.heap.size, 0, none⟩ ⟨W0.heap.size, 0, none⟩ ((w.alloc (.cells #[.pointer (some ⟨W0.heap.size, 0, none⟩)] 45)).alloc (.cells #[.pointer (some ⟨4, 45, none⟩), .pointer (some ⟨w.heap.size, 0, none⟩), .int .u64 150] 50)) (by simp)
  have hg2 : ((w.alloc (.cells #[.pointer (some ⟨W0.heap.size, 0, none⟩)] 45)).alloc (.cells #[.pointer (some ⟨4, 45, none⟩), .pointer (some ⟨w.heap.size, 0, none⟩), .int .u64 150] 50)).cell? ⟨0, 0, none⟩ = some (.iface 62 (.agg #[.pointer (some ⟨4, 26, none⟩)])) := by
    rw [World.cell?_alloc_lt _ _ ⟨0, 0, none⟩ (by simp), World.cell?_alloc_lt _ _ ⟨0, 0, none⟩ (by simp; omega), hb.cell (p := ⟨0, 0, none⟩) hlt]; exact hg
  have hB : Below W0.heap.size W0 ((w.alloc (.cells #[.pointer (some ⟨W0.heap.size, 0, none⟩)] 45)).alloc (.cells #[.pointer (some ⟨4, 45, none⟩), .pointer (some ⟨w.heap.size, 0, none⟩), .int .u64 150] 50)) := (hb.alloc (by omega) _).alloc (by simp; omega) _
  have hT : ((w.alloc (.cells #[.pointer (some ⟨W0.heap.size, 0, none⟩)] 45)).alloc (.cells #[.pointer (some ⟨4, 45, none⟩), .pointer (some ⟨w.heap.size, 0, none⟩), .int .u64 150] 50)).heap[W0.heap.size]? = some (.cells #[.pointer none] 36 (0, 0)) := by
    rw [Below.heap_alloc _ _ _ (by simp; omega), Below.heap_alloc _ _ _ htl]; exact ht
  have hV : ((w.alloc (.cells #[.pointer (some ⟨W0.heap.size, 0, none⟩)] 45)).alloc (.cells #[.pointer (some ⟨4, 45, none⟩), .pointer (some ⟨w.heap.size, 0, none⟩), .int .u64 150] 50)).cell? ⟨w.heap.size, 0, none⟩ = some (.pointer (some ⟨W0.heap.size, 0, none⟩)) := by simp
  have hu : ∃ t x, v = .iface t x := by
    cases n with
    | zero => obtain ⟨b, rfl, _⟩ := hch; exact ⟨_, _, rfl⟩
    | succ k => obtain ⟨b, _, _, rfl, _⟩ := hch; exact ⟨_, _, rfl⟩
  have HC := as_loop W0 _ n v c l _ hch hB hT hV
  obtain ⟨ut, ux, rfl⟩ := hu
  clear hch hB hT hV hb ht hg
  go_enter Tryd.func14, Tryd.ntmps14
  go_wp2_with (go_at_call 19; refine HC.mono ?_; rintro e w' ⟨rfl, hq⟩)
  go_ret
  exact ⟨rfl, hq⟩
end Go.Proofs.YtmlokahphdlgiaaDoor
