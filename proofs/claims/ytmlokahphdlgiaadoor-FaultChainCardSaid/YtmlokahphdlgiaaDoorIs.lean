/- errors.Is at a chain of wrapped faults; Code, Line, Is of package fault. -/
import Derived.Test.YtmlokahphdlgiaaDoorAs
import Derived.Deep.QuietTactic
import Derived.BigQuiet
namespace Go.Proofs.YtmlokahphdlgiaaDoor
open Go.RowKit Go.Extern.Stop Go.Stop Go.Extern

theorem code_nil (w : World) : Calls Tryd.prog 10 #[.nilIface] w fun e w' => e = .returned (.int .i64 0) ∧ Below w.heap.size w w' := by
  go_enter Tryd.func10, Tryd.ntmps10
  go_wp2_with (go_at_call 14; refine (as_nil _ _).mono ?_; rintro e w' ⟨rfl, rfl⟩)
  go_ret
  exact ⟨rfl, (Below.refl _ _).alloc (Nat.le_refl _) _⟩
theorem line_nil (w : World) : Calls Tryd.prog 11 #[.nilIface] w fun e w' => e = .returned (.int .i64 0) ∧ Below w.heap.size w w' := by
  go_enter Tryd.func11, Tryd.ntmps11
  go_wp2_with (go_at_call 14; refine (as_nil _ _).mono ?_; rintro e w' ⟨rfl, rfl⟩)
  go_ret
  exact ⟨rfl, (Below.refl _ _).alloc (Nat.le_refl _) _⟩

theorem found_cells {W0 w' : World} {c l : Int} {e : Ending} (h : Found W0 c l e w') : e = .returned (.bool true) ∧ Below W0.heap.size W0 w' ∧ ∃ b, w'.cell? ⟨W0.heap.size, 0, none⟩ = some (.pointer (some ⟨b, 0, none⟩)) ∧ w'.cell? ⟨b, 0, none⟩ = some (.int .i64 c) ∧ w'.cell? ⟨b, 1, none⟩ = some (.int .i64 l) := by
  obtain ⟨he, ⟨b, hb, hf⟩, hB⟩ := h
  have hf' := hf.below hB
  unfold FaultAt at hf'
  exact ⟨he, hB, b, by simp [World.cell?, hb], by simp [World.cell?, hf'], by simp [World.cell?, hf']⟩

theorem code_chain (n : Nat) (v : Value) (c l : Int) (w : World) (hch : Chain w n v c l) (hg : w.cell? ⟨0, 0, none⟩ = some (.iface 62 (.agg #[.pointer (some ⟨4, 26, none⟩)]))) :
    Calls Tryd.prog 10 #[v] w fun e w' => e = .returned (.int .i64 c) ∧ Below w.heap.size w w' := by
  have HC := as_chain w (w.alloc (.cells #[.pointer none] 36)) n v c l hch ((Below.refl _ _).alloc (Nat.le_refl _) _) (heap_alloc_new w _) hg
  clear hch hg
  go_enter Tryd.func10, Tryd.ntmps10
  go_wp2_with (go_at_call 14; refine HC.mono ?_; intro e w' hq; obtain ⟨rfl, hB, b, h1, h2, h3⟩ := found_cells hq)
  go_ret
  exact ⟨rfl, hB⟩
theorem line_chain (n : Nat) (v : Value) (c l : Int) (w : World) (hch : Chain w n v c l) (hg : w.cell? ⟨0, 0, none⟩ = some (.iface 62 (.agg #[.pointer (some ⟨4, 26, none⟩)]))) :
    Calls Tryd.prog 11 #[v] w fun e w' => e = .returned (.int .i64 l) ∧ Below w.heap.size w w' := by
  have HC := as_chain w (w.alloc (.cells #[.pointer none] 36)) n v c l hch ((Below.refl _ _).alloc (Nat.le_refl _) _) (heap_alloc_new w _) hg
  clear hch hg
  go_enter Tryd.func11, Tryd.ntmps11
  go_wp2_with (go_at_call 14; refine HC.mono ?_; intro e w' hq; obtain ⟨rfl, hB, b, h1, h2, h3⟩ := found_cells hq)
  go_ret
  exact ⟨rfl, hB⟩

theorem assert36 (a : Addr) (w : World) : (Instr.typeAssert (.iface 36 (.pointer (some a))) 26 36 true).run Tryd.prog w = .ok (.tuple #[.pointer (some a), .bool true]) w := by kernel_rfl
set_option maxRecDepth 100000 in
theorem faultIs (b tb : Nat) (c l c2 l2 : Int) (r : Bool) (w : World) (hr : (c2 == c) = r) (hb : FaultAt w b c l) (ht : FaultAt w tb c2 l2) :
    Calls Tryd.prog 42 #[.pointer (some ⟨b, 0, none⟩), .iface 36 (.pointer (some ⟨tb, 0, none⟩))] w fun e w' => e = .returned (.bool r) ∧ ∃ n, w' = w.drewN n := by
  have h1 : w.cell? ⟨b, 0, none⟩ = some (.int .i64 c) := by unfold FaultAt at hb; simp [World.cell?, hb]
  have h2 : w.cell? ⟨tb, 0, none⟩ = some (.int .i64 c2) := by unfold FaultAt at ht; simp [World.cell?, ht]
  clear hb ht
  have a36 := assert36
  cases r
  all_goals go_enter Tryd.func42, Tryd.ntmps42
  all_goals go_wp2
  all_goals (go_quiet (fail))
  all_goals (go_wp2)
  all_goals (go_ret)
  all_goals exact ⟨rfl, _, rfl⟩

theorem comparable36 (w : World) : (callFunc 64 #[.agg #[.pointer (some ⟨4, 36, none⟩)]]).run Tryd.prog w = .ok (.value (.bool true)) w := by
  rw [@run_callFunc_extern Tryd.prog 64 _ (ReflectliteType.method fun t => do Rtype.noPackHeld "Comparable" t; pure (.bool (← typeInfo t).comparable)) Tryd.func64 (by kernel_rfl) (by kernel_rfl) (by kernel_rfl) (by kernel_rfl)]
  kernel_rfl

set_option maxHeartbeats 4000000 in
set_option maxRecDepth 100000 in
/-- errors.is at a chain, the target a fault in another block: is the number the same? -/
theorem is_loop (W0 w : World) (n : Nat) (v : Value) (c l c2 l2 : Int) (tb : Nat) (r : Bool) (hr : (c2 == c) = r) (hch : Chain W0 n v c l) (hb : Below W0.heap.size W0 w)
    (htb : W0.heap.size ≤ tb) (ht : FaultAt w tb c2 l2) :
    Calls Tryd.prog 21 #[v, .iface 36 (.pointer (some ⟨tb, 0, none⟩)), .bool true] w fun e w' => e = .returned (.bool r) ∧ ∃ n, w' = w.drewN n := by
  have uA := unwraps39
  have nU36 := noUnwrap36
  have nUs36 := noUnwraps36
  have i36 := is36
  have nI39 := noIs39
  have mU := methodUnwrap
  have nU := nilAheadUnwrap
  have mI := methodIs
  have nI := nilAheadIs
  obtain ⟨ip, hip, hcomp⟩ := Option.map_eq_some_iff.1 (show (Tryd.prog.info? 36).map (·.comparable) = some true by kernel_rfl)
  obtain ⟨iq, hiq, hsz⟩ := Option.map_eq_some_iff.1 (show (Tryd.prog.info? 38).map (·.size) = some 2 by kernel_rfl)
  have hne39 : ∀ (a : Value) (W : World), (binOp .eql 26 (.iface 39 a) (.iface 36 (.pointer (some ⟨tb, 0, none⟩)))).run Tryd.prog W = .ok (.bool false) W := fun a W =>
    run_eql_iface_types 39 36 a (.pointer (some ⟨tb, 0, none⟩)) Tryd.underlying26 (by decide) W
  go_enter Tryd.func21, Tryd.ntmps21
  go_wp2
  go_loopg [0] n (fun k u wr => Aside (Chain W0 k u c l ∧ wr = w))
  case atStart => exact ⟨hch, rfl⟩
  case round =>
    obtain ⟨hk, hw⟩ := hrel.out
    clear hrel
    subst hw
    cases gk with
    | zero =>
      obtain ⟨b, rfl, hf⟩ := hk
      have hfw := hf.below hb
      have hlt : b < W0.heap.size := heap_lt hf
      have hq : (binOp .eql 26 (.iface 36 (.pointer (some ⟨b, 0, none⟩))) (.iface 36 (.pointer (some ⟨tb, 0, none⟩)))).run Tryd.prog wr = .ok (.bool false) wr :=
        run_eql_iface_ptr_other wr Tryd.underlying26 Tryd.underlying36 hip hcomp hiq (by rw [hsz]; decide) (by intro h; injection h with h; omega) hfw ht
      have HI := faultIs b tb c l c2 l2 r wr hr hfw ht
      clear hf hfw ht hip hiq hcomp hsz hch hr hb
      cases r
      · go_wp2_with (go_at_call 42; refine HI.mono ?_; rintro e w' ⟨rfl, nd, rfl⟩)
        go_ret
        exact ⟨rfl, _, rfl⟩
      · go_wp2_with (go_at_call 42; refine HI.mono ?_; rintro e w' ⟨rfl, nd, rfl⟩)
        go_ret
        exact ⟨rfl, _, rfl⟩
    | succ k =>
      obtain ⟨b, u, s, rfl, hc, hk⟩ := hk
      have hcw : wr.heap[b]? = some (.cells #[u, .string s] 41 (0, 0)) := by
        rw [hb.block b (heap_lt hc)]; exact hc
      have hu : ∃ t x, u = .iface t x := by
        cases k with
        | zero => obtain ⟨b, rfl, _⟩ := hk; exact ⟨_, _, rfl⟩
        | succ k => obtain ⟨b, _, _, rfl, _⟩ := hk; exact ⟨_, _, rfl⟩
      obtain ⟨ut, ux, rfl⟩ := hu
      have HK : Aside (Chain W0 k (.iface ut ux) c l) := hk
      clear hk hc ht hip hiq hcomp hsz hch hr
      go_wp2_with (go_at_call 58; refine (unwrap_any b _ s _ hcw).mono ?_; rintro e w' ⟨rfl, rfl⟩)
      go_roundg k
      case measure => omega
      case rel => exact ⟨HK, rfl⟩

theorem below_draws {B : Nat} {w W : World} (h : Below B w W) (n : Nat) : Below B w (W.drewN n) := ⟨h.os, h.tape, h.output, h.size, h.block⟩
set_option maxRecDepth 100000 in
theorem is_nil (u : Value) (t : TypeId) (w : World) : Calls Tryd.prog 15 #[.nilIface, .iface t u] w fun e w' => e = .returned (.bool false) ∧ w = w' := by
  have hn : ∀ W : World, (binOp .eql 26 .nilIface (.iface t u)).run Tryd.prog W = .ok (.bool false) W := fun W => run_eql_iface_nil_left W t u Tryd.underlying26
  go_enter Tryd.func15, Tryd.ntmps15
  go_wp2
  go_ret
  exact ⟨rfl, rfl⟩
set_option maxRecDepth 100000 in
set_option maxHeartbeats 1000000 in
theorem is_chain (W0 w : World) (n : Nat) (v : Value) (c l c2 l2 : Int) (tb : Nat) (r : Bool) (hr : (c2 == c) = r) (hch : Chain W0 n v c l) (hb : Below W0.heap.size W0 w)
    (htb : W0.heap.size ≤ tb) (ht : FaultAt w tb c2 l2) :
    Calls Tryd.prog 15 #[v, .iface 36 (.pointer (some ⟨tb, 0, none⟩))] w fun e w' => e = .returned (.bool r) ∧ ∃ n, w' = w.drewN n := by
  have h20 := @run_callFunc_extern Tryd.prog 20 _ ReflectliteType.typeOf Tryd.func20 (by kernel_rfl) (by kernel_rfl) (by kernel_rfl) (by kernel_rfl)
  have tO := typeOf36
  have c64 := comparable36
  have mC := methodComparable
  have HC := is_loop W0 w n v c l c2 l2 tb r hr hch hb htb ht
  have hu : ∃ t x, v = .iface t x := by
    cases n with
    | zero => obtain ⟨b, rfl, _⟩ := hch; exact ⟨_, _, rfl⟩
    | succ k => obtain ⟨b, _, _, rfl, _⟩ := hch; exact ⟨_, _, rfl⟩
  obtain ⟨ut, ux, rfl⟩ := hu
  clear hr hch hb ht
  go_enter Tryd.func15, Tryd.ntmps15
  go_wp2_with (go_at_call 21; refine HC.mono ?_; rintro e w' ⟨rfl, nd, rfl⟩)
  go_ret
  exact ⟨rfl, _, rfl⟩

/-- fault.Is: of OK, of nil, of a chain. -/
theorem fis_ok (v : Value) (w : World) : Calls Tryd.prog 12 #[v, .int .i64 0] w fun e w' => e = .returned (.bool false) ∧ Below w.heap.size w w' := by
  go_enter Tryd.func12, Tryd.ntmps12
  go_wp2
  go_ret
  exact ⟨rfl, Below.refl _ _⟩
theorem fis_nil (c : Int) (hc : (c == 0) = false) (w : World) : Calls Tryd.prog 12 #[.nilIface, .int .i64 c] w fun e w' => e = .returned (.bool false) ∧ Below w.heap.size w w' := by
  have hc' : (c != 0) = true := by simp [bne, hc]
  go_enter Tryd.func12, Tryd.ntmps12
  go_wp2_with (first | (go_at_call 6; refine (new_err _ _ _ hc).mono ?_; rintro e w' ⟨rfl, rfl⟩) | (go_at_call 15; refine (is_nil _ _ _).mono ?_; rintro e w' ⟨rfl, rfl⟩))
  go_ret
  exact ⟨rfl, (Below.refl _ _).alloc (Nat.le_refl _) _⟩
theorem fis_chain (n : Nat) (v : Value) (c l o : Int) (r : Bool) (ho : (o == 0) = false) (hr : (o == c) = r) (w : World) (hch : Chain w n v c l) :
    Calls Tryd.prog 12 #[v, .int .i64 o] w fun e w' => e = .returned (.bool r) ∧ Below w.heap.size w w' := by
  have ho' : (o != 0) = true := by simp [bne, ho]
  have HC := is_chain w (w.alloc (.cells #[.int .i64 o, .int .i64 0] 38)) n v c l o 0 w.heap.size r hr hch ((Below.refl _ _).alloc (Nat.le_refl _) _) (Nat.le_refl _) (heap_alloc_new w _)
  clear hch hr
  go_enter Tryd.func12, Tryd.ntmps12
  go_wp2_with (first | (go_at_call 6; refine (new_err _ _ _ ho).mono ?_; rintro e w' ⟨rfl, rfl⟩) | (go_at_call 15; refine HC.mono ?_; rintro e w' ⟨rfl, nd, rfl⟩))
  go_ret
  exact ⟨rfl, below_draws ((Below.refl _ _).alloc (Nat.le_refl _) _) _⟩
end Go.Proofs.YtmlokahphdlgiaaDoor
