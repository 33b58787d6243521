/- The walk of FaultChain: whatever the numbers, it answers true. -/
import Derived.Test.YtmlokahphdlgiaaDoorAwake
namespace Go.Proofs.YtmlokahphdlgiaaDoor
open Go.RowKit Go.Extern.Stop Go.Stop Go.Extern

theorem fis_nil_any (o : Int) (w : World) : Calls Tryd.prog 12 #[.nilIface, .int .i64 o] w fun e w' => e = .returned (.bool false) ∧ Below w.heap.size w w' := by
  by_cases h : o = 0
  · subst h; exact fis_ok _ _
  · exact fis_nil o (by simpa using h) w

set_option maxRecDepth 100000 in
set_option maxHeartbeats 1000000 in
theorem law_ok (other line t : Int) (w : World) (hg : TypeVar w) (ht0 : 0 ≤ t) (ht1 : t ≤ 255) :
    Calls Tryd.prog 4 #[.int .i64 0, .int .i64 other, .int .i64 line, .int .u8 t] w fun e w' => e = .returned (.bool true) ∧ Below w.heap.size w w' := by
  obtain ⟨T, hT⟩ : ∃ T : Nat, t % 40 = T := ⟨(t % 40).toNat, by omega⟩
  go_enter Tryd.func4, Tryd.ntmps4
  go_wp2_with (go_at_call 5; refine (awake_any _ hg).mono ?_; rintro e w1 ⟨rfl, hb0⟩)
  refine (new_ok _ _).mono ?_
  rintro e w2 ⟨rfl, rfl⟩
  go_wp2_with fail
  go_loopw [9, 10] (fun v i wr => ∃ k : Nat, k ≤ T ∧ i = .int .i64 k ∧ v = .nilIface ∧ Below w.heap.size w wr) (fun _ i _ => T - (intOf i).toNat)
  case atStart => exact ⟨0, Nat.zero_le _, rfl, rfl, hb0⟩
  case round =>
    obtain ⟨k, hk, rfl, rfl, hbr⟩ := hrel
    by_cases hlt : k < T
    · go_wp2_with (go_at_call 7; refine (wrap_nil _ _).mono ?_; rintro e w3 ⟨rfl, rfl⟩)
      go_roundw
      case rel => exact ⟨k + 1, by omega, by go_num, rfl, hbr⟩
      case measure => simp [intOf]; omega
    · by_cases ho : other = 0
      · subst ho
        go_wp2_with fail
        refine (code_nil _).mono ?_
        rintro e w3 ⟨rfl, hb3⟩
        go_wp2_with fail
        refine (line_nil _).mono ?_
        rintro e w4 ⟨rfl, hb4⟩
        go_wp2_with fail
        refine (fis_nil_any _ _).mono ?_
        rintro e w5 ⟨rfl, hb5⟩
        go_wp2_with fail
        refine (fis_nil_any _ _).mono ?_
        rintro e w6 ⟨rfl, hb6⟩
        go_wp2_with fail
        refine (fis_nil_any _ _).mono ?_
        rintro e w7 ⟨rfl, hb7⟩
        go_wp2_with fail
        refine (code_nil _).mono ?_
        rintro e w8 ⟨rfl, hb8⟩
        go_wp2_with fail
        refine (line_nil _).mono ?_
        rintro e w9 ⟨rfl, hb9⟩
        go_wp2_with fail
        go_ret
        exact ⟨rfl, later (later (later (later (later (later (later hbr hb3) hb4) hb5) hb6) hb7) hb8) hb9⟩
      · have ho1 : ((0 : Int) == other) = false := by simpa using fun h => ho h.symm
        go_wp2_with fail
        refine (code_nil _).mono ?_
        rintro e w3 ⟨rfl, hb3⟩
        go_wp2_with fail
        refine (line_nil _).mono ?_
        rintro e w4 ⟨rfl, hb4⟩
        go_wp2_with fail
        refine (fis_nil_any _ _).mono ?_
        rintro e w5 ⟨rfl, hb5⟩
        go_wp2_with fail
        refine (fis_nil_any _ _).mono ?_
        rintro e w6 ⟨rfl, hb6⟩
        go_wp2_with fail
        refine (fis_nil_any _ _).mono ?_
        rintro e w7 ⟨rfl, hb7⟩
        go_wp2_with fail
        refine (code_nil _).mono ?_
        rintro e w8 ⟨rfl, hb8⟩
        go_wp2_with fail
        refine (line_nil _).mono ?_
        rintro e w9 ⟨rfl, hb9⟩
        go_wp2_with fail
        go_ret
        exact ⟨rfl, later (later (later (later (later (later (later hbr hb3) hb4) hb5) hb6) hb7) hb8) hb9⟩

theorem chain_wrap {W : World} {n : Nat} {v : Value} {c l : Int} (s : ByteArray) (h : Chain W n v c l) : ∃ t x, v = .iface t x ∧ Chain (W.alloc (.cells #[v, .string s] 41)) (n + 1) (.iface 39 (.pointer (some ⟨W.heap.size, 0, none⟩))) c l := by
  have hu : ∃ t x, v = .iface t x := by
    cases n with
    | zero => obtain ⟨b, rfl, _⟩ := h; exact ⟨_, _, rfl⟩
    | succ k => obtain ⟨b, _, _, rfl, _⟩ := h; exact ⟨_, _, rfl⟩
  obtain ⟨t, x, rfl⟩ := hu
  exact ⟨t, x, rfl, _, _, _, rfl, heap_alloc_new W _, h.below ((Below.refl _ _).alloc (Nat.le_refl _) _)⟩

/-- What the tail asks of Is for the other number, by its answer. -/
theorem fis_other (W w : World) (n : Nat) (v : Value) (c l o : Int) (hc : (c == 0) = false) (hch : Chain W n v c l) (hb : Below W.heap.size W w) :
    Calls Tryd.prog 12 #[v, .int .i64 o] w fun e w' => e = .returned (.bool (c == o)) ∧ Below W.heap.size W w' := by
  by_cases h : o = 0
  · subst h
    rw [hc]
    exact (fis_ok v w).mono fun _ _ ⟨h1, h2⟩ => ⟨h1, later hb h2⟩
  · exact fis_at W w n v c l o (c == o) (by simpa using h) (Bool.eq_iff_iff.2 ⟨fun h => by simpa using (by simpa using h : o = c).symm, fun h => by simpa using (by simpa using h : c = o).symm⟩) hch hb

set_option maxRecDepth 100000 in
set_option maxHeartbeats 1000000 in
theorem law_err (code other line t : Int) (w : World) (hg : TypeVar w) (hc : (code == 0) = false) (ht0 : 0 ≤ t) (ht1 : t ≤ 255) :
    Calls Tryd.prog 4 #[.int .i64 code, .int .i64 other, .int .i64 line, .int .u8 t] w fun e w' => e = .returned (.bool true) ∧ Below w.heap.size w w' := by
  obtain ⟨T, hT⟩ : ∃ T : Nat, t % 40 = T := ⟨(t % 40).toNat, by omega⟩
  have hc' : (code != 0) = true := by simp [bne, hc]
  go_enter Tryd.func4, Tryd.ntmps4
  go_wp2_with (go_at_call 5; refine (awake_any _ hg).mono ?_; rintro e w1 ⟨rfl, hb0⟩)
  refine (new_err _ _ _ hc).mono ?_
  rintro e w2 ⟨rfl, rfl⟩
  have hb1 : Below w.heap.size w (w1.alloc (.cells #[.int .i64 code, .int .i64 line] 38)) := hb0.alloc hb0.size _
  have hch0 : Chain (w1.alloc (.cells #[.int .i64 code, .int .i64 line] 38)) 0 (.iface 36 (.pointer (some ⟨w1.heap.size, 0, none⟩))) code line := ⟨_, rfl, heap_alloc_new w1 _⟩
  go_wp2_with fail
  go_loopw [9, 10] (fun v i wr => ∃ k : Nat, k ≤ T ∧ i = .int .i64 k ∧ Chain wr k v code line ∧ Below w.heap.size w wr) (fun _ i _ => T - (intOf i).toNat)
  case atStart => exact ⟨0, Nat.zero_le _, rfl, hch0, hb1⟩
  case round =>
    obtain ⟨k, hk, rfl, hch, hbr⟩ := hrel
    clear hch0 hb1
    by_cases hlt : k < T
    · obtain ⟨ut, ux, rfl, hch1⟩ := chain_wrap ⟨#[120]⟩ hch
      have hb2 : Below w.heap.size w (wr.alloc (.cells #[.iface ut ux, .string ⟨#[120]⟩] 41)) := hbr.alloc hbr.size _
      go_wp2_with (go_at_call 7; refine (wrap_some _ _ _ _).mono ?_; rintro e w3 ⟨rfl, rfl⟩)
      go_roundw
      case rel => exact ⟨k + 1, by omega, by go_num, hch1, hb2⟩
      case measure => simp [intOf]; omega
    · have hg2 := hg.below hbr
      have hb3 := Below.refl wr.heap.size wr
      by_cases ho : code = other
      · subst ho
        go_wp2_with fail
        refine (code_at _ _ _ _ _ _ hch hg2 hb3).mono ?_
        rintro e w3 ⟨rfl, hb4⟩
        go_wp2_with fail
        refine (line_at _ _ _ _ _ _ hch hg2 hb4).mono ?_
        rintro e w4 ⟨rfl, hb5⟩
        go_wp2_with fail
        refine (fis_at _ _ _ _ _ _ _ true hc (by simp) hch hb5).mono ?_
        rintro e w5 ⟨rfl, hb6⟩
        go_wp2_with fail
        refine (fis_at _ _ _ _ _ _ _ true hc (by simp) hch hb6).mono ?_
        rintro e w6 ⟨rfl, hb7⟩
        go_wp2_with fail
        refine (fis_nil_any _ _).mono ?_
        rintro e w7 ⟨rfl, hb8⟩
        go_wp2_with fail
        refine (code_nil _).mono ?_
        rintro e w8 ⟨rfl, hb9⟩
        go_wp2_with fail
        refine (line_nil _).mono ?_
        rintro e w9 ⟨rfl, hb10⟩
        go_wp2_with fail
        go_ret
        exact ⟨rfl, later (later (later (later hbr hb7) hb8) hb9) hb10⟩
      · have ho1 : (code == other) = false := by simpa using ho
        have ho2 : ∀ (v : Value) (W : World), Chain wr k v code line → Below wr.heap.size wr W → Calls Tryd.prog 12 #[v, .int .i64 other] W fun e w' => e = .returned (.bool false) ∧ Below wr.heap.size wr w' := fun v W h1 h2 => by
          have := fis_other wr W k v code line other hc h1 h2
          rwa [ho1] at this
        go_wp2_with fail
        refine (code_at _ _ _ _ _ _ hch hg2 hb3).mono ?_
        rintro e w3 ⟨rfl, hb4⟩
        go_wp2_with fail
        refine (line_at _ _ _ _ _ _ hch hg2 hb4).mono ?_
        rintro e w4 ⟨rfl, hb5⟩
        go_wp2_with fail
        refine (fis_at _ _ _ _ _ _ _ true hc (by simp) hch hb5).mono ?_
        rintro e w5 ⟨rfl, hb6⟩
        go_wp2_with fail
        refine (ho2 _ _ hch hb6).mono ?_
        rintro e w6 ⟨rfl, hb7⟩
        go_wp2_with fail
        refine (fis_nil_any _ _).mono ?_
        rintro e w7 ⟨rfl, hb8⟩
        go_wp2_with fail
        refine (code_nil _).mono ?_
        rintro e w8 ⟨rfl, hb9⟩
        go_wp2_with fail
        refine (line_nil _).mono ?_
        rintro e w9 ⟨rfl, hb10⟩
        go_wp2_with fail
        go_ret
        exact ⟨rfl, later (later (later (later hbr hb7) hb8) hb9) hb10⟩
end Go.Proofs.YtmlokahphdlgiaaDoor
