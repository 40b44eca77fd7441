/- AdviceTargets of layer 13: what it comes to. -/
import Derived.Test.YtkamhamgpinhkaaL13a
import Derived.Test.YtkamhamgpinhkaaT13r
namespace Go.Proofs.Ytkamhamgpinhkaa
open Go.RowKit
set_option linter.unusedVariables false
set_option linter.unusedSimpArgs false
set_option maxHeartbeats 4000000 in
theorem AdviceTargets_walk (c : Cfg) (hc : okCfg c) (self : Int) (hs : okI self) (d : I3) (hd : okI3 d) (w : World) :
    Calls Try.prog 3 #[.agg #[.int .i64 c.nodes, .int .i64 c.blocks, .int .i64 c.tokens, .int .i64 c.sets, .int .i64 c.ways, .int .i64 c.cap, .int .i64 c.wait, .int .i64 c.tries, .int .i64 c.policy], .int .i64 self, .agg #[.int .i64 d.a, .int .i64 d.b, .int .i64 d.c]] w fun e w' => e = .returned (.bool true) ∧ Below w.heap.size w w' := by
  obtain ⟨L, hL⟩ : ∃ L, tgts c self d = L := ⟨_, rfl⟩
  have HL := hide hL
  clear hL hc hs hd
  go_enter Try.func3, Try.ntmps3
  go_wp2_with fail
  apply wp_region_loose_all mixed (fun x => ((x.cell? ⟨w.heap.size, 0, none⟩ = some (.int .i64 c.nodes) ∧ x.cell? ⟨w.heap.size, 1, none⟩ = some (.int .i64 c.blocks) ∧ x.cell? ⟨w.heap.size, 2, none⟩ = some (.int .i64 c.tokens) ∧ x.cell? ⟨w.heap.size, 3, none⟩ = some (.int .i64 c.sets) ∧ x.cell? ⟨w.heap.size, 4, none⟩ = some (.int .i64 c.ways) ∧ x.cell? ⟨w.heap.size, 5, none⟩ = some (.int .i64 c.cap) ∧ x.cell? ⟨w.heap.size, 6, none⟩ = some (.int .i64 c.wait) ∧ x.cell? ⟨w.heap.size, 7, none⟩ = some (.int .i64 c.tries) ∧ x.cell? ⟨w.heap.size, 8, none⟩ = some (.int .i64 c.policy)) ∧ (x.cell? ⟨w.heap.size + 1, 0, none⟩ = some (.int .i64 d.a) ∧ x.cell? ⟨w.heap.size + 1, 1, none⟩ = some (.int .i64 d.b) ∧ x.cell? ⟨w.heap.size + 1, 2, none⟩ = some (.int .i64 d.c))) ∧ Below w.heap.size w x ∧ w.heap.size < x.heap.size ∧ w.heap.size + 1 < x.heap.size) (by kernel_rfl) (L := [.exact _, .exact _, .exact _, .exact _, .exact _, .loose (fun v w => Sl icell 1 L v w), .exact _, .exact _, .exact _, .loose (fun v w => Sl icell 1 L v w), .exact _, .exact _, .exact _])
  case hSm => (intro w' w1 hb_1 hS; obtain ⟨c_S, b_S, z_S⟩ := hS; obtain ⟨hc_1, hf_1⟩ := bcell hb_1; have z_1 := hb_1.size; refine ⟨⟨⟨?_, ?_, ?_, ?_, ?_, ?_, ?_, ?_, ?_⟩, ⟨?_, ?_, ?_⟩⟩, ?_, ?_, ?_⟩ <;> first | omega | (first | (go_simp; done) | ((repeat' (with_reducible first | exact bl0 | apply bl4 | apply bl5 | apply bl1 | refine bl2 ?_ (by first | omega | (simp only [World.size_alloc, World.size_setCell, World.size_drew]; omega)) | refine bl3 (by assumption) ?_)); done) | (refine bl3 (by assumption) ?_; (go_simp; done)) | (simp only [World.size_alloc, World.size_drew] at *; omega)))
  case hS => (refine ⟨⟨⟨?_, ?_, ?_, ?_, ?_, ?_, ?_, ?_, ?_⟩, ⟨?_, ?_, ?_⟩⟩, ?_, ?_, ?_⟩ <;> first | omega | (first | (go_simp; done) | ((repeat' (with_reducible first | exact bl0 | apply bl4 | apply bl5 | apply bl1 | refine bl2 ?_ (by first | omega | (simp only [World.size_alloc, World.size_setCell, World.size_drew]; omega)) | refine bl3 (by assumption) ?_)); done) | (refine bl3 (by assumption) ?_; (go_simp; done)) | (simp only [World.size_alloc, World.size_drew] at *; omega)))
  case h =>
    apply Loose.exact
    case h => (intro w' hS hf; have Hf := hide hf; clear hf; unfold Does; (try go_simp); first | exact ⟨rfl, bl0⟩ | exact rfl | (simp only [Give_enter]; (first | (go_at_call 8; (with_reducible refine (awake_calls _).mono ?_)) | (go_at_call 9; obtain ⟨A5, n5, c5, rfl, r5⟩ := Hf.out 5 (by decide); obtain ⟨A9, n9, c9, rfl, r9⟩ := Hf.out 9 (by decide); (with_reducible refine (Ints_calls r5 r9).mono ?_))); rintro e w1 ⟨rfl, hb_1⟩; exact ⟨_, rfl, rfl, hb_1⟩))
    case he => (simp only [Act.put, List.setIfInBounds_toArray, List.set_cons_succ, List.set_cons_zero]; exact rfl)
    apply Loose.exact
    case h => (intro w' hS hf; have Hf := hide hf; clear hf; unfold Does; (try go_simp); first | exact ⟨rfl, bl0⟩ | exact rfl | (simp only [Give_enter]; (first | (go_at_call 8; (with_reducible refine (awake_calls _).mono ?_)) | (go_at_call 9; obtain ⟨A5, n5, c5, rfl, r5⟩ := Hf.out 5 (by decide); obtain ⟨A9, n9, c9, rfl, r9⟩ := Hf.out 9 (by decide); (with_reducible refine (Ints_calls r5 r9).mono ?_))); rintro e w1 ⟨rfl, hb_1⟩; exact ⟨_, rfl, rfl, hb_1⟩))
    case he => (simp only [Act.put, List.setIfInBounds_toArray, List.set_cons_succ, List.set_cons_zero]; exact rfl)
    apply Loose.exact
    case h => (intro w' hS hf; have Hf := hide hf; clear hf; unfold Does; (try go_simp); first | exact ⟨rfl, bl0⟩ | exact rfl | (simp only [Give_enter]; (first | (go_at_call 8; (with_reducible refine (awake_calls _).mono ?_)) | (go_at_call 9; obtain ⟨A5, n5, c5, rfl, r5⟩ := Hf.out 5 (by decide); obtain ⟨A9, n9, c9, rfl, r9⟩ := Hf.out 9 (by decide); (with_reducible refine (Ints_calls r5 r9).mono ?_))); rintro e w1 ⟨rfl, hb_1⟩; exact ⟨_, rfl, rfl, hb_1⟩))
    case he => (simp only [Act.put, List.setIfInBounds_toArray, List.set_cons_succ, List.set_cons_zero]; exact rfl)
    apply Loose.exact
    case h => (intro w' hS hf; have Hf := hide hf; clear hf; unfold Does; (try go_simp); first | exact ⟨rfl, bl0⟩ | exact rfl | (simp only [Give_enter]; (first | (go_at_call 8; (with_reducible refine (awake_calls _).mono ?_)) | (go_at_call 9; obtain ⟨A5, n5, c5, rfl, r5⟩ := Hf.out 5 (by decide); obtain ⟨A9, n9, c9, rfl, r9⟩ := Hf.out 9 (by decide); (with_reducible refine (Ints_calls r5 r9).mono ?_))); rintro e w1 ⟨rfl, hb_1⟩; exact ⟨_, rfl, rfl, hb_1⟩))
    case he => (simp only [Act.put, List.setIfInBounds_toArray, List.set_cons_succ, List.set_cons_zero]; exact rfl)
    apply Loose.exact
    case h => (intro w' hS hf; have Hf := hide hf; clear hf; unfold Does; (try go_simp); first | exact ⟨rfl, bl0⟩ | exact rfl | (simp only [Give_enter]; (first | (go_at_call 8; (with_reducible refine (awake_calls _).mono ?_)) | (go_at_call 9; obtain ⟨A5, n5, c5, rfl, r5⟩ := Hf.out 5 (by decide); obtain ⟨A9, n9, c9, rfl, r9⟩ := Hf.out 9 (by decide); (with_reducible refine (Ints_calls r5 r9).mono ?_))); rintro e w1 ⟨rfl, hb_1⟩; exact ⟨_, rfl, rfl, hb_1⟩))
    case he => (simp only [Act.put, List.setIfInBounds_toArray, List.set_cons_succ, List.set_cons_zero]; exact rfl)
    apply Loose.loose
    case hm => exact fun v w w' hb h => h.below hb
    case h => (intro w' hS hf; have Hf := hide hf; clear hf; unfold Does; (try go_simp); simp only [Give_enter]; (go_at_call 10; refine (Targets_calls c self d _).mono ?_; rw [HL.out]; rintro e w1 ⟨v, rfl, ht, hb_1⟩; exact ⟨_, rfl, ht, hb_1⟩))
    case he => (intro v; (simp only [Act.put, List.setIfInBounds_toArray, List.set_cons_succ, List.set_cons_zero]; exact rfl))
    intro v5
    apply Loose.exact
    case h => (intro w' hS hf; have Hf := hide hf; clear hf; unfold Does; (try go_simp); first | exact ⟨rfl, bl0⟩ | exact rfl | (simp only [Give_enter]; (first | (go_at_call 8; (with_reducible refine (awake_calls _).mono ?_)) | (go_at_call 9; obtain ⟨A5, n5, c5, rfl, r5⟩ := Hf.out 5 (by decide); obtain ⟨A9, n9, c9, rfl, r9⟩ := Hf.out 9 (by decide); (with_reducible refine (Ints_calls r5 r9).mono ?_))); rintro e w1 ⟨rfl, hb_1⟩; exact ⟨_, rfl, rfl, hb_1⟩))
    case he => (simp only [Act.put, List.setIfInBounds_toArray, List.set_cons_succ, List.set_cons_zero]; exact rfl)
    apply Loose.exact
    case h => (intro w' hS hf; have Hf := hide hf; clear hf; unfold Does; (try go_simp); first | exact ⟨rfl, bl0⟩ | exact rfl | (simp only [Give_enter]; (first | (go_at_call 8; (with_reducible refine (awake_calls _).mono ?_)) | (go_at_call 9; obtain ⟨A5, n5, c5, rfl, r5⟩ := Hf.out 5 (by decide); obtain ⟨A9, n9, c9, rfl, r9⟩ := Hf.out 9 (by decide); (with_reducible refine (Ints_calls r5 r9).mono ?_))); rintro e w1 ⟨rfl, hb_1⟩; exact ⟨_, rfl, rfl, hb_1⟩))
    case he => (simp only [Act.put, List.setIfInBounds_toArray, List.set_cons_succ, List.set_cons_zero]; exact rfl)
    apply Loose.exact
    case h => (intro w' hS hf; have Hf := hide hf; clear hf; unfold Does; (try go_simp); first | exact ⟨rfl, bl0⟩ | exact rfl | (simp only [Give_enter]; (first | (go_at_call 8; (with_reducible refine (awake_calls _).mono ?_)) | (go_at_call 9; obtain ⟨A5, n5, c5, rfl, r5⟩ := Hf.out 5 (by decide); obtain ⟨A9, n9, c9, rfl, r9⟩ := Hf.out 9 (by decide); (with_reducible refine (Ints_calls r5 r9).mono ?_))); rintro e w1 ⟨rfl, hb_1⟩; exact ⟨_, rfl, rfl, hb_1⟩))
    case he => (simp only [Act.put, List.setIfInBounds_toArray, List.set_cons_succ, List.set_cons_zero]; exact rfl)
    apply Loose.loose
    case hm => exact fun v w w' hb h => h.below hb
    case h => (intro w' hS hf; have Hf := hide hf; clear hf; unfold Does; (try go_simp); simp only [Give_enter]; (go_at_call 11; refine (rTargets_calls c self d _).mono ?_; rw [HL.out]; rintro e w1 ⟨v, rfl, ht, hb_1⟩; exact ⟨_, rfl, ht, hb_1⟩))
    case he => (intro v; (simp only [Act.put, List.setIfInBounds_toArray, List.set_cons_succ, List.set_cons_zero]; exact rfl))
    intro v9
    apply Loose.exact
    case h => (intro w' hS hf; have Hf := hide hf; clear hf; unfold Does; (try go_simp); first | exact ⟨rfl, bl0⟩ | exact rfl | (simp only [Give_enter]; (first | (go_at_call 8; (with_reducible refine (awake_calls _).mono ?_)) | (go_at_call 9; obtain ⟨A5, n5, c5, rfl, r5⟩ := Hf.out 5 (by decide); obtain ⟨A9, n9, c9, rfl, r9⟩ := Hf.out 9 (by decide); (with_reducible refine (Ints_calls r5 r9).mono ?_))); rintro e w1 ⟨rfl, hb_1⟩; exact ⟨_, rfl, rfl, hb_1⟩))
    case he => (simp only [Act.put, List.setIfInBounds_toArray, List.set_cons_succ, List.set_cons_zero]; exact rfl)
    apply Loose.exact
    case h => (intro w' hS hf; have Hf := hide hf; clear hf; unfold Does; (try go_simp); first | exact ⟨rfl, bl0⟩ | exact rfl | (simp only [Give_enter]; (first | (go_at_call 8; (with_reducible refine (awake_calls _).mono ?_)) | (go_at_call 9; obtain ⟨A5, n5, c5, rfl, r5⟩ := Hf.out 5 (by decide); obtain ⟨A9, n9, c9, rfl, r9⟩ := Hf.out 9 (by decide); (with_reducible refine (Ints_calls r5 r9).mono ?_))); rintro e w1 ⟨rfl, hb_1⟩; exact ⟨_, rfl, rfl, hb_1⟩))
    case he => (simp only [Act.put, List.setIfInBounds_toArray, List.set_cons_succ, List.set_cons_zero]; exact rfl)
    apply Loose.exact
    case h => (intro w' hS hf; have Hf := hide hf; clear hf; unfold Does; (try go_simp); first | exact ⟨rfl, bl0⟩ | exact rfl | (simp only [Give_enter]; (first | (go_at_call 8; (with_reducible refine (awake_calls _).mono ?_)) | (go_at_call 9; obtain ⟨A5, n5, c5, rfl, r5⟩ := Hf.out 5 (by decide); obtain ⟨A9, n9, c9, rfl, r9⟩ := Hf.out 9 (by decide); (with_reducible refine (Ints_calls r5 r9).mono ?_))); rintro e w1 ⟨rfl, hb_1⟩; exact ⟨_, rfl, rfl, hb_1⟩))
    case he => (simp only [Act.put, List.setIfInBounds_toArray, List.set_cons_succ, List.set_cons_zero]; exact rfl)
    apply Loose.nil
    intro wf hS hF
    clear hF
    apply wpList_nil
    obtain ⟨cb, bel, s1, s2⟩ := hS
    clear cb
    go_wp2
    go_ret
    (refine ⟨?_, ?_⟩; (first | rfl | (go_simp; done) | (simp; done)); (first | ((repeat' (with_reducible first | exact bl0 | apply bl4 | apply bl5 | apply bl1 | refine bl2 ?_ (by first | omega | (simp only [World.size_alloc, World.size_setCell, World.size_drew]; omega)) | refine bl3 (by assumption) ?_)); done) | (go_simp; done) | (refine bl3 (by assumption) ?_; go_simp; done)))
end Go.Proofs.Ytkamhamgpinhkaa
