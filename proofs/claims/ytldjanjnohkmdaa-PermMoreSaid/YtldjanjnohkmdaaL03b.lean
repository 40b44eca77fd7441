/- PermTells, PermStores, PermKeeps, PermMore of layer 3: what each comes to. -/
import Derived.Test.YtldjanjnohkmdaaL03a
import Derived.Deep.RegionWith
import Derived.Deep.RegionHeld3
namespace Go.Proofs.Ytldjanjnohkmdaa
open Go.RowKit
set_option linter.unusedVariables false
set_option linter.unusedSimpArgs false
set_option maxHeartbeats 2000000 in
theorem PermTells_walk (b : Bun) (hb : okBun b) (t : Int) (ht : okI t) (w : World) :
    Calls Try.prog 3 #[.agg #[.int .i64 b.c, .bool b.o, .bool b.h, .int .i64 b.d], .int .i64 t] w fun e w' => e = .returned (.bool true) ∧ Below w.heap.size w w' := by
  have h1 : rmay false b t = reads b := rfl
  have h2 : rmay true b t = writes b t := rfl
  go_enter Try.func3, Try.ntmps3
  go_wp2_with fail
  go_region_held3 (fun w' => (w'.cell? ⟨w.heap.size, 0, none⟩ = some (.int .i64 b.c) ∧ w'.cell? ⟨w.heap.size, 1, none⟩ = some (.bool b.o) ∧ w'.cell? ⟨w.heap.size, 2, none⟩ = some (.bool b.h) ∧ w'.cell? ⟨w.heap.size, 3, none⟩ = some (.int .i64 b.d)) ∧ Below w.heap.size w w' ∧ w.heap.size < w'.heap.size)
    (refine ⟨⟨?_, ?_, ?_, ?_⟩, ?_, ?_⟩ <;> (first | (go_simp; done) | ((repeat' (with_reducible first | exact bl0 | apply bl4 | apply bl5 | apply bl1 | refine bl2 ?_ (by first | omega | (simp only [World.size_alloc, World.size_setCell, World.size_drew]; omega)) | refine bl3 (by assumption) ?_)); done) | (refine bl3 (by assumption) ?_; (go_simp; done)) | (simp only [World.size_alloc, World.size_drew] at *; omega)))
    (first | (go_at_call 9; refine (awake_calls _).mono ?_; rintro e w1 ⟨rfl, hb_1⟩; obtain ⟨hc_1, hf_1⟩ := bcell hb_1; have z_1 := hb_1.size) | (go_at_call 10; refine (Reads_calls b _).mono ?_; rintro e w1 ⟨rfl, hb_1⟩; obtain ⟨hc_1, hf_1⟩ := bcell hb_1; have z_1 := hb_1.size) | (go_at_call 12; refine (Writes_calls b t _).mono ?_; rintro e w1 ⟨rfl, hb_1⟩; obtain ⟨hc_1, hf_1⟩ := bcell hb_1; have z_1 := hb_1.size) | (go_at_call 11; first | ((with_reducible refine (rMay_calls false b t _).mono ?_); rintro e w1 ⟨rfl, hb_1⟩; obtain ⟨hc_1, hf_1⟩ := bcell hb_1; have z_1 := hb_1.size) | ((with_reducible refine (rMay_calls true b t _).mono ?_); rintro e w1 ⟨rfl, hb_1⟩; obtain ⟨hc_1, hf_1⟩ := bcell hb_1; have z_1 := hb_1.size)))
  all_goals go_wp2
  go_ret
  (refine ⟨?_, ?_⟩; (first | rfl | (go_simp; done) | (simp; done)); (first | ((repeat' (with_reducible first | exact bl0 | apply bl4 | apply bl5 | apply bl1 | refine bl2 ?_ (by first | omega | (simp only [World.size_alloc, World.size_setCell, World.size_drew]; omega)) | refine bl3 (by assumption) ?_)); done) | (go_simp; done) | (refine bl3 (by assumption) ?_; go_simp; done)))
set_option maxHeartbeats 2000000 in
theorem PermStores_walk (op : Opr) (ho : okOpr op) (b : Bun) (hb : okBun b) (t : Int) (ht : okI t) (w : World) :
    Calls Try.prog 4 #[.agg #[.int .i64 op.b, .bool op.w, .int .i64 op.v], .agg #[.int .i64 b.c, .bool b.o, .bool b.h, .int .i64 b.d], .int .i64 t] w fun e w' => e = .returned (.bool true) ∧ Below w.heap.size w w' := by
  go_enter Try.func4, Try.ntmps4
  go_wp2_with (first | (go_at_call 13; refine (Do_calls op b t _).mono ?_; rintro e w1 ⟨rfl, hb_w1⟩; obtain ⟨hc_w1, hf_w1⟩ := bcell hb_w1; have z_w1 := hb_w1.size; (try simp only [World.size_alloc, World.size_setCell, World.size_drew] at z_w1); have z_w1_0 : w.heap.size < w1.heap.size := (by omega); have z_w1_1 : w.heap.size + 1 < w1.heap.size := (by omega)) | (go_at_call 14; refine (rDo_calls op b t _).mono ?_; rintro e w2 ⟨rfl, hb_w2⟩; obtain ⟨hc_w2, hf_w2⟩ := bcell hb_w2; have z_w2 := hb_w2.size; (try simp only [World.size_alloc, World.size_setCell, World.size_drew] at z_w2); have z_w2_0 : w.heap.size < w2.heap.size := (by omega); have z_w2_1 : w.heap.size + 1 < w2.heap.size := (by omega); have z_w2_9 : w1.heap.size < w2.heap.size := (by omega)) | (go_at_call 9; refine (awake_calls _).mono ?_; rintro e w3 ⟨rfl, hb_w3⟩; obtain ⟨hc_w3, hf_w3⟩ := bcell hb_w3; have z_w3 := hb_w3.size; (try simp only [World.size_alloc, World.size_setCell, World.size_drew] at z_w3); have z_w3_0 : w.heap.size < w3.heap.size := (by omega); have z_w3_1 : w.heap.size + 1 < w3.heap.size := (by omega); have z_w3_9 : w1.heap.size < w3.heap.size := (by omega); have z_w3_8 : w2.heap.size < w3.heap.size := (by omega)))
  go_ret
  (refine ⟨?_, ?_⟩; (first | rfl | (go_simp; done) | (simp; done)); (first | ((repeat' (with_reducible first | exact bl0 | apply bl4 | apply bl5 | apply bl1 | refine bl2 ?_ (by first | omega | (simp only [World.size_alloc, World.size_setCell, World.size_drew]; omega)) | refine bl3 (by assumption) ?_)); done) | (go_simp; done) | (refine bl3 (by assumption) ?_; go_simp; done)))
set_option maxHeartbeats 2000000 in
theorem PermKeeps_walk (op : Opr) (ho : okOpr op) (b : Bun) (hb : okBun b) (t : Int) (ht : okI t) (w : World) :
    Calls Try.prog 6 #[.agg #[.int .i64 op.b, .bool op.w, .int .i64 op.v], .agg #[.int .i64 b.c, .bool b.o, .bool b.h, .int .i64 b.d], .int .i64 t] w fun e w' => e = .returned (.bool true) ∧ Below w.heap.size w w' := by
  go_enter Try.func6, Try.ntmps6
  go_wp2_with fail
  refine (Do_calls op b t _).mono ?_
  rintro e w1 ⟨rfl, hb_w1⟩; obtain ⟨hc_w1, hf_w1⟩ := bcell hb_w1; have z_w1 := hb_w1.size; (try simp only [World.size_alloc, World.size_setCell, World.size_drew] at z_w1); have z_w1_0 : w.heap.size < w1.heap.size := (by omega); have z_w1_1 : w.heap.size + 1 < w1.heap.size := (by omega)
  go_wp2_with fail
  refine (Do_calls op (pdo op b t).1 t _).mono ?_
  rw [pdo_idem]
  rintro e w2 ⟨rfl, hb_w2⟩; obtain ⟨hc_w2, hf_w2⟩ := bcell hb_w2; have z_w2 := hb_w2.size; (try simp only [World.size_alloc, World.size_setCell, World.size_drew] at z_w2); have z_w2_0 : w.heap.size < w2.heap.size := (by omega); have z_w2_1 : w.heap.size + 1 < w2.heap.size := (by omega)
  have z21 : w1.heap.size < w2.heap.size := by omega
  have z22 : w1.heap.size < w2.heap.size + 1 := by omega
  have hk := pdo_keeps op b t
  have k1 : ((pdo op b t).1.c == b.c) = true := by simp [hk.1]
  have k2 : ((pdo op b t).1.o == b.o) = true := by simp [hk.2.1]
  have k3 : ((pdo op b t).1.h == b.h) = true := by simp [hk.2.2.1]
  have Hk := hide hk
  clear hk
  cases hw : op.w
  · have k4 : ((pdo op b t).1.d == b.d) = true := by simp [Hk.out.2.2.2 hw]
    go_wp2_with (go_at_call 9; refine (awake_calls _).mono ?_; rintro e w3 ⟨rfl, hb_w3⟩; obtain ⟨hc_w3, hf_w3⟩ := bcell hb_w3; have z_w3 := hb_w3.size; (try simp only [World.size_alloc, World.size_setCell, World.size_drew] at z_w3); have z_w3_0 : w.heap.size < w3.heap.size := (by omega); have z_w3_1 : w.heap.size + 1 < w3.heap.size := (by omega); have z31 : w1.heap.size < w3.heap.size := (by omega); have z32 : w2.heap.size < w3.heap.size := (by omega))
    go_ret
    (refine ⟨?_, ?_⟩; (first | rfl | (go_simp; done) | (simp; done)); (first | ((repeat' (with_reducible first | exact bl0 | apply bl4 | apply bl5 | apply bl1 | refine bl2 ?_ (by first | omega | (simp only [World.size_alloc, World.size_setCell, World.size_drew]; omega)) | refine bl3 (by assumption) ?_)); done) | (go_simp; done) | (refine bl3 (by assumption) ?_; go_simp; done)))
  · go_wp2_with (go_at_call 9; refine (awake_calls _).mono ?_; rintro e w3 ⟨rfl, hb_w3⟩; obtain ⟨hc_w3, hf_w3⟩ := bcell hb_w3; have z_w3 := hb_w3.size; (try simp only [World.size_alloc, World.size_setCell, World.size_drew] at z_w3); have z_w3_0 : w.heap.size < w3.heap.size := (by omega); have z_w3_1 : w.heap.size + 1 < w3.heap.size := (by omega); have z31 : w1.heap.size < w3.heap.size := (by omega); have z32 : w2.heap.size < w3.heap.size := (by omega))
    go_ret
    (refine ⟨?_, ?_⟩; (first | rfl | (go_simp; done) | (simp; done)); (first | ((repeat' (with_reducible first | exact bl0 | apply bl4 | apply bl5 | apply bl1 | refine bl2 ?_ (by first | omega | (simp only [World.size_alloc, World.size_setCell, World.size_drew]; omega)) | refine bl3 (by assumption) ?_)); done) | (go_simp; done) | (refine bl3 (by assumption) ?_; go_simp; done)))
end Go.Proofs.Ytldjanjnohkmdaa
