/- PermMore of layer 3: what it comes to. -/
import Derived.Test.YtldjanjnohkmdaaL03b
namespace Go.Proofs.Ytldjanjnohkmdaa
open Go.RowKit
set_option linter.unusedVariables false
set_option linter.unusedSimpArgs false
theorem right_nonneg {b : Bun} (h : bcheck b (max b.c 0) = 0) : 0 ≤ b.c ∧ (b.h = false → b.o = false ∧ b.d = 0) ∧ (b.c = 0 → b.o = false ∧ b.h = false ∧ b.d = 0) := by
  obtain ⟨c, o, hs, d⟩ := b
  unfold bcheck at h
  cases o <;> cases hs <;> simp at h ⊢ <;> omega
theorem join_nums {a b : Bun} (h1 : 0 ≤ a.c) (h2 : a.c ≤ 1099511627776) (h3 : 0 ≤ b.c) (h4 : b.c ≤ 1099511627776) : wrap64 (a.c + b.c) = a.c + b.c := by
  unfold wrap64; omega
set_option maxHeartbeats 4000000 in
/-- The test ahead says no: the answer is awake's. -/
theorem PermMore_out (b m : Bun) (t : Int) (w : World) (hx : 1099511627776 < b.c ∨ 1099511627776 < m.c ∨ ¬ bcheck b (max b.c 0) = 0 ∨ ¬ bcheck m (max m.c 0) = 0) :
    Calls Try.prog 7 #[.agg #[.int .i64 b.c, .bool b.o, .bool b.h, .int .i64 b.d], .agg #[.int .i64 m.c, .bool m.o, .bool m.h, .int .i64 m.d], .int .i64 t] w fun e w' => e = .returned (.bool true) ∧ Below w.heap.size w w' := by
  have hmb : (b.c < 0 ∧ max b.c 0 = 0) ∨ (0 ≤ b.c ∧ max b.c 0 = b.c) := by omega
  have hmm : (m.c < 0 ∧ max m.c 0 = 0) ∨ (0 ≤ m.c ∧ max m.c 0 = m.c) := by omega
  obtain ⟨p, hp⟩ : ∃ p, p = decide (bcheck b (max b.c 0) = 0) := ⟨_, rfl⟩
  obtain ⟨q, hq⟩ : ∃ q, q = decide (bcheck m (max m.c 0) = 0) := ⟨_, rfl⟩
  have Hx : Hid ((1099511627776 < b.c ∨ 1099511627776 < m.c) ∨ p = false ∨ q = false) := by
    show (1099511627776 < b.c ∨ 1099511627776 < m.c) ∨ p = false ∨ q = false
    rw [hp, hq]
    simp only [decide_eq_false_iff_not]
    rcases hx with h | h | h | h <;> simp [h]
  clear hx
  rcases hmb with ⟨sb, eb⟩ | ⟨sb, eb⟩ <;> rcases hmm with ⟨sm, em⟩ | ⟨sm, em⟩
  all_goals
    rw [eb] at hp
    rw [em] at hq
    have Hp := hide hp
    have Hq := hide hq
    clear eb em hp hq
    rcases Hx.out with (h1 | h1) | h1 | h1
    all_goals
      clear Hx
      first
        | (exfalso; omega)
        | (try subst h1
           go_enter Try.func7, Try.ntmps7
           go_wp2_with (first | (go_at_call 9; refine (awake_calls _).mono ?_; rintro e w1 ⟨rfl, hb_w1⟩; obtain ⟨hc_w1, hf_w1⟩ := bcell hb_w1; have z_w1 := hb_w1.size; (try simp only [World.size_alloc, World.size_setCell, World.size_drew] at z_w1); have z_w1_0 : w.heap.size < w1.heap.size := (by omega); have z_w1_1 : w.heap.size + 1 < w1.heap.size := (by omega)) | (go_at_call 15; first | ((with_reducible refine (rRight_calls b _ _).mono ?_); rw [← Hp.out]; rintro e w2 ⟨rfl, hb_w2⟩; obtain ⟨hc_w2, hf_w2⟩ := bcell hb_w2; have z_w2 := hb_w2.size; (try simp only [World.size_alloc, World.size_setCell, World.size_drew] at z_w2); have z_w2_0 : w.heap.size < w2.heap.size := (by omega); have z_w2_1 : w.heap.size + 1 < w2.heap.size := (by omega)) | ((with_reducible refine (rRight_calls m _ _).mono ?_); rw [← Hq.out]; rintro e w3 ⟨rfl, hb_w3⟩; obtain ⟨hc_w3, hf_w3⟩ := bcell hb_w3; have z_w3 := hb_w3.size; (try simp only [World.size_alloc, World.size_setCell, World.size_drew] at z_w3); have z_w3_0 : w.heap.size < w3.heap.size := (by omega); have z_w3_1 : w.heap.size + 1 < w3.heap.size := (by omega))))
           all_goals
             go_ret
             (refine ⟨?_, ?_⟩; (first | rfl | (go_simp; done) | (simp; done)); (first | ((repeat' (with_reducible first | exact bl0 | apply bl4 | apply bl5 | apply bl1 | refine bl2 ?_ (by first | omega | (simp only [World.size_alloc, World.size_setCell, World.size_drew]; omega)) | refine bl3 (by assumption) ?_)); done) | (go_simp; done) | (refine bl3 (by assumption) ?_; go_simp; done))))
theorem okN (b : Bun) : okBun b → -9223372036854775808 ≤ b.c := fun h => h.1.1
set_option maxHeartbeats 8000000 in
/-- The test ahead says yes. -/
theorem PermMore_in (c1 : Int) (o1 h1 : Bool) (d1 : Int) (c2 : Int) (o2 h2 : Bool) (d2 : Int) (t : Int) (w : World) (p1 : 0 ≤ c1) (p2 : c1 ≤ 1099511627776) (p3 : 0 ≤ c2) (p4 : c2 ≤ 1099511627776) (r1 : bcheck ⟨c1, o1, h1, d1⟩ c1 = 0) (r2 : bcheck ⟨c2, o2, h2, d2⟩ c2 = 0)
    (q1 : h1 = true → 1 ≤ c1) (q2 : h2 = true → 1 ≤ c2) :
    Calls Try.prog 7 #[.agg #[.int .i64 c1, .bool o1, .bool h1, .int .i64 d1], .agg #[.int .i64 c2, .bool o2, .bool h2, .int .i64 d2], .int .i64 t] w fun e w' => e = .returned (.bool true) ∧ Below w.heap.size w w' := by
  have R1 := hide r1
  have R2 := hide r2
  clear r1 r2
  obtain ⟨j, hj⟩ : ∃ j, j = join ⟨c1, o1, h1, d1⟩ ⟨c2, o2, h2, d2⟩ := ⟨_, rfl⟩
  have jc : j.c = c1 + c2 := by rw [hj]; exact join_nums (a := ⟨c1, o1, h1, d1⟩) (b := ⟨c2, o2, h2, d2⟩) p1 p2 p3 p4
  have jh : j.h = (h1 || h2) := by rw [hj]; rfl
  have k1 : reads ⟨c1, o1, h1, d1⟩ = h1 := by cases h1 <;> simp [reads]; exact q1 rfl
  have k2 : h1 = true → reads j = true := by intro h; simp only [reads, jc, jh, h]; have := q1 h; simp; omega
  have k3 : writes j t = ((h1 || h2) && (decide (c1 + c2 = t)) && decide (0 < t)) := by
    simp only [writes, reads, jc, jh]
    cases h1 <;> cases h2 <;> simp
    all_goals (by_cases e : c1 + c2 = t <;> simp [e]; first | omega | (have := q1 rfl; omega) | (have := q2 rfl; omega))
  have kw : wrap64 (c1 + c2) = c1 + c2 := by unfold wrap64; omega
  have J := hide hj
  have K1 := hide k1
  have K2 := hide k2
  have K3 := hide k3
  clear hj jc jh k1 k2 k3 kw q1 q2
  have n1 : ¬ (1099511627776 < c1) := by omega
  have n2 : ¬ (1099511627776 < c2) := by omega
  go_enter Try.func7, Try.ntmps7
  go_upto_region 4 with (first | (go_at_call 9; refine (awake_calls _).mono ?_; rintro e w1 ⟨rfl, hb_w1⟩; obtain ⟨hc_w1, hf_w1⟩ := bcell hb_w1; have z_w1 := hb_w1.size; (try simp only [World.size_alloc, World.size_setCell, World.size_drew] at z_w1); have z_w1_0 : w.heap.size < w1.heap.size := (by omega); have z_w1_1 : w.heap.size + 1 < w1.heap.size := (by omega)) | (go_at_call 15; first | ((with_reducible refine (rRight_calls ⟨c1, o1, h1, d1⟩ _ _).mono ?_); rw [R1.out]; rintro e w2 ⟨rfl, hb_w2⟩; obtain ⟨hc_w2, hf_w2⟩ := bcell hb_w2; have z_w2 := hb_w2.size; (try simp only [World.size_alloc, World.size_setCell, World.size_drew] at z_w2); have z_w2_0 : w.heap.size < w2.heap.size := (by omega); have z_w2_1 : w.heap.size + 1 < w2.heap.size := (by omega)) | ((with_reducible refine (rRight_calls ⟨c2, o2, h2, d2⟩ _ _).mono ?_); rw [R2.out]; rintro e w3 ⟨rfl, hb_w3⟩; obtain ⟨hc_w3, hf_w3⟩ := bcell hb_w3; have z_w3 := hb_w3.size; (try simp only [World.size_alloc, World.size_setCell, World.size_drew] at z_w3); have z_w3_0 : w.heap.size < w3.heap.size := (by omega); have z_w3_1 : w.heap.size + 1 < w3.heap.size := (by omega))) | (go_at_call 16; refine (Join_calls ⟨c1, o1, h1, d1⟩ ⟨c2, o2, h2, d2⟩ _).mono ?_; rw [← J.out]; rintro e w4 ⟨rfl, hb_w4⟩; obtain ⟨hc_w4, hf_w4⟩ := bcell hb_w4; have z_w4 := hb_w4.size; (try simp only [World.size_alloc, World.size_setCell, World.size_drew] at z_w4); have z_w4_0 : w.heap.size < w4.heap.size := (by omega); have z_w4_1 : w.heap.size + 1 < w4.heap.size := (by omega)))
  have kw : wrap64 (c1 + c2) = c1 + c2 := by unfold wrap64; omega
  cases h1 <;> cases h2 <;> by_cases ht : c1 + c2 = t <;> by_cases t0 : 0 < t
  · subst ht
    have k3' : writes j (c1 + c2) = false := by rw [K3.out]; simp [t0]
    have k1' : reads ⟨c1, o1, false, d1⟩ = false := K1.out
    have k2' : True := trivial
    have kw : IntKind.i64.wrap (c1 + c2) = c1 + c2 := IntWalk.i64_in _ (by omega)
    refine wp_region_free_all mixed (fun w' => ((w'.cell? ⟨w.heap.size, 0, none⟩ = some (.int .i64 c1) ∧ w'.cell? ⟨w.heap.size, 1, none⟩ = some (.bool o1) ∧ w'.cell? ⟨w.heap.size, 2, none⟩ = some (.bool false) ∧ w'.cell? ⟨w.heap.size, 3, none⟩ = some (.int .i64 d1)) ∧ (w'.cell? ⟨w.heap.size + 1, 0, none⟩ = some (.int .i64 c2) ∧ w'.cell? ⟨w.heap.size + 1, 1, none⟩ = some (.bool o2) ∧ w'.cell? ⟨w.heap.size + 1, 2, none⟩ = some (.bool false) ∧ w'.cell? ⟨w.heap.size + 1, 3, none⟩ = some (.int .i64 d2)) ∧ (w'.cell? ⟨w4.heap.size, 0, none⟩ = some (.int .i64 j.c) ∧ w'.cell? ⟨w4.heap.size, 1, none⟩ = some (.bool j.o) ∧ w'.cell? ⟨w4.heap.size, 2, none⟩ = some (.bool j.h) ∧ w'.cell? ⟨w4.heap.size, 3, none⟩ = some (.int .i64 j.d))) ∧ Below w.heap.size w w' ∧ w.heap.size < w'.heap.size ∧ w.heap.size + 1 < w'.heap.size ∧ w4.heap.size < w'.heap.size) (by kernel_rfl) ?_ ?_
    · refine ⟨⟨⟨?_, ?_, ?_, ?_⟩, ⟨?_, ?_, ?_, ?_⟩, ⟨?_, ?_, ?_, ?_⟩⟩, ?_, ?_, ?_, ?_⟩ <;> first | omega | (first | (go_simp; done) | ((repeat' (with_reducible first | exact bl0 | apply bl4 | apply bl5 | apply bl1 | refine bl2 ?_ (by first | omega | (simp only [World.size_alloc, World.size_setCell, World.size_drew]; omega)) | refine bl3 (by assumption) ?_)); done) | (refine bl3 (by assumption) ?_; (go_simp; done)) | (simp only [World.size_alloc, World.size_drew] at *; omega))
    repeat (apply Free.next; (case h => (intro w' hS; unfold Does; (try go_simp); first | exact ⟨rfl, hS⟩ | exact rfl | (simp only [Give_enter]; obtain ⟨c_S, b_S, z_S⟩ := hS; (first | (go_at_call 10; first | ((with_reducible refine (Reads_calls ⟨c1, o1, false, d1⟩ _).mono ?_)) | ((with_reducible refine (Reads_calls j _).mono ?_))) | (go_at_call 12; (with_reducible refine (Writes_calls j _ _).mono ?_))); rintro e w1 ⟨rfl, hb_1⟩; obtain ⟨hc_1, hf_1⟩ := bcell hb_1; have z_1 := hb_1.size; refine ⟨_, rfl, rfl, ⟨⟨?_, ?_, ?_, ?_⟩, ⟨?_, ?_, ?_, ?_⟩, ⟨?_, ?_, ?_, ?_⟩⟩, ?_, ?_, ?_, ?_⟩ <;> first | omega | (first | (go_simp; done) | ((repeat' (with_reducible first | exact bl0 | apply bl4 | apply bl5 | apply bl1 | refine bl2 ?_ (by first | omega | (simp only [World.size_alloc, World.size_setCell, World.size_drew]; omega)) | refine bl3 (by assumption) ?_)); done) | (refine bl3 (by assumption) ?_; (go_simp; done)) | (simp only [World.size_alloc, World.size_drew] at *; omega))))); case he => (simp only [Act.put, List.setIfInBounds_toArray, List.set_cons_succ, List.set_cons_zero]; exact rfl))
    apply Free.nil
    intro wf hS
    apply wpList_nil
    go_wp2
    go_ret
    refine ⟨ret_bool ?_, hS.2.1⟩
    simp [Act.put, k1', k2', k3', t0]
  · subst ht
    have k3' : writes j (c1 + c2) = false := by rw [K3.out]; simp [t0]
    have k1' : reads ⟨c1, o1, false, d1⟩ = false := K1.out
    have k2' : True := trivial
    have kw : IntKind.i64.wrap (c1 + c2) = c1 + c2 := IntWalk.i64_in _ (by omega)
    refine wp_region_free_all mixed (fun w' => ((w'.cell? ⟨w.heap.size, 0, none⟩ = some (.int .i64 c1) ∧ w'.cell? ⟨w.heap.size, 1, none⟩ = some (.bool o1) ∧ w'.cell? ⟨w.heap.size, 2, none⟩ = some (.bool false) ∧ w'.cell? ⟨w.heap.size, 3, none⟩ = some (.int .i64 d1)) ∧ (w'.cell? ⟨w.heap.size + 1, 0, none⟩ = some (.int .i64 c2) ∧ w'.cell? ⟨w.heap.size + 1, 1, none⟩ = some (.bool o2) ∧ w'.cell? ⟨w.heap.size + 1, 2, none⟩ = some (.bool false) ∧ w'.cell? ⟨w.heap.size + 1, 3, none⟩ = some (.int .i64 d2)) ∧ (w'.cell? ⟨w4.heap.size, 0, none⟩ = some (.int .i64 j.c) ∧ w'.cell? ⟨w4.heap.size, 1, none⟩ = some (.bool j.o) ∧ w'.cell? ⟨w4.heap.size, 2, none⟩ = some (.bool j.h) ∧ w'.cell? ⟨w4.heap.size, 3, none⟩ = some (.int .i64 j.d))) ∧ Below w.heap.size w w' ∧ w.heap.size < w'.heap.size ∧ w.heap.size + 1 < w'.heap.size ∧ w4.heap.size < w'.heap.size) (by kernel_rfl) ?_ ?_
    · refine ⟨⟨⟨?_, ?_, ?_, ?_⟩, ⟨?_, ?_, ?_, ?_⟩, ⟨?_, ?_, ?_, ?_⟩⟩, ?_, ?_, ?_, ?_⟩ <;> first | omega | (first | (go_simp; done) | ((repeat' (with_reducible first | exact bl0 | apply bl4 | apply bl5 | apply bl1 | refine bl2 ?_ (by first | omega | (simp only [World.size_alloc, World.size_setCell, World.size_drew]; omega)) | refine bl3 (by assumption) ?_)); done) | (refine bl3 (by assumption) ?_; (go_simp; done)) | (simp only [World.size_alloc, World.size_drew] at *; omega))
    repeat (apply Free.next; (case h => (intro w' hS; unfold Does; (try go_simp); first | exact ⟨rfl, hS⟩ | exact rfl | (simp only [Give_enter]; obtain ⟨c_S, b_S, z_S⟩ := hS; (first | (go_at_call 10; first | ((with_reducible refine (Reads_calls ⟨c1, o1, false, d1⟩ _).mono ?_)) | ((with_reducible refine (Reads_calls j _).mono ?_))) | (go_at_call 12; (with_reducible refine (Writes_calls j _ _).mono ?_))); rintro e w1 ⟨rfl, hb_1⟩; obtain ⟨hc_1, hf_1⟩ := bcell hb_1; have z_1 := hb_1.size; refine ⟨_, rfl, rfl, ⟨⟨?_, ?_, ?_, ?_⟩, ⟨?_, ?_, ?_, ?_⟩, ⟨?_, ?_, ?_, ?_⟩⟩, ?_, ?_, ?_, ?_⟩ <;> first | omega | (first | (go_simp; done) | ((repeat' (with_reducible first | exact bl0 | apply bl4 | apply bl5 | apply bl1 | refine bl2 ?_ (by first | omega | (simp only [World.size_alloc, World.size_setCell, World.size_drew]; omega)) | refine bl3 (by assumption) ?_)); done) | (refine bl3 (by assumption) ?_; (go_simp; done)) | (simp only [World.size_alloc, World.size_drew] at *; omega))))); case he => (simp only [Act.put, List.setIfInBounds_toArray, List.set_cons_succ, List.set_cons_zero]; exact rfl))
    apply Free.nil
    intro wf hS
    apply wpList_nil
    go_wp2
    go_ret
    refine ⟨ret_bool ?_, hS.2.1⟩
    simp [Act.put, k1', k2', k3', t0]
  · have k3' : writes j t = false := by rw [K3.out]; simp [ht, t0]
    have k1' : reads ⟨c1, o1, false, d1⟩ = false := K1.out
    have k2' : True := trivial
    have kw : IntKind.i64.wrap (c1 + c2) = c1 + c2 := IntWalk.i64_in _ (by omega)
    refine wp_region_free_all mixed (fun w' => ((w'.cell? ⟨w.heap.size, 0, none⟩ = some (.int .i64 c1) ∧ w'.cell? ⟨w.heap.size, 1, none⟩ = some (.bool o1) ∧ w'.cell? ⟨w.heap.size, 2, none⟩ = some (.bool false) ∧ w'.cell? ⟨w.heap.size, 3, none⟩ = some (.int .i64 d1)) ∧ (w'.cell? ⟨w.heap.size + 1, 0, none⟩ = some (.int .i64 c2) ∧ w'.cell? ⟨w.heap.size + 1, 1, none⟩ = some (.bool o2) ∧ w'.cell? ⟨w.heap.size + 1, 2, none⟩ = some (.bool false) ∧ w'.cell? ⟨w.heap.size + 1, 3, none⟩ = some (.int .i64 d2)) ∧ (w'.cell? ⟨w4.heap.size, 0, none⟩ = some (.int .i64 j.c) ∧ w'.cell? ⟨w4.heap.size, 1, none⟩ = some (.bool j.o) ∧ w'.cell? ⟨w4.heap.size, 2, none⟩ = some (.bool j.h) ∧ w'.cell? ⟨w4.heap.size, 3, none⟩ = some (.int .i64 j.d))) ∧ Below w.heap.size w w' ∧ w.heap.size < w'.heap.size ∧ w.heap.size + 1 < w'.heap.size ∧ w4.heap.size < w'.heap.size) (by kernel_rfl) ?_ ?_
    · refine ⟨⟨⟨?_, ?_, ?_, ?_⟩, ⟨?_, ?_, ?_, ?_⟩, ⟨?_, ?_, ?_, ?_⟩⟩, ?_, ?_, ?_, ?_⟩ <;> first | omega | (first | (go_simp; done) | ((repeat' (with_reducible first | exact bl0 | apply bl4 | apply bl5 | apply bl1 | refine bl2 ?_ (by first | omega | (simp only [World.size_alloc, World.size_setCell, World.size_drew]; omega)) | refine bl3 (by assumption) ?_)); done) | (refine bl3 (by assumption) ?_; (go_simp; done)) | (simp only [World.size_alloc, World.size_drew] at *; omega))
    repeat (apply Free.next; (case h => (intro w' hS; unfold Does; (try go_simp); first | exact ⟨rfl, hS⟩ | exact rfl | (simp only [Give_enter]; obtain ⟨c_S, b_S, z_S⟩ := hS; (first | (go_at_call 10; first | ((with_reducible refine (Reads_calls ⟨c1, o1, false, d1⟩ _).mono ?_)) | ((with_reducible refine (Reads_calls j _).mono ?_))) | (go_at_call 12; (with_reducible refine (Writes_calls j _ _).mono ?_))); rintro e w1 ⟨rfl, hb_1⟩; obtain ⟨hc_1, hf_1⟩ := bcell hb_1; have z_1 := hb_1.size; refine ⟨_, rfl, rfl, ⟨⟨?_, ?_, ?_, ?_⟩, ⟨?_, ?_, ?_, ?_⟩, ⟨?_, ?_, ?_, ?_⟩⟩, ?_, ?_, ?_, ?_⟩ <;> first | omega | (first | (go_simp; done) | ((repeat' (with_reducible first | exact bl0 | apply bl4 | apply bl5 | apply bl1 | refine bl2 ?_ (by first | omega | (simp only [World.size_alloc, World.size_setCell, World.size_drew]; omega)) | refine bl3 (by assumption) ?_)); done) | (refine bl3 (by assumption) ?_; (go_simp; done)) | (simp only [World.size_alloc, World.size_drew] at *; omega))))); case he => (simp only [Act.put, List.setIfInBounds_toArray, List.set_cons_succ, List.set_cons_zero]; exact rfl))
    apply Free.nil
    intro wf hS
    apply wpList_nil
    go_wp2
    go_ret
    refine ⟨ret_bool ?_, hS.2.1⟩
    simp [Act.put, k1', k2', k3', ht, t0]
  · have k3' : writes j t = false := by rw [K3.out]; simp [ht, t0]
    have k1' : reads ⟨c1, o1, false, d1⟩ = false := K1.out
    have k2' : True := trivial
    have kw : IntKind.i64.wrap (c1 + c2) = c1 + c2 := IntWalk.i64_in _ (by omega)
    refine wp_region_free_all mixed (fun w' => ((w'.cell? ⟨w.heap.size, 0, none⟩ = some (.int .i64 c1) ∧ w'.cell? ⟨w.heap.size, 1, none⟩ = some (.bool o1) ∧ w'.cell? ⟨w.heap.size, 2, none⟩ = some (.bool false) ∧ w'.cell? ⟨w.heap.size, 3, none⟩ = some (.int .i64 d1)) ∧ (w'.cell? ⟨w.heap.size + 1, 0, none⟩ = some (.int .i64 c2) ∧ w'.cell? ⟨w.heap.size + 1, 1, none⟩ = some (.bool o2) ∧ w'.cell? ⟨w.heap.size + 1, 2, none⟩ = some (.bool false) ∧ w'.cell? ⟨w.heap.size + 1, 3, none⟩ = some (.int .i64 d2)) ∧ (w'.cell? ⟨w4.heap.size, 0, none⟩ = some (.int .i64 j.c) ∧ w'.cell? ⟨w4.heap.size, 1, none⟩ = some (.bool j.o) ∧ w'.cell? ⟨w4.heap.size, 2, none⟩ = some (.bool j.h) ∧ w'.cell? ⟨w4.heap.size, 3, none⟩ = some (.int .i64 j.d))) ∧ Below w.heap.size w w' ∧ w.heap.size < w'.heap.size ∧ w.heap.size + 1 < w'.heap.size ∧ w4.heap.size < w'.heap.size) (by kernel_rfl) ?_ ?_
    · refine ⟨⟨⟨?_, ?_, ?_, ?_⟩, ⟨?_, ?_, ?_, ?_⟩, ⟨?_, ?_, ?_, ?_⟩⟩, ?_, ?_, ?_, ?_⟩ <;> first | omega | (first | (go_simp; done) | ((repeat' (with_reducible first | exact bl0 | apply bl4 | apply bl5 | apply bl1 | refine bl2 ?_ (by first | omega | (simp only [World.size_alloc, World.size_setCell, World.size_drew]; omega)) | refine bl3 (by assumption) ?_)); done) | (refine bl3 (by assumption) ?_; (go_simp; done)) | (simp only [World.size_alloc, World.size_drew] at *; omega))
    repeat (apply Free.next; (case h => (intro w' hS; unfold Does; (try go_simp); first | exact ⟨rfl, hS⟩ | exact rfl | (simp only [Give_enter]; obtain ⟨c_S, b_S, z_S⟩ := hS; (first | (go_at_call 10; first | ((with_reducible refine (Reads_calls ⟨c1, o1, false, d1⟩ _).mono ?_)) | ((with_reducible refine (Reads_calls j _).mono ?_))) | (go_at_call 12; (with_reducible refine (Writes_calls j _ _).mono ?_))); rintro e w1 ⟨rfl, hb_1⟩; obtain ⟨hc_1, hf_1⟩ := bcell hb_1; have z_1 := hb_1.size; refine ⟨_, rfl, rfl, ⟨⟨?_, ?_, ?_, ?_⟩, ⟨?_, ?_, ?_, ?_⟩, ⟨?_, ?_, ?_, ?_⟩⟩, ?_, ?_, ?_, ?_⟩ <;> first | omega | (first | (go_simp; done) | ((repeat' (with_reducible first | exact bl0 | apply bl4 | apply bl5 | apply bl1 | refine bl2 ?_ (by first | omega | (simp only [World.size_alloc, World.size_setCell, World.size_drew]; omega)) | refine bl3 (by assumption) ?_)); done) | (refine bl3 (by assumption) ?_; (go_simp; done)) | (simp only [World.size_alloc, World.size_drew] at *; omega))))); case he => (simp only [Act.put, List.setIfInBounds_toArray, List.set_cons_succ, List.set_cons_zero]; exact rfl))
    apply Free.nil
    intro wf hS
    apply wpList_nil
    go_wp2
    go_ret
    refine ⟨ret_bool ?_, hS.2.1⟩
    simp [Act.put, k1', k2', k3', ht, t0]
  · subst ht
    have k3' : writes j (c1 + c2) = true := by rw [K3.out]; simp [t0]
    have k1' : reads ⟨c1, o1, false, d1⟩ = false := K1.out
    have k2' : True := trivial
    have kw : IntKind.i64.wrap (c1 + c2) = c1 + c2 := IntWalk.i64_in _ (by omega)
    refine wp_region_free_all mixed (fun w' => ((w'.cell? ⟨w.heap.size, 0, none⟩ = some (.int .i64 c1) ∧ w'.cell? ⟨w.heap.size, 1, none⟩ = some (.bool o1) ∧ w'.cell? ⟨w.heap.size, 2, none⟩ = some (.bool false) ∧ w'.cell? ⟨w.heap.size, 3, none⟩ = some (.int .i64 d1)) ∧ (w'.cell? ⟨w.heap.size + 1, 0, none⟩ = some (.int .i64 c2) ∧ w'.cell? ⟨w.heap.size + 1, 1, none⟩ = some (.bool o2) ∧ w'.cell? ⟨w.heap.size + 1, 2, none⟩ = some (.bool true) ∧ w'.cell? ⟨w.heap.size + 1, 3, none⟩ = some (.int .i64 d2)) ∧ (w'.cell? ⟨w4.heap.size, 0, none⟩ = some (.int .i64 j.c) ∧ w'.cell? ⟨w4.heap.size, 1, none⟩ = some (.bool j.o) ∧ w'.cell? ⟨w4.heap.size, 2, none⟩ = some (.bool j.h) ∧ w'.cell? ⟨w4.heap.size, 3, none⟩ = some (.int .i64 j.d))) ∧ Below w.heap.size w w' ∧ w.heap.size < w'.heap.size ∧ w.heap.size + 1 < w'.heap.size ∧ w4.heap.size < w'.heap.size) (by kernel_rfl) ?_ ?_
    · refine ⟨⟨⟨?_, ?_, ?_, ?_⟩, ⟨?_, ?_, ?_, ?_⟩, ⟨?_, ?_, ?_, ?_⟩⟩, ?_, ?_, ?_, ?_⟩ <;> first | omega | (first | (go_simp; done) | ((repeat' (with_reducible first | exact bl0 | apply bl4 | apply bl5 | apply bl1 | refine bl2 ?_ (by first | omega | (simp only [World.size_alloc, World.size_setCell, World.size_drew]; omega)) | refine bl3 (by assumption) ?_)); done) | (refine bl3 (by assumption) ?_; (go_simp; done)) | (simp only [World.size_alloc, World.size_drew] at *; omega))
    repeat (apply Free.next; (case h => (intro w' hS; unfold Does; (try go_simp); first | exact ⟨rfl, hS⟩ | exact rfl | (simp only [Give_enter]; obtain ⟨c_S, b_S, z_S⟩ := hS; (first | (go_at_call 10; first | ((with_reducible refine (Reads_calls ⟨c1, o1, false, d1⟩ _).mono ?_)) | ((with_reducible refine (Reads_calls j _).mono ?_))) | (go_at_call 12; (with_reducible refine (Writes_calls j _ _).mono ?_))); rintro e w1 ⟨rfl, hb_1⟩; obtain ⟨hc_1, hf_1⟩ := bcell hb_1; have z_1 := hb_1.size; refine ⟨_, rfl, rfl, ⟨⟨?_, ?_, ?_, ?_⟩, ⟨?_, ?_, ?_, ?_⟩, ⟨?_, ?_, ?_, ?_⟩⟩, ?_, ?_, ?_, ?_⟩ <;> first | omega | (first | (go_simp; done) | ((repeat' (with_reducible first | exact bl0 | apply bl4 | apply bl5 | apply bl1 | refine bl2 ?_ (by first | omega | (simp only [World.size_alloc, World.size_setCell, World.size_drew]; omega)) | refine bl3 (by assumption) ?_)); done) | (refine bl3 (by assumption) ?_; (go_simp; done)) | (simp only [World.size_alloc, World.size_drew] at *; omega))))); case he => (simp only [Act.put, List.setIfInBounds_toArray, List.set_cons_succ, List.set_cons_zero]; exact rfl))
    apply Free.nil
    intro wf hS
    apply wpList_nil
    go_wp2
    go_ret
    refine ⟨ret_bool ?_, hS.2.1⟩
    simp [Act.put, k1', k2', k3', t0]
  · subst ht
    have k3' : writes j (c1 + c2) = false := by rw [K3.out]; simp [t0]
    have k1' : reads ⟨c1, o1, false, d1⟩ = false := K1.out
    have k2' : True := trivial
    have kw : IntKind.i64.wrap (c1 + c2) = c1 + c2 := IntWalk.i64_in _ (by omega)
    refine wp_region_free_all mixed (fun w' => ((w'.cell? ⟨w.heap.size, 0, none⟩ = some (.int .i64 c1) ∧ w'.cell? ⟨w.heap.size, 1, none⟩ = some (.bool o1) ∧ w'.cell? ⟨w.heap.size, 2, none⟩ = some (.bool false) ∧ w'.cell? ⟨w.heap.size, 3, none⟩ = some (.int .i64 d1)) ∧ (w'.cell? ⟨w.heap.size + 1, 0, none⟩ = some (.int .i64 c2) ∧ w'.cell? ⟨w.heap.size + 1, 1, none⟩ = some (.bool o2) ∧ w'.cell? ⟨w.heap.size + 1, 2, none⟩ = some (.bool true) ∧ w'.cell? ⟨w.heap.size + 1, 3, none⟩ = some (.int .i64 d2)) ∧ (w'.cell? ⟨w4.heap.size, 0, none⟩ = some (.int .i64 j.c) ∧ w'.cell? ⟨w4.heap.size, 1, none⟩ = some (.bool j.o) ∧ w'.cell? ⟨w4.heap.size, 2, none⟩ = some (.bool j.h) ∧ w'.cell? ⟨w4.heap.size, 3, none⟩ = some (.int .i64 j.d))) ∧ Below w.heap.size w w' ∧ w.heap.size < w'.heap.size ∧ w.heap.size + 1 < w'.heap.size ∧ w4.heap.size < w'.heap.size) (by kernel_rfl) ?_ ?_
    · refine ⟨⟨⟨?_, ?_, ?_, ?_⟩, ⟨?_, ?_, ?_, ?_⟩, ⟨?_, ?_, ?_, ?_⟩⟩, ?_, ?_, ?_, ?_⟩ <;> first | omega | (first | (go_simp; done) | ((repeat' (with_reducible first | exact bl0 | apply bl4 | apply bl5 | apply bl1 | refine bl2 ?_ (by first | omega | (simp only [World.size_alloc, World.size_setCell, World.size_drew]; omega)) | refine bl3 (by assumption) ?_)); done) | (refine bl3 (by assumption) ?_; (go_simp; done)) | (simp only [World.size_alloc, World.size_drew] at *; omega))
    repeat (apply Free.next; (case h => (intro w' hS; unfold Does; (try go_simp); first | exact ⟨rfl, hS⟩ | exact rfl | (simp only [Give_enter]; obtain ⟨c_S, b_S, z_S⟩ := hS; (first | (go_at_call 10; first | ((with_reducible refine (Reads_calls ⟨c1, o1, false, d1⟩ _).mono ?_)) | ((with_reducible refine (Reads_calls j _).mono ?_))) | (go_at_call 12; (with_reducible refine (Writes_calls j _ _).mono ?_))); rintro e w1 ⟨rfl, hb_1⟩; obtain ⟨hc_1, hf_1⟩ := bcell hb_1; have z_1 := hb_1.size; refine ⟨_, rfl, rfl, ⟨⟨?_, ?_, ?_, ?_⟩, ⟨?_, ?_, ?_, ?_⟩, ⟨?_, ?_, ?_, ?_⟩⟩, ?_, ?_, ?_, ?_⟩ <;> first | omega | (first | (go_simp; done) | ((repeat' (with_reducible first | exact bl0 | apply bl4 | apply bl5 | apply bl1 | refine bl2 ?_ (by first | omega | (simp only [World.size_alloc, World.size_setCell, World.size_drew]; omega)) | refine bl3 (by assumption) ?_)); done) | (refine bl3 (by assumption) ?_; (go_simp; done)) | (simp only [World.size_alloc, World.size_drew] at *; omega))))); case he => (simp only [Act.put, List.setIfInBounds_toArray, List.set_cons_succ, List.set_cons_zero]; exact rfl))
    apply Free.nil
    intro wf hS
    apply wpList_nil
    go_wp2
    go_ret
    refine ⟨ret_bool ?_, hS.2.1⟩
    simp [Act.put, k1', k2', k3', t0]
  · have k3' : writes j t = false := by rw [K3.out]; simp [ht, t0]
    have k1' : reads ⟨c1, o1, false, d1⟩ = false := K1.out
    have k2' : True := trivial
    have kw : IntKind.i64.wrap (c1 + c2) = c1 + c2 := IntWalk.i64_in _ (by omega)
    refine wp_region_free_all mixed (fun w' => ((w'.cell? ⟨w.heap.size, 0, none⟩ = some (.int .i64 c1) ∧ w'.cell? ⟨w.heap.size, 1, none⟩ = some (.bool o1) ∧ w'.cell? ⟨w.heap.size, 2, none⟩ = some (.bool false) ∧ w'.cell? ⟨w.heap.size, 3, none⟩ = some (.int .i64 d1)) ∧ (w'.cell? ⟨w.heap.size + 1, 0, none⟩ = some (.int .i64 c2) ∧ w'.cell? ⟨w.heap.size + 1, 1, none⟩ = some (.bool o2) ∧ w'.cell? ⟨w.heap.size + 1, 2, none⟩ = some (.bool true) ∧ w'.cell? ⟨w.heap.size + 1, 3, none⟩ = some (.int .i64 d2)) ∧ (w'.cell? ⟨w4.heap.size, 0, none⟩ = some (.int .i64 j.c) ∧ w'.cell? ⟨w4.heap.size, 1, none⟩ = some (.bool j.o) ∧ w'.cell? ⟨w4.heap.size, 2, none⟩ = some (.bool j.h) ∧ w'.cell? ⟨w4.heap.size, 3, none⟩ = some (.int .i64 j.d))) ∧ Below w.heap.size w w' ∧ w.heap.size < w'.heap.size ∧ w.heap.size + 1 < w'.heap.size ∧ w4.heap.size < w'.heap.size) (by kernel_rfl) ?_ ?_
    · refine ⟨⟨⟨?_, ?_, ?_, ?_⟩, ⟨?_, ?_, ?_, ?_⟩, ⟨?_, ?_, ?_, ?_⟩⟩, ?_, ?_, ?_, ?_⟩ <;> first | omega | (first | (go_simp; done) | ((repeat' (with_reducible first | exact bl0 | apply bl4 | apply bl5 | apply bl1 | refine bl2 ?_ (by first | omega | (simp only [World.size_alloc, World.size_setCell, World.size_drew]; omega)) | refine bl3 (by assumption) ?_)); done) | (refine bl3 (by assumption) ?_; (go_simp; done)) | (simp only [World.size_alloc, World.size_drew] at *; omega))
    repeat (apply Free.next; (case h => (intro w' hS; unfold Does; (try go_simp); first | exact ⟨rfl, hS⟩ | exact rfl | (simp only [Give_enter]; obtain ⟨c_S, b_S, z_S⟩ := hS; (first | (go_at_call 10; first | ((with_reducible refine (Reads_calls ⟨c1, o1, false, d1⟩ _).mono ?_)) | ((with_reducible refine (Reads_calls j _).mono ?_))) | (go_at_call 12; (with_reducible refine (Writes_calls j _ _).mono ?_))); rintro e w1 ⟨rfl, hb_1⟩; obtain ⟨hc_1, hf_1⟩ := bcell hb_1; have z_1 := hb_1.size; refine ⟨_, rfl, rfl, ⟨⟨?_, ?_, ?_, ?_⟩, ⟨?_, ?_, ?_, ?_⟩, ⟨?_, ?_, ?_, ?_⟩⟩, ?_, ?_, ?_, ?_⟩ <;> first | omega | (first | (go_simp; done) | ((repeat' (with_reducible first | exact bl0 | apply bl4 | apply bl5 | apply bl1 | refine bl2 ?_ (by first | omega | (simp only [World.size_alloc, World.size_setCell, World.size_drew]; omega)) | refine bl3 (by assumption) ?_)); done) | (refine bl3 (by assumption) ?_; (go_simp; done)) | (simp only [World.size_alloc, World.size_drew] at *; omega))))); case he => (simp only [Act.put, List.setIfInBounds_toArray, List.set_cons_succ, List.set_cons_zero]; exact rfl))
    apply Free.nil
    intro wf hS
    apply wpList_nil
    go_wp2
    go_ret
    refine ⟨ret_bool ?_, hS.2.1⟩
    simp [Act.put, k1', k2', k3', ht, t0]
  · have k3' : writes j t = false := by rw [K3.out]; simp [ht, t0]
    have k1' : reads ⟨c1, o1, false, d1⟩ = false := K1.out
    have k2' : True := trivial
    have kw : IntKind.i64.wrap (c1 + c2) = c1 + c2 := IntWalk.i64_in _ (by omega)
    refine wp_region_free_all mixed (fun w' => ((w'.cell? ⟨w.heap.size, 0, none⟩ = some (.int .i64 c1) ∧ w'.cell? ⟨w.heap.size, 1, none⟩ = some (.bool o1) ∧ w'.cell? ⟨w.heap.size, 2, none⟩ = some (.bool false) ∧ w'.cell? ⟨w.heap.size, 3, none⟩ = some (.int .i64 d1)) ∧ (w'.cell? ⟨w.heap.size + 1, 0, none⟩ = some (.int .i64 c2) ∧ w'.cell? ⟨w.heap.size + 1, 1, none⟩ = some (.bool o2) ∧ w'.cell? ⟨w.heap.size + 1, 2, none⟩ = some (.bool true) ∧ w'.cell? ⟨w.heap.size + 1, 3, none⟩ = some (.int .i64 d2)) ∧ (w'.cell? ⟨w4.heap.size, 0, none⟩ = some (.int .i64 j.c) ∧ w'.cell? ⟨w4.heap.size, 1, none⟩ = some (.bool j.o) ∧ w'.cell? ⟨w4.heap.size, 2, none⟩ = some (.bool j.h) ∧ w'.cell? ⟨w4.heap.size, 3, none⟩ = some (.int .i64 j.d))) ∧ Below w.heap.size w w' ∧ w.heap.size < w'.heap.size ∧ w.heap.size + 1 < w'.heap.size ∧ w4.heap.size < w'.heap.size) (by kernel_rfl) ?_ ?_
    · refine ⟨⟨⟨?_, ?_, ?_, ?_⟩, ⟨?_, ?_, ?_, ?_⟩, ⟨?_, ?_, ?_, ?_⟩⟩, ?_, ?_, ?_, ?_⟩ <;> first | omega | (first | (go_simp; done) | ((repeat' (with_reducible first | exact bl0 | apply bl4 | apply bl5 | apply bl1 | refine bl2 ?_ (by first | omega | (simp only [World.size_alloc, World.size_setCell, World.size_drew]; omega)) | refine bl3 (by assumption) ?_)); done) | (refine bl3 (by assumption) ?_; (go_simp; done)) | (simp only [World.size_alloc, World.size_drew] at *; omega))
    repeat (apply Free.next; (case h => (intro w' hS; unfold Does; (try go_simp); first | exact ⟨rfl, hS⟩ | exact rfl | (simp only [Give_enter]; obtain ⟨c_S, b_S, z_S⟩ := hS; (first | (go_at_call 10; first | ((with_reducible refine (Reads_calls ⟨c1, o1, false, d1⟩ _).mono ?_)) | ((with_reducible refine (Reads_calls j _).mono ?_))) | (go_at_call 12; (with_reducible refine (Writes_calls j _ _).mono ?_))); rintro e w1 ⟨rfl, hb_1⟩; obtain ⟨hc_1, hf_1⟩ := bcell hb_1; have z_1 := hb_1.size; refine ⟨_, rfl, rfl, ⟨⟨?_, ?_, ?_, ?_⟩, ⟨?_, ?_, ?_, ?_⟩, ⟨?_, ?_, ?_, ?_⟩⟩, ?_, ?_, ?_, ?_⟩ <;> first | omega | (first | (go_simp; done) | ((repeat' (with_reducible first | exact bl0 | apply bl4 | apply bl5 | apply bl1 | refine bl2 ?_ (by first | omega | (simp only [World.size_alloc, World.size_setCell, World.size_drew]; omega)) | refine bl3 (by assumption) ?_)); done) | (refine bl3 (by assumption) ?_; (go_simp; done)) | (simp only [World.size_alloc, World.size_drew] at *; omega))))); case he => (simp only [Act.put, List.setIfInBounds_toArray, List.set_cons_succ, List.set_cons_zero]; exact rfl))
    apply Free.nil
    intro wf hS
    apply wpList_nil
    go_wp2
    go_ret
    refine ⟨ret_bool ?_, hS.2.1⟩
    simp [Act.put, k1', k2', k3', ht, t0]
  · subst ht
    have k3' : writes j (c1 + c2) = true := by rw [K3.out]; simp [t0]
    have k1' : reads ⟨c1, o1, true, d1⟩ = true := K1.out
    have k2' : reads j = true := K2.out rfl
    have kw : IntKind.i64.wrap (c1 + c2) = c1 + c2 := IntWalk.i64_in _ (by omega)
    refine wp_region_free_all mixed (fun w' => ((w'.cell? ⟨w.heap.size, 0, none⟩ = some (.int .i64 c1) ∧ w'.cell? ⟨w.heap.size, 1, none⟩ = some (.bool o1) ∧ w'.cell? ⟨w.heap.size, 2, none⟩ = some (.bool true) ∧ w'.cell? ⟨w.heap.size, 3, none⟩ = some (.int .i64 d1)) ∧ (w'.cell? ⟨w.heap.size + 1, 0, none⟩ = some (.int .i64 c2) ∧ w'.cell? ⟨w.heap.size + 1, 1, none⟩ = some (.bool o2) ∧ w'.cell? ⟨w.heap.size + 1, 2, none⟩ = some (.bool false) ∧ w'.cell? ⟨w.heap.size + 1, 3, none⟩ = some (.int .i64 d2)) ∧ (w'.cell? ⟨w4.heap.size, 0, none⟩ = some (.int .i64 j.c) ∧ w'.cell? ⟨w4.heap.size, 1, none⟩ = some (.bool j.o) ∧ w'.cell? ⟨w4.heap.size, 2, none⟩ = some (.bool j.h) ∧ w'.cell? ⟨w4.heap.size, 3, none⟩ = some (.int .i64 j.d))) ∧ Below w.heap.size w w' ∧ w.heap.size < w'.heap.size ∧ w.heap.size + 1 < w'.heap.size ∧ w4.heap.size < w'.heap.size) (by kernel_rfl) ?_ ?_
    · refine ⟨⟨⟨?_, ?_, ?_, ?_⟩, ⟨?_, ?_, ?_, ?_⟩, ⟨?_, ?_, ?_, ?_⟩⟩, ?_, ?_, ?_, ?_⟩ <;> first | omega | (first | (go_simp; done) | ((repeat' (with_reducible first | exact bl0 | apply bl4 | apply bl5 | apply bl1 | refine bl2 ?_ (by first | omega | (simp only [World.size_alloc, World.size_setCell, World.size_drew]; omega)) | refine bl3 (by assumption) ?_)); done) | (refine bl3 (by assumption) ?_; (go_simp; done)) | (simp only [World.size_alloc, World.size_drew] at *; omega))
    repeat (apply Free.next; (case h => (intro w' hS; unfold Does; (try go_simp); first | exact ⟨rfl, hS⟩ | exact rfl | (simp only [Give_enter]; obtain ⟨c_S, b_S, z_S⟩ := hS; (first | (go_at_call 10; first | ((with_reducible refine (Reads_calls ⟨c1, o1, true, d1⟩ _).mono ?_)) | ((with_reducible refine (Reads_calls j _).mono ?_))) | (go_at_call 12; (with_reducible refine (Writes_calls j _ _).mono ?_))); rintro e w1 ⟨rfl, hb_1⟩; obtain ⟨hc_1, hf_1⟩ := bcell hb_1; have z_1 := hb_1.size; refine ⟨_, rfl, rfl, ⟨⟨?_, ?_, ?_, ?_⟩, ⟨?_, ?_, ?_, ?_⟩, ⟨?_, ?_, ?_, ?_⟩⟩, ?_, ?_, ?_, ?_⟩ <;> first | omega | (first | (go_simp; done) | ((repeat' (with_reducible first | exact bl0 | apply bl4 | apply bl5 | apply bl1 | refine bl2 ?_ (by first | omega | (simp only [World.size_alloc, World.size_setCell, World.size_drew]; omega)) | refine bl3 (by assumption) ?_)); done) | (refine bl3 (by assumption) ?_; (go_simp; done)) | (simp only [World.size_alloc, World.size_drew] at *; omega))))); case he => (simp only [Act.put, List.setIfInBounds_toArray, List.set_cons_succ, List.set_cons_zero]; exact rfl))
    apply Free.nil
    intro wf hS
    apply wpList_nil
    go_wp2
    go_ret
    refine ⟨ret_bool ?_, hS.2.1⟩
    simp [Act.put, k1', k2', k3', t0]
  · subst ht
    have k3' : writes j (c1 + c2) = false := by rw [K3.out]; simp [t0]
    have k1' : reads ⟨c1, o1, true, d1⟩ = true := K1.out
    have k2' : reads j = true := K2.out rfl
    have kw : IntKind.i64.wrap (c1 + c2) = c1 + c2 := IntWalk.i64_in _ (by omega)
    refine wp_region_free_all mixed (fun w' => ((w'.cell? ⟨w.heap.size, 0, none⟩ = some (.int .i64 c1) ∧ w'.cell? ⟨w.heap.size, 1, none⟩ = some (.bool o1) ∧ w'.cell? ⟨w.heap.size, 2, none⟩ = some (.bool true) ∧ w'.cell? ⟨w.heap.size, 3, none⟩ = some (.int .i64 d1)) ∧ (w'.cell? ⟨w.heap.size + 1, 0, none⟩ = some (.int .i64 c2) ∧ w'.cell? ⟨w.heap.size + 1, 1, none⟩ = some (.bool o2) ∧ w'.cell? ⟨w.heap.size + 1, 2, none⟩ = some (.bool false) ∧ w'.cell? ⟨w.heap.size + 1, 3, none⟩ = some (.int .i64 d2)) ∧ (w'.cell? ⟨w4.heap.size, 0, none⟩ = some (.int .i64 j.c) ∧ w'.cell? ⟨w4.heap.size, 1, none⟩ = some (.bool j.o) ∧ w'.cell? ⟨w4.heap.size, 2, none⟩ = some (.bool j.h) ∧ w'.cell? ⟨w4.heap.size, 3, none⟩ = some (.int .i64 j.d))) ∧ Below w.heap.size w w' ∧ w.heap.size < w'.heap.size ∧ w.heap.size + 1 < w'.heap.size ∧ w4.heap.size < w'.heap.size) (by kernel_rfl) ?_ ?_
    · refine ⟨⟨⟨?_, ?_, ?_, ?_⟩, ⟨?_, ?_, ?_, ?_⟩, ⟨?_, ?_, ?_, ?_⟩⟩, ?_, ?_, ?_, ?_⟩ <;> first | omega | (first | (go_simp; done) | ((repeat' (with_reducible first | exact bl0 | apply bl4 | apply bl5 | apply bl1 | refine bl2 ?_ (by first | omega | (simp only [World.size_alloc, World.size_setCell, World.size_drew]; omega)) | refine bl3 (by assumption) ?_)); done) | (refine bl3 (by assumption) ?_; (go_simp; done)) | (simp only [World.size_alloc, World.size_drew] at *; omega))
    repeat (apply Free.next; (case h => (intro w' hS; unfold Does; (try go_simp); first | exact ⟨rfl, hS⟩ | exact rfl | (simp only [Give_enter]; obtain ⟨c_S, b_S, z_S⟩ := hS; (first | (go_at_call 10; first | ((with_reducible refine (Reads_calls ⟨c1, o1, true, d1⟩ _).mono ?_)) | ((with_reducible refine (Reads_calls j _).mono ?_))) | (go_at_call 12; (with_reducible refine (Writes_calls j _ _).mono ?_))); rintro e w1 ⟨rfl, hb_1⟩; obtain ⟨hc_1, hf_1⟩ := bcell hb_1; have z_1 := hb_1.size; refine ⟨_, rfl, rfl, ⟨⟨?_, ?_, ?_, ?_⟩, ⟨?_, ?_, ?_, ?_⟩, ⟨?_, ?_, ?_, ?_⟩⟩, ?_, ?_, ?_, ?_⟩ <;> first | omega | (first | (go_simp; done) | ((repeat' (with_reducible first | exact bl0 | apply bl4 | apply bl5 | apply bl1 | refine bl2 ?_ (by first | omega | (simp only [World.size_alloc, World.size_setCell, World.size_drew]; omega)) | refine bl3 (by assumption) ?_)); done) | (refine bl3 (by assumption) ?_; (go_simp; done)) | (simp only [World.size_alloc, World.size_drew] at *; omega))))); case he => (simp only [Act.put, List.setIfInBounds_toArray, List.set_cons_succ, List.set_cons_zero]; exact rfl))
    apply Free.nil
    intro wf hS
    apply wpList_nil
    go_wp2
    go_ret
    refine ⟨ret_bool ?_, hS.2.1⟩
    simp [Act.put, k1', k2', k3', t0]
  · have k3' : writes j t = false := by rw [K3.out]; simp [ht, t0]
    have k1' : reads ⟨c1, o1, true, d1⟩ = true := K1.out
    have k2' : reads j = true := K2.out rfl
    have kw : IntKind.i64.wrap (c1 + c2) = c1 + c2 := IntWalk.i64_in _ (by omega)
    refine wp_region_free_all mixed (fun w' => ((w'.cell? ⟨w.heap.size, 0, none⟩ = some (.int .i64 c1) ∧ w'.cell? ⟨w.heap.size, 1, none⟩ = some (.bool o1) ∧ w'.cell? ⟨w.heap.size, 2, none⟩ = some (.bool true) ∧ w'.cell? ⟨w.heap.size, 3, none⟩ = some (.int .i64 d1)) ∧ (w'.cell? ⟨w.heap.size + 1, 0, none⟩ = some (.int .i64 c2) ∧ w'.cell? ⟨w.heap.size + 1, 1, none⟩ = some (.bool o2) ∧ w'.cell? ⟨w.heap.size + 1, 2, none⟩ = some (.bool false) ∧ w'.cell? ⟨w.heap.size + 1, 3, none⟩ = some (.int .i64 d2)) ∧ (w'.cell? ⟨w4.heap.size, 0, none⟩ = some (.int .i64 j.c) ∧ w'.cell? ⟨w4.heap.size, 1, none⟩ = some (.bool j.o) ∧ w'.cell? ⟨w4.heap.size, 2, none⟩ = some (.bool j.h) ∧ w'.cell? ⟨w4.heap.size, 3, none⟩ = some (.int .i64 j.d))) ∧ Below w.heap.size w w' ∧ w.heap.size < w'.heap.size ∧ w.heap.size + 1 < w'.heap.size ∧ w4.heap.size < w'.heap.size) (by kernel_rfl) ?_ ?_
    · refine ⟨⟨⟨?_, ?_, ?_, ?_⟩, ⟨?_, ?_, ?_, ?_⟩, ⟨?_, ?_, ?_, ?_⟩⟩, ?_, ?_, ?_, ?_⟩ <;> first | omega | (first | (go_simp; done) | ((repeat' (with_reducible first | exact bl0 | apply bl4 | apply bl5 | apply bl1 | refine bl2 ?_ (by first | omega | (simp only [World.size_alloc, World.size_setCell, World.size_drew]; omega)) | refine bl3 (by assumption) ?_)); done) | (refine bl3 (by assumption) ?_; (go_simp; done)) | (simp only [World.size_alloc, World.size_drew] at *; omega))
    repeat (apply Free.next; (case h => (intro w' hS; unfold Does; (try go_simp); first | exact ⟨rfl, hS⟩ | exact rfl | (simp only [Give_enter]; obtain ⟨c_S, b_S, z_S⟩ := hS; (first | (go_at_call 10; first | ((with_reducible refine (Reads_calls ⟨c1, o1, true, d1⟩ _).mono ?_)) | ((with_reducible refine (Reads_calls j _).mono ?_))) | (go_at_call 12; (with_reducible refine (Writes_calls j _ _).mono ?_))); rintro e w1 ⟨rfl, hb_1⟩; obtain ⟨hc_1, hf_1⟩ := bcell hb_1; have z_1 := hb_1.size; refine ⟨_, rfl, rfl, ⟨⟨?_, ?_, ?_, ?_⟩, ⟨?_, ?_, ?_, ?_⟩, ⟨?_, ?_, ?_, ?_⟩⟩, ?_, ?_, ?_, ?_⟩ <;> first | omega | (first | (go_simp; done) | ((repeat' (with_reducible first | exact bl0 | apply bl4 | apply bl5 | apply bl1 | refine bl2 ?_ (by first | omega | (simp only [World.size_alloc, World.size_setCell, World.size_drew]; omega)) | refine bl3 (by assumption) ?_)); done) | (refine bl3 (by assumption) ?_; (go_simp; done)) | (simp only [World.size_alloc, World.size_drew] at *; omega))))); case he => (simp only [Act.put, List.setIfInBounds_toArray, List.set_cons_succ, List.set_cons_zero]; exact rfl))
    apply Free.nil
    intro wf hS
    apply wpList_nil
    go_wp2
    go_ret
    refine ⟨ret_bool ?_, hS.2.1⟩
    simp [Act.put, k1', k2', k3', ht, t0]
  · have k3' : writes j t = false := by rw [K3.out]; simp [ht, t0]
    have k1' : reads ⟨c1, o1, true, d1⟩ = true := K1.out
    have k2' : reads j = true := K2.out rfl
    have kw : IntKind.i64.wrap (c1 + c2) = c1 + c2 := IntWalk.i64_in _ (by omega)
    refine wp_region_free_all mixed (fun w' => ((w'.cell? ⟨w.heap.size, 0, none⟩ = some (.int .i64 c1) ∧ w'.cell? ⟨w.heap.size, 1, none⟩ = some (.bool o1) ∧ w'.cell? ⟨w.heap.size, 2, none⟩ = some (.bool true) ∧ w'.cell? ⟨w.heap.size, 3, none⟩ = some (.int .i64 d1)) ∧ (w'.cell? ⟨w.heap.size + 1, 0, none⟩ = some (.int .i64 c2) ∧ w'.cell? ⟨w.heap.size + 1, 1, none⟩ = some (.bool o2) ∧ w'.cell? ⟨w.heap.size + 1, 2, none⟩ = some (.bool false) ∧ w'.cell? ⟨w.heap.size + 1, 3, none⟩ = some (.int .i64 d2)) ∧ (w'.cell? ⟨w4.heap.size, 0, none⟩ = some (.int .i64 j.c) ∧ w'.cell? ⟨w4.heap.size, 1, none⟩ = some (.bool j.o) ∧ w'.cell? ⟨w4.heap.size, 2, none⟩ = some (.bool j.h) ∧ w'.cell? ⟨w4.heap.size, 3, none⟩ = some (.int .i64 j.d))) ∧ Below w.heap.size w w' ∧ w.heap.size < w'.heap.size ∧ w.heap.size + 1 < w'.heap.size ∧ w4.heap.size < w'.heap.size) (by kernel_rfl) ?_ ?_
    · refine ⟨⟨⟨?_, ?_, ?_, ?_⟩, ⟨?_, ?_, ?_, ?_⟩, ⟨?_, ?_, ?_, ?_⟩⟩, ?_, ?_, ?_, ?_⟩ <;> first | omega | (first | (go_simp; done) | ((repeat' (with_reducible first | exact bl0 | apply bl4 | apply bl5 | apply bl1 | refine bl2 ?_ (by first | omega | (simp only [World.size_alloc, World.size_setCell, World.size_drew]; omega)) | refine bl3 (by assumption) ?_)); done) | (refine bl3 (by assumption) ?_; (go_simp; done)) | (simp only [World.size_alloc, World.size_drew] at *; omega))
    repeat (apply Free.next; (case h => (intro w' hS; unfold Does; (try go_simp); first | exact ⟨rfl, hS⟩ | exact rfl | (simp only [Give_enter]; obtain ⟨c_S, b_S, z_S⟩ := hS; (first | (go_at_call 10; first | ((with_reducible refine (Reads_calls ⟨c1, o1, true, d1⟩ _).mono ?_)) | ((with_reducible refine (Reads_calls j _).mono ?_))) | (go_at_call 12; (with_reducible refine (Writes_calls j _ _).mono ?_))); rintro e w1 ⟨rfl, hb_1⟩; obtain ⟨hc_1, hf_1⟩ := bcell hb_1; have z_1 := hb_1.size; refine ⟨_, rfl, rfl, ⟨⟨?_, ?_, ?_, ?_⟩, ⟨?_, ?_, ?_, ?_⟩, ⟨?_, ?_, ?_, ?_⟩⟩, ?_, ?_, ?_, ?_⟩ <;> first | omega | (first | (go_simp; done) | ((repeat' (with_reducible first | exact bl0 | apply bl4 | apply bl5 | apply bl1 | refine bl2 ?_ (by first | omega | (simp only [World.size_alloc, World.size_setCell, World.size_drew]; omega)) | refine bl3 (by assumption) ?_)); done) | (refine bl3 (by assumption) ?_; (go_simp; done)) | (simp only [World.size_alloc, World.size_drew] at *; omega))))); case he => (simp only [Act.put, List.setIfInBounds_toArray, List.set_cons_succ, List.set_cons_zero]; exact rfl))
    apply Free.nil
    intro wf hS
    apply wpList_nil
    go_wp2
    go_ret
    refine ⟨ret_bool ?_, hS.2.1⟩
    simp [Act.put, k1', k2', k3', ht, t0]
  · subst ht
    have k3' : writes j (c1 + c2) = true := by rw [K3.out]; simp [t0]
    have k1' : reads ⟨c1, o1, true, d1⟩ = true := K1.out
    have k2' : reads j = true := K2.out rfl
    have kw : IntKind.i64.wrap (c1 + c2) = c1 + c2 := IntWalk.i64_in _ (by omega)
    refine wp_region_free_all mixed (fun w' => ((w'.cell? ⟨w.heap.size, 0, none⟩ = some (.int .i64 c1) ∧ w'.cell? ⟨w.heap.size, 1, none⟩ = some (.bool o1) ∧ w'.cell? ⟨w.heap.size, 2, none⟩ = some (.bool true) ∧ w'.cell? ⟨w.heap.size, 3, none⟩ = some (.int .i64 d1)) ∧ (w'.cell? ⟨w.heap.size + 1, 0, none⟩ = some (.int .i64 c2) ∧ w'.cell? ⟨w.heap.size + 1, 1, none⟩ = some (.bool o2) ∧ w'.cell? ⟨w.heap.size + 1, 2, none⟩ = some (.bool true) ∧ w'.cell? ⟨w.heap.size + 1, 3, none⟩ = some (.int .i64 d2)) ∧ (w'.cell? ⟨w4.heap.size, 0, none⟩ = some (.int .i64 j.c) ∧ w'.cell? ⟨w4.heap.size, 1, none⟩ = some (.bool j.o) ∧ w'.cell? ⟨w4.heap.size, 2, none⟩ = some (.bool j.h) ∧ w'.cell? ⟨w4.heap.size, 3, none⟩ = some (.int .i64 j.d))) ∧ Below w.heap.size w w' ∧ w.heap.size < w'.heap.size ∧ w.heap.size + 1 < w'.heap.size ∧ w4.heap.size < w'.heap.size) (by kernel_rfl) ?_ ?_
    · refine ⟨⟨⟨?_, ?_, ?_, ?_⟩, ⟨?_, ?_, ?_, ?_⟩, ⟨?_, ?_, ?_, ?_⟩⟩, ?_, ?_, ?_, ?_⟩ <;> first | omega | (first | (go_simp; done) | ((repeat' (with_reducible first | exact bl0 | apply bl4 | apply bl5 | apply bl1 | refine bl2 ?_ (by first | omega | (simp only [World.size_alloc, World.size_setCell, World.size_drew]; omega)) | refine bl3 (by assumption) ?_)); done) | (refine bl3 (by assumption) ?_; (go_simp; done)) | (simp only [World.size_alloc, World.size_drew] at *; omega))
    repeat (apply Free.next; (case h => (intro w' hS; unfold Does; (try go_simp); first | exact ⟨rfl, hS⟩ | exact rfl | (simp only [Give_enter]; obtain ⟨c_S, b_S, z_S⟩ := hS; (first | (go_at_call 10; first | ((with_reducible refine (Reads_calls ⟨c1, o1, true, d1⟩ _).mono ?_)) | ((with_reducible refine (Reads_calls j _).mono ?_))) | (go_at_call 12; (with_reducible refine (Writes_calls j _ _).mono ?_))); rintro e w1 ⟨rfl, hb_1⟩; obtain ⟨hc_1, hf_1⟩ := bcell hb_1; have z_1 := hb_1.size; refine ⟨_, rfl, rfl, ⟨⟨?_, ?_, ?_, ?_⟩, ⟨?_, ?_, ?_, ?_⟩, ⟨?_, ?_, ?_, ?_⟩⟩, ?_, ?_, ?_, ?_⟩ <;> first | omega | (first | (go_simp; done) | ((repeat' (with_reducible first | exact bl0 | apply bl4 | apply bl5 | apply bl1 | refine bl2 ?_ (by first | omega | (simp only [World.size_alloc, World.size_setCell, World.size_drew]; omega)) | refine bl3 (by assumption) ?_)); done) | (refine bl3 (by assumption) ?_; (go_simp; done)) | (simp only [World.size_alloc, World.size_drew] at *; omega))))); case he => (simp only [Act.put, List.setIfInBounds_toArray, List.set_cons_succ, List.set_cons_zero]; exact rfl))
    apply Free.nil
    intro wf hS
    apply wpList_nil
    go_wp2
    go_ret
    refine ⟨ret_bool ?_, hS.2.1⟩
    simp [Act.put, k1', k2', k3', t0]
  · subst ht
    have k3' : writes j (c1 + c2) = false := by rw [K3.out]; simp [t0]
    have k1' : reads ⟨c1, o1, true, d1⟩ = true := K1.out
    have k2' : reads j = true := K2.out rfl
    have kw : IntKind.i64.wrap (c1 + c2) = c1 + c2 := IntWalk.i64_in _ (by omega)
    refine wp_region_free_all mixed (fun w' => ((w'.cell? ⟨w.heap.size, 0, none⟩ = some (.int .i64 c1) ∧ w'.cell? ⟨w.heap.size, 1, none⟩ = some (.bool o1) ∧ w'.cell? ⟨w.heap.size, 2, none⟩ = some (.bool true) ∧ w'.cell? ⟨w.heap.size, 3, none⟩ = some (.int .i64 d1)) ∧ (w'.cell? ⟨w.heap.size + 1, 0, none⟩ = some (.int .i64 c2) ∧ w'.cell? ⟨w.heap.size + 1, 1, none⟩ = some (.bool o2) ∧ w'.cell? ⟨w.heap.size + 1, 2, none⟩ = some (.bool true) ∧ w'.cell? ⟨w.heap.size + 1, 3, none⟩ = some (.int .i64 d2)) ∧ (w'.cell? ⟨w4.heap.size, 0, none⟩ = some (.int .i64 j.c) ∧ w'.cell? ⟨w4.heap.size, 1, none⟩ = some (.bool j.o) ∧ w'.cell? ⟨w4.heap.size, 2, none⟩ = some (.bool j.h) ∧ w'.cell? ⟨w4.heap.size, 3, none⟩ = some (.int .i64 j.d))) ∧ Below w.heap.size w w' ∧ w.heap.size < w'.heap.size ∧ w.heap.size + 1 < w'.heap.size ∧ w4.heap.size < w'.heap.size) (by kernel_rfl) ?_ ?_
    · refine ⟨⟨⟨?_, ?_, ?_, ?_⟩, ⟨?_, ?_, ?_, ?_⟩, ⟨?_, ?_, ?_, ?_⟩⟩, ?_, ?_, ?_, ?_⟩ <;> first | omega | (first | (go_simp; done) | ((repeat' (with_reducible first | exact bl0 | apply bl4 | apply bl5 | apply bl1 | refine bl2 ?_ (by first | omega | (simp only [World.size_alloc, World.size_setCell, World.size_drew]; omega)) | refine bl3 (by assumption) ?_)); done) | (refine bl3 (by assumption) ?_; (go_simp; done)) | (simp only [World.size_alloc, World.size_drew] at *; omega))
    repeat (apply Free.next; (case h => (intro w' hS; unfold Does; (try go_simp); first | exact ⟨rfl, hS⟩ | exact rfl | (simp only [Give_enter]; obtain ⟨c_S, b_S, z_S⟩ := hS; (first | (go_at_call 10; first | ((with_reducible refine (Reads_calls ⟨c1, o1, true, d1⟩ _).mono ?_)) | ((with_reducible refine (Reads_calls j _).mono ?_))) | (go_at_call 12; (with_reducible refine (Writes_calls j _ _).mono ?_))); rintro e w1 ⟨rfl, hb_1⟩; obtain ⟨hc_1, hf_1⟩ := bcell hb_1; have z_1 := hb_1.size; refine ⟨_, rfl, rfl, ⟨⟨?_, ?_, ?_, ?_⟩, ⟨?_, ?_, ?_, ?_⟩, ⟨?_, ?_, ?_, ?_⟩⟩, ?_, ?_, ?_, ?_⟩ <;> first | omega | (first | (go_simp; done) | ((repeat' (with_reducible first | exact bl0 | apply bl4 | apply bl5 | apply bl1 | refine bl2 ?_ (by first | omega | (simp only [World.size_alloc, World.size_setCell, World.size_drew]; omega)) | refine bl3 (by assumption) ?_)); done) | (refine bl3 (by assumption) ?_; (go_simp; done)) | (simp only [World.size_alloc, World.size_drew] at *; omega))))); case he => (simp only [Act.put, List.setIfInBounds_toArray, List.set_cons_succ, List.set_cons_zero]; exact rfl))
    apply Free.nil
    intro wf hS
    apply wpList_nil
    go_wp2
    go_ret
    refine ⟨ret_bool ?_, hS.2.1⟩
    simp [Act.put, k1', k2', k3', t0]
  · have k3' : writes j t = false := by rw [K3.out]; simp [ht, t0]
    have k1' : reads ⟨c1, o1, true, d1⟩ = true := K1.out
    have k2' : reads j = true := K2.out rfl
    have kw : IntKind.i64.wrap (c1 + c2) = c1 + c2 := IntWalk.i64_in _ (by omega)
    refine wp_region_free_all mixed (fun w' => ((w'.cell? ⟨w.heap.size, 0, none⟩ = some (.int .i64 c1) ∧ w'.cell? ⟨w.heap.size, 1, none⟩ = some (.bool o1) ∧ w'.cell? ⟨w.heap.size, 2, none⟩ = some (.bool true) ∧ w'.cell? ⟨w.heap.size, 3, none⟩ = some (.int .i64 d1)) ∧ (w'.cell? ⟨w.heap.size + 1, 0, none⟩ = some (.int .i64 c2) ∧ w'.cell? ⟨w.heap.size + 1, 1, none⟩ = some (.bool o2) ∧ w'.cell? ⟨w.heap.size + 1, 2, none⟩ = some (.bool true) ∧ w'.cell? ⟨w.heap.size + 1, 3, none⟩ = some (.int .i64 d2)) ∧ (w'.cell? ⟨w4.heap.size, 0, none⟩ = some (.int .i64 j.c) ∧ w'.cell? ⟨w4.heap.size, 1, none⟩ = some (.bool j.o) ∧ w'.cell? ⟨w4.heap.size, 2, none⟩ = some (.bool j.h) ∧ w'.cell? ⟨w4.heap.size, 3, none⟩ = some (.int .i64 j.d))) ∧ Below w.heap.size w w' ∧ w.heap.size < w'.heap.size ∧ w.heap.size + 1 < w'.heap.size ∧ w4.heap.size < w'.heap.size) (by kernel_rfl) ?_ ?_
    · refine ⟨⟨⟨?_, ?_, ?_, ?_⟩, ⟨?_, ?_, ?_, ?_⟩, ⟨?_, ?_, ?_, ?_⟩⟩, ?_, ?_, ?_, ?_⟩ <;> first | omega | (first | (go_simp; done) | ((repeat' (with_reducible first | exact bl0 | apply bl4 | apply bl5 | apply bl1 | refine bl2 ?_ (by first | omega | (simp only [World.size_alloc, World.size_setCell, World.size_drew]; omega)) | refine bl3 (by assumption) ?_)); done) | (refine bl3 (by assumption) ?_; (go_simp; done)) | (simp only [World.size_alloc, World.size_drew] at *; omega))
    repeat (apply Free.next; (case h => (intro w' hS; unfold Does; (try go_simp); first | exact ⟨rfl, hS⟩ | exact rfl | (simp only [Give_enter]; obtain ⟨c_S, b_S, z_S⟩ := hS; (first | (go_at_call 10; first | ((with_reducible refine (Reads_calls ⟨c1, o1, true, d1⟩ _).mono ?_)) | ((with_reducible refine (Reads_calls j _).mono ?_))) | (go_at_call 12; (with_reducible refine (Writes_calls j _ _).mono ?_))); rintro e w1 ⟨rfl, hb_1⟩; obtain ⟨hc_1, hf_1⟩ := bcell hb_1; have z_1 := hb_1.size; refine ⟨_, rfl, rfl, ⟨⟨?_, ?_, ?_, ?_⟩, ⟨?_, ?_, ?_, ?_⟩, ⟨?_, ?_, ?_, ?_⟩⟩, ?_, ?_, ?_, ?_⟩ <;> first | omega | (first | (go_simp; done) | ((repeat' (with_reducible first | exact bl0 | apply bl4 | apply bl5 | apply bl1 | refine bl2 ?_ (by first | omega | (simp only [World.size_alloc, World.size_setCell, World.size_drew]; omega)) | refine bl3 (by assumption) ?_)); done) | (refine bl3 (by assumption) ?_; (go_simp; done)) | (simp only [World.size_alloc, World.size_drew] at *; omega))))); case he => (simp only [Act.put, List.setIfInBounds_toArray, List.set_cons_succ, List.set_cons_zero]; exact rfl))
    apply Free.nil
    intro wf hS
    apply wpList_nil
    go_wp2
    go_ret
    refine ⟨ret_bool ?_, hS.2.1⟩
    simp [Act.put, k1', k2', k3', ht, t0]
  · have k3' : writes j t = false := by rw [K3.out]; simp [ht, t0]
    have k1' : reads ⟨c1, o1, true, d1⟩ = true := K1.out
    have k2' : reads j = true := K2.out rfl
    have kw : IntKind.i64.wrap (c1 + c2) = c1 + c2 := IntWalk.i64_in _ (by omega)
    refine wp_region_free_all mixed (fun w' => ((w'.cell? ⟨w.heap.size, 0, none⟩ = some (.int .i64 c1) ∧ w'.cell? ⟨w.heap.size, 1, none⟩ = some (.bool o1) ∧ w'.cell? ⟨w.heap.size, 2, none⟩ = some (.bool true) ∧ w'.cell? ⟨w.heap.size, 3, none⟩ = some (.int .i64 d1)) ∧ (w'.cell? ⟨w.heap.size + 1, 0, none⟩ = some (.int .i64 c2) ∧ w'.cell? ⟨w.heap.size + 1, 1, none⟩ = some (.bool o2) ∧ w'.cell? ⟨w.heap.size + 1, 2, none⟩ = some (.bool true) ∧ w'.cell? ⟨w.heap.size + 1, 3, none⟩ = some (.int .i64 d2)) ∧ (w'.cell? ⟨w4.heap.size, 0, none⟩ = some (.int .i64 j.c) ∧ w'.cell? ⟨w4.heap.size, 1, none⟩ = some (.bool j.o) ∧ w'.cell? ⟨w4.heap.size, 2, none⟩ = some (.bool j.h) ∧ w'.cell? ⟨w4.heap.size, 3, none⟩ = some (.int .i64 j.d))) ∧ Below w.heap.size w w' ∧ w.heap.size < w'.heap.size ∧ w.heap.size + 1 < w'.heap.size ∧ w4.heap.size < w'.heap.size) (by kernel_rfl) ?_ ?_
    · refine ⟨⟨⟨?_, ?_, ?_, ?_⟩, ⟨?_, ?_, ?_, ?_⟩, ⟨?_, ?_, ?_, ?_⟩⟩, ?_, ?_, ?_, ?_⟩ <;> first | omega | (first | (go_simp; done) | ((repeat' (with_reducible first | exact bl0 | apply bl4 | apply bl5 | apply bl1 | refine bl2 ?_ (by first | omega | (simp only [World.size_alloc, World.size_setCell, World.size_drew]; omega)) | refine bl3 (by assumption) ?_)); done) | (refine bl3 (by assumption) ?_; (go_simp; done)) | (simp only [World.size_alloc, World.size_drew] at *; omega))
    repeat (apply Free.next; (case h => (intro w' hS; unfold Does; (try go_simp); first | exact ⟨rfl, hS⟩ | exact rfl | (simp only [Give_enter]; obtain ⟨c_S, b_S, z_S⟩ := hS; (first | (go_at_call 10; first | ((with_reducible refine (Reads_calls ⟨c1, o1, true, d1⟩ _).mono ?_)) | ((with_reducible refine (Reads_calls j _).mono ?_))) | (go_at_call 12; (with_reducible refine (Writes_calls j _ _).mono ?_))); rintro e w1 ⟨rfl, hb_1⟩; obtain ⟨hc_1, hf_1⟩ := bcell hb_1; have z_1 := hb_1.size; refine ⟨_, rfl, rfl, ⟨⟨?_, ?_, ?_, ?_⟩, ⟨?_, ?_, ?_, ?_⟩, ⟨?_, ?_, ?_, ?_⟩⟩, ?_, ?_, ?_, ?_⟩ <;> first | omega | (first | (go_simp; done) | ((repeat' (with_reducible first | exact bl0 | apply bl4 | apply bl5 | apply bl1 | refine bl2 ?_ (by first | omega | (simp only [World.size_alloc, World.size_setCell, World.size_drew]; omega)) | refine bl3 (by assumption) ?_)); done) | (refine bl3 (by assumption) ?_; (go_simp; done)) | (simp only [World.size_alloc, World.size_drew] at *; omega))))); case he => (simp only [Act.put, List.setIfInBounds_toArray, List.set_cons_succ, List.set_cons_zero]; exact rfl))
    apply Free.nil
    intro wf hS
    apply wpList_nil
    go_wp2
    go_ret
    refine ⟨ret_bool ?_, hS.2.1⟩
    simp [Act.put, k1', k2', k3', ht, t0]
theorem PermMore_walk (b : Bun) (hb : okBun b) (m : Bun) (hm : okBun m) (t : Int) (ht : okI t) (w : World) :
    Calls Try.prog 7 #[.agg #[.int .i64 b.c, .bool b.o, .bool b.h, .int .i64 b.d], .agg #[.int .i64 m.c, .bool m.o, .bool m.h, .int .i64 m.d], .int .i64 t] w fun e w' => e = .returned (.bool true) ∧ Below w.heap.size w w' := by
  by_cases hx : 1099511627776 < b.c ∨ 1099511627776 < m.c ∨ ¬ bcheck b (max b.c 0) = 0 ∨ ¬ bcheck m (max m.c 0) = 0
  · exact PermMore_out b m t w hx
  · simp only [not_or, Classical.not_not, Int.not_lt] at hx
    obtain ⟨h1, h2, h3, h4⟩ := hx
    obtain ⟨a1, _, a3⟩ := right_nonneg h3
    obtain ⟨b1, _, b3⟩ := right_nonneg h4
    have e1 : max b.c 0 = b.c := by omega
    have e2 : max m.c 0 = m.c := by omega
    rw [e1] at h3
    rw [e2] at h4
    refine PermMore_in b.c b.o b.h b.d m.c m.o m.h m.d t w a1 h1 b1 h2 h3 h4 (fun h => ?_) (fun h => ?_)
    · rcases Int.lt_or_le b.c 1 with h' | h'
      · have := (a3 (by omega)).2.1; rw [h] at this; cases this
      · exact h'
    · rcases Int.lt_or_le m.c 1 with h' | h'
      · have := (b3 (by omega)).2.1; rw [h] at this; cases this
      · exact h'
end Go.Proofs.Ytldjanjnohkmdaa
