/- The engine: the operations' proofs, first part. No condition. -/
import Derived.Test.YtpjdicndjakeoaaE7
namespace Go.Proofs.Ytpjdicndjakeoaa
open Go.RowKit
set_option linter.unusedVariables false
set_option linter.unusedSimpArgs false
def Post (F : Nat → Prop) (φ : Nat → RS) (H : Heap) (w : World) (r : Res) (v : Value) (w' : World) : Prop :=
  ∃ φ', RV (cx F φ' r.H w') r.v v ∧ Rel F φ' r.H w' ∧ Ext F φ H w φ' r.H w'
structure Env.Ok (E : Env) (P : Program) : Prop where
  T : ∀ t i, E.T t = some i → TIok P t i
  Q : ∀ t ks, E.Q t = some ks → flatK P 40 t = some ks ∧ P.keyTypeAt 40 t = true ∧ P.eqGuardType P.depth t = false
  K : ∀ f args H r, E.K f args H = some r → r.need → ∀ F φ w (vs : List Value), Rel F φ H w → RVs (cx F φ H w) args vs →
    r.know ∧ (∀ w, (callFunc f vs.toArray).run P w = .ok (.enter f vs.toArray) w) ∧ Calls P f vs.toArray w fun e w' => ∃ v, e = .returned v ∧ Post F φ H w r v w'
theorem cells_one {v : Value} (h : v.oneCell' = true) : v.cells = #[v] := by
  cases v <;> first | rfl | (simp [Value.oneCell'] at h)
section
variable {P : Program} {C : Cx} {F : Nat → Prop} {φ : Nat → RS} {H : Heap} {w : World}
theorem give_v {G : Value → World → Prop} {s : Sem Value} {v : Value} {w' : World} (h : s.run P w = .ok v w') (hg : G v w') : Give P G ((s >>= fun a => Pure.pure (Next.value a)).run P w) := by
  simp only [Sem.run_bind, h, Result.andThen_ok, Sem.run_pure, Give_value]
  exact hg
theorem post_same (hR : Rel F φ H w) {p q : Prop} {a : AV} {v : Value} (hv : RV (cx F φ H w) a v) : Post F φ H w ⟨p, q, a, H⟩ v w := ⟨φ, hv, hR, Ext.refl _ _ _ _⟩
theorem leaves_ok {a : AV} {cs : List AV} {v : Value} (h : leavesOf a = some cs) (hv : RV C a v) : Reps C cs v.cells.toList := by
  cases a <;> simp only [leavesOf, reduceCtorEq, Option.some.injEq] at h <;> subst h <;> simp only [RV, RV1] at hv
  case agg cs =>
    obtain ⟨vs, rfl, hr⟩ := hv
    exact hr
  all_goals
    rw [cells_one (hv.one v (by simp))]
    exact hv
theorem ofL_agg {cs : List AV} {a : AV} {vs : List Value} (h : ofL true cs = some a) (hr : Reps C cs vs) : RV C a (.agg vs.toArray) := by
  simp only [ofL, cond_true, Option.some.injEq] at h
  subst h
  exact ⟨vs, rfl, hr⟩
theorem ofL_one {cs : List AV} {a : AV} {vs : List Value} (h : ofL false cs = some a) (hr : Reps C cs vs) : ∃ v, vs = [v] ∧ RV C a v := by
  simp only [ofL, cond_false] at h
  split at h
  · cases h
  · rename_i b hb
    injection h with h
    subst h
    have hl := hr.length
    rw [cellsL_one] at hl
    have : b.lsz = 1 := by cases b <;> first | rfl | exact absurd rfl (hb _ _ _)
    rw [this] at hl
    match vs, hl with
    | [v], _ =>
      refine ⟨v, rfl, ?_⟩
      cases b <;> simp only [RV, RV1] <;> first | exact hr | cases hr
  · cases h
theorem reps_rv {b : AV} {v : Value} (hr : Reps C [b] [v]) : RV C b v := by
  cases b <;> simp only [RV, RV1] <;> first | exact hr | cases hr
theorem TIok.agg {t : Nat} {i : TI} (hT : TIok P t i) : (isAgg t).run P w = .ok i.k.agg w := by
  obtain ⟨d, hd, hg, -⟩ := hT.und
  unfold isAgg
  rw [Sem.run_bind, run_underlying hd w, ← hg]
  cases d <;> rfl
theorem TIok.size {t : Nat} {i : TI} (hT : TIok P t i) : (sizeOf t).run P w = .ok i.n w := by
  obtain ⟨j, z, hj, hn, -⟩ := hT.info
  simp [sizeOf, typeInfo, hj, hn]
theorem TIok.zeroV {t : Nat} {i : TI} (hT : TIok P t i) : ∃ z, (zeroValue t).run P w = .ok z w ∧ ∀ C, Reps C i.zero z.cells.toList := by
  obtain ⟨j, z, hj, hn, -, hz, -, hr⟩ := hT.info
  exact ⟨z, by simp [zeroValue, typeInfo, hj, hz], hr⟩
theorem run_loadVar_of {t : Nat} {i : TI} (hT : TIok P t i) {a : Addr} {cs : List AV} {av : AV} {vs : List Value} (h : ofL i.k.agg cs = some av) (hr : Reps C cs vs) (hl : vs.length = i.n) (hc : ∀ j v, vs[j]? = some v → w.cell? (a.add j) = some v) :
    ∃ v, (loadVar t a).run P w = .ok v w ∧ RV C av v := by
  have hload := run_loadCells_list (P := P) w a vs hc
  cases hg : i.k.agg with
  | true =>
    rw [hg] at h
    refine ⟨.agg vs.toArray, ?_, ofL_agg h hr⟩
    simp [loadVar, hT.agg, hg, hT.size, ← hl, hload]
  | false =>
    rw [hg] at h
    obtain ⟨v, rfl, hv⟩ := ofL_one h hr
    refine ⟨v, ?_, hv⟩
    have := hc 0 v rfl
    simp only [Addr.add_zero'] at this
    simp [loadVar, hT.agg, hg, this]
theorem run_storeVar_of {t : Nat} {i : TI} (hT : TIok P t i) {g o : Nat} {v : Value} {cur : Array Value} {e : TypeId} (hs : v.cells.toList.length = i.n) (hg : w.heap[g]? = some (.cells cur e (0, 0))) (hfit : o + v.cells.toList.length ≤ cur.size) (h1 : ∀ u ∈ v.cells.toList, u.oneCell' = true) :
    (storeVar t ⟨g, o, none⟩ v).run P w = .ok () (w.setRow g (spl cur.toList o v.cells.toList).toArray) := by
  have hst := run_storeCells_at P g o e v.cells.toList 0 cur w hg (by simpa using hfit) h1
  have hs' : v.cells.size = i.n := by simpa using hs
  simp only [Nat.add_zero] at hst
  simp only [storeVar, Sem.run_bind, hT.size, Result.andThen_ok, hs', ne_eq, not_true_eq_false, if_false, hst, Sem.run_pure]
  rfl
theorem RVs.get {as : List AV} {vs : List Value} (h : RVs C as vs) : ∀ (i : Nat) (a : AV), as[i]? = some a → ∃ v, vs[i]? = some v ∧ RV1 C a v := by
  induction as generalizing vs with
  | nil => intro i a h2; simp at h2
  | cons b as ih =>
    cases vs with
    | nil => exact h.elim
    | cons v vs =>
      intro i a h2
      cases i with
      | zero =>
        simp at h2
        subst h2
        exact ⟨v, rfl, h.1⟩
      | succ i => exact ih h.2 i a (by simpa using h2)
theorem rv_of_rv1 {a : AV} {v : Value} (h : RV1 C a v) : RV C a v := by
  cases a <;> simp only [RV] <;> first | exact h | exact h.elim
theorem wrap_in (k : IntKind) (n : Int) : k.min ≤ k.wrap n ∧ k.wrap n ≤ k.max := by
  cases k <;> simp [IntKind.min, IntKind.max, IntKind.wrap, IntKind.bits, IntKind.signed] <;> omega
theorem rv_int {k : IntKind} {n : Int} (h : k.min ≤ n ∧ n ≤ k.max) : RV C (.int k n) (.int k n) := Reps.int h.1 h.2 .nil
theorem rv_bool (b : Bool) : RV C (.bool b) (.bool b) := Reps.bool .nil
theorem rv_int_inv {k : IntKind} {n : Int} {v : Value} (h : RV C (.int k n) v) : v = .int k n ∧ k.min ≤ n ∧ n ≤ k.max := by
  simp only [RV, RV1] at h
  cases h with
  | int a b _ => exact ⟨rfl, a, b⟩
theorem rv_bool_inv {b : Bool} {v : Value} (h : RV C (.bool b) v) : v = .bool b := by
  simp only [RV, RV1] at h
  cases h; rfl
theorem rv_str_inv {s : ByteArray} {v : Value} (h : RV C (.str s) v) : v = .string s ∧ s.size ≤ maxLen := by
  simp only [RV, RV1] at h
  cases h with
  | str a _ => exact ⟨rfl, a⟩
theorem rv_ptr_inv {id : Nat} {p : Path} {v : Value} (h : RV C (.ptr id p) v) : v = .pointer (some ⟨(C.φ id).blk, p.off, none⟩) ∧ id < C.n := by
  simp only [RV, RV1] at h
  cases h with
  | ptr a _ => exact ⟨rfl, a⟩
theorem rv_ptr {id : Nat} (p : Path) (h : id < C.n) : RV C (.ptr id p) (.pointer (some ⟨(C.φ id).blk, p.off, none⟩)) := Reps.ptr h .nil
theorem rv_nilp_inv {v : Value} (h : RV C .nilp v) : v = .pointer none := by
  simp only [RV, RV1] at h
  cases h; rfl
theorem rv_nils_inv {v : Value} (h : RV C .nils v) : v = .slice none 0 0 := by
  simp only [RV, RV1] at h
  cases h; rfl
theorem rv_slc_inv {id : Nat} {v : Value} (h : RV C (.slc id) v) : v = (C.φ id).sl ∧ id < C.n := by
  simp only [RV, RV1] at h
  cases h with
  | slc a _ => exact ⟨rfl, a⟩
theorem rv_hdl_inv {k : HK} {id : Nat} {v : Value} (h : RV C (.hdl k id) v) : v = k.val (C.φ id) ∧ id < C.n := by
  simp only [RV, RV1] at h
  cases h with
  | hdl a _ => exact ⟨rfl, a⟩
theorem rv_hdl {k : HK} {id : Nat} (h : id < C.n) : RV C (.hdl k id) (k.val (C.φ id)) := Reps.hdl h .nil
theorem rv_agg_inv {cs : List AV} {v : Value} (h : RV C (.agg cs) v) : ∃ vs : List Value, v = .agg vs.toArray ∧ Reps C cs vs := h
theorem rv_fn_inv {f : Nat} {v : Value} (h : RV C (.fn f) v) : v = .func (.func f) #[] #[] := by
  simp only [RV, RV1] at h
  cases h; rfl
theorem rv_vptr_inv {t : Ty} {x : t.den} {k : Nat} {v : Value} (h : RV C (.vptr t x k) v) : ∃ b o ws, v = .pointer (some ⟨b, o + k, none⟩) ∧ Reps C (enc t x) ws ∧ ¬ C.mt b ∧ b < C.w.heap.size ∧ ∀ j v, ws[j]? = some v → C.w.cell? ⟨b, o + j, none⟩ = some v := by
  simp only [RV, RV1] at h
  cases h with
  | vptr ws a b c d _ => exact ⟨_, _, ws, rfl, a, b, c, d⟩
theorem rv_vsl_inv {t : Ty} {xs : List t.den} {v : Value} (h : RV C (.vsl t xs) v) : ∃ A c, v = .slice A xs.length c ∧ xs.length ≤ c ∧ (c ≤ maxLen ∧ (A = none → c = 0)) ∧ ∃ ws : Nat → List Value,
    (0 < xs.length → ∃ b off, A = some ⟨b, off, none⟩ ∧ ¬ C.mt b ∧ b < C.w.heap.size ∧ ∀ i, i < xs.length → ∀ j v, (ws i)[j]? = some v → C.w.cell? ⟨b, off + i * t.sz + j, none⟩ = some v) ∧
    (∀ i (x : t.den), xs[i]? = some x → Reps C (enc t x) (ws i)) := by
  simp only [RV, RV1] at h
  cases h with
  | vsl ws a b c d _ => exact ⟨_, _, rfl, a, b, ws, c, d⟩
theorem seq_len {id : Nat} {e : Nat} {t : Ty} {xs : List t.den} (hR : Rel F φ H w) {ro : Bool} (hg : H.get id = some (.seq ro e t xs)) : xs.length ≤ maxLen ∧ (∃ A c, (φ id).sl = .slice A xs.length c ∧ (A = none → c = 0) ∧ xs.length ≤ c ∧ c ≤ maxLen) := by
  obtain ⟨hl, hn, us, hr, ho⟩ := hR.blk _ _ hg
  rcases ho.2 with ⟨h, h0⟩ | ⟨g, cap, cur, h, -, -, h1, h2, -⟩
  · rw [h, h0]
    exact ⟨Nat.zero_le _, none, 0, rfl, fun _ => rfl, Nat.le_refl _, Nat.zero_le _⟩
  · rw [h]
    exact ⟨Nat.le_trans h1 h2, _, _, rfl, fun h => (by cases h), h1, h2⟩
theorem flat_of_ws {t : Ty} {xs : List t.den} {ws : Nat → List Value} (h : ∀ i (x : t.den), xs[i]? = some x → Reps C (enc t x) (ws i)) : ∃ us, Reps C (xs.flatMap (enc t)) us ∧ us.length = xs.length * t.sz ∧ ∀ i, i < xs.length → ∀ j, j < t.sz → us[i * t.sz + j]? = (ws i)[j]? := by
  induction xs generalizing ws with
  | nil => exact ⟨[], .nil, by simp, fun i hi => absurd hi (by simp)⟩
  | cons x xs ih =>
    obtain ⟨us, h1, h2, h3⟩ := ih (ws := fun i => ws (i + 1)) (fun i y hy => h (i + 1) y (by simpa using hy))
    have h0 := h 0 x rfl
    have hl : (ws 0).length = t.sz := by rw [h0.length, enc_cells]
    refine ⟨ws 0 ++ us, by rw [List.flatMap_cons]; exact Reps.append h0 h1, by rw [List.length_append, hl, h2, List.length_cons, Nat.succ_mul]; omega, fun i hi j hj => ?_⟩
    cases i with
    | zero => rw [Nat.zero_mul, Nat.zero_add, List.getElem?_append_left (by omega)]
    | succ i =>
      rw [Nat.succ_mul, List.getElem?_append_right (by omega), hl]
      rw [← h3 i (by simpa using hi) j hj]
      congr 1
      omega
end
end Go.Proofs.Ytpjdicndjakeoaa
