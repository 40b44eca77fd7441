/- The engine: the operations' proofs, fourth part. No condition. -/
import Derived.Test.YtpjdicndjakeoaaE10
namespace Go.Proofs.Ytpjdicndjakeoaa
open Go.RowKit
set_option linter.unusedVariables false
set_option linter.unusedSimpArgs false
section
variable {P : Program} {E : Env} {F : Nat → Prop} {φ : Nat → RS} {H : Heap} {w : World}
theorem len_ok (hE : E.Ok P) (hR : Rel F φ H w) {t : Nat} {ti : TI} {x : AV} {v : Value} {p : Prop} {n : Nat} {o : TypeId} (hT : E.T t = some ti) (h : lenD ti.k H x = some (p, n)) (hv : RV (cx F φ H w) x v) :
    p ∧ n ≤ maxLen ∧ (Builtin.len_ #[t] o #[v]).run P w = .ok (.int .i64 n) w := by
  obtain ⟨d, hd, -, hkk⟩ := (hE.T _ _ hT).und
  unfold lenD at h
  split at h
  · rename_i e hk
    rw [hk] at hkk
    subst hkk
    split at h
    · rename_i id
      split at h
      · rename_i ro e' ty xs hg
        simp only [Option.some.injEq, Prod.mk.injEq] at h
        obtain ⟨rfl, rfl⟩ := h
        obtain ⟨rfl, -⟩ := rv_slc_inv hv
        obtain ⟨h1, A, c, h2, -⟩ := seq_len hR hg
        have h2' : ((cx F φ H w).φ id).sl = .slice A xs.length c := h2
        refine ⟨by simpa [maxLen] using h1, h1, ?_⟩
        rw [h2']
        simp [Builtin.len_, run_underlying hd, goInt]
      · cases h
    · rename_i ty xs
      simp only [Option.some.injEq, Prod.mk.injEq] at h
      obtain ⟨rfl, rfl⟩ := h
      obtain ⟨A, c, rfl, h1, h2, -⟩ := rv_vsl_inv hv
      have h3 := Nat.le_trans h1 h2.1
      exact ⟨by simpa [maxLen] using h3, h3, by simp [Builtin.len_, run_underlying hd, goInt]⟩
    · simp only [Option.some.injEq, Prod.mk.injEq] at h
      obtain ⟨rfl, rfl⟩ := h
      have := rv_nils_inv hv
      subst this
      exact ⟨trivial, Nat.zero_le _, by simp [Builtin.len_, run_underlying hd, goInt]⟩
    · rename_i m id
      rw [Bool.cond_eq_ite] at h
      split at h
      · rename_i hm
        simp only [Option.some.injEq, Prod.mk.injEq] at h
        obtain ⟨rfl, rfl⟩ := h
        obtain ⟨rfl, -⟩ := rv_hdl_inv hv
        have hm := Nat.le_of_ble_eq_true hm
        exact ⟨trivial, by simp only [maxLen]; omega, by simp [HK.val, Builtin.len_, run_underlying hd, goInt]⟩
      · cases h
    · cases h
  · rename_i hk
    rw [hk] at hkk
    subst hkk
    split at h
    · rename_i s
      simp only [Option.some.injEq, Prod.mk.injEq] at h
      obtain ⟨rfl, rfl⟩ := h
      obtain ⟨rfl, h1⟩ := rv_str_inv hv
      exact ⟨by simpa [maxLen] using h1, h1, by simp [Builtin.len_, run_underlying hd, goInt]⟩
    · cases h
  · rename_i k e hk
    rw [hk] at hkk
    subst hkk
    split at h
    · rename_i id
      split at h
      · rename_i ro u es hg
        simp only [Option.some.injEq, Prod.mk.injEq] at h
        obtain ⟨rfl, rfl⟩ := h
        obtain ⟨rfl, -⟩ := rv_hdl_inv hv
        obtain ⟨hn, vs, h1, h2⟩ := hR.blk _ _ hg
        have hl := h1.length
        have hm := h2.len
        rw [hl] at hm
        refine ⟨by simpa [maxLen] using hm, hm, ?_⟩
        obtain ⟨P', k', hk', h3⟩ := h2
        obtain ⟨es', clock, hb, F', -, hD⟩ := h3
        have hsz : es'.size = es.length := by
          have := congrArg Maps.size hD
          rw [vdat_size, hl] at this
          rw [this]
          simp [Maps.size, length_sorted]
        show (Builtin.len_ #[t] o #[.map (some (φ id).blk)]).run P w = _
        have hb' : w.heap[(φ id).blk]? = some (.map es' clock) := hb
        rw [← hsz]
        simp [Builtin.len_, run_underlying hd, MapKept.run_getObj_map hb', goInt, Result.andThen]
      · cases h
    · cases h
  · cases h
theorem flat_take {C : Cx} {t : Ty} : ∀ (xs : List t.den) (n : Nat) (us : List Value), Reps C (xs.flatMap (enc t)) us → Reps C ((xs.take n).flatMap (enc t)) (us.take (n * t.sz)) ∧ Reps C ((xs.drop n).flatMap (enc t)) (us.drop (n * t.sz))
  | [], n, us, h => by
    have := h.nil_inv
    subst this
    simpa using (And.intro h h)
  | x :: xs, 0, us, h => by simpa using (And.intro Reps.nil h)
  | x :: xs, n + 1, us, h => by
    rw [List.flatMap_cons] at h
    obtain ⟨u1, u2, rfl, h1, h2⟩ := Reps.append_inv h
    have hl : u1.length = t.sz := by rw [h1.length, enc_cells]
    obtain ⟨g1, g2⟩ := flat_take xs n u2 h2
    have e : (n + 1) * t.sz = u1.length + n * t.sz := by rw [Nat.succ_mul, hl]; omega
    rw [e, List.take_length_add_append, List.drop_length_add_append, List.take_succ_cons, List.drop_succ_cons, List.flatMap_cons]
    exact ⟨Reps.append h1 g1, g2⟩
theorem copy_ok (hE : E.Ok P) (hR : Rel F φ H w) {t t' e e' : Nat} {i te : TI} {ty : Ty} {id : Nat} {xs ys : List ty.den} {b : AV} {va vb : Value} {o : TypeId} (hT : E.T t = some i) (hk : i.k = .slice e) (hTe : E.T e = some te) (hg : H.get id = some (.seq false e' ty xs)) (ha : RV (cx F φ H w) (.slc id) va)
    (hs : srcL ty H b = some ys) (hb : RV (cx F φ H w) b vb) (hn : te.n = ty.sz) :
    ∃ v w', (Builtin.copy_ #[t, t'] o #[va, vb]).run P w = .ok v w' ∧ Post F φ H w ⟨True, True, .int .i64 (min ys.length xs.length : Nat), H.put id (some (.seq false e' ty (ys.take xs.length ++ xs.drop ys.length)))⟩ v w' := by
  obtain ⟨A, c, us, rfl, hA, hyc, hm, hr, hl, hc⟩ := srcL_ok hR hs hb
  obtain ⟨rfl, -⟩ := rv_slc_inv ha
  have hu := und_slice hE hT hk
  obtain ⟨hxl, hxn, xus, hxr, hxo⟩ := hR.blk _ _ hg
  obtain ⟨hxm, Ax, cx', hsl, hAx, hcx, -⟩ := seq_len hR hg
  have hsl' : ((cx F φ H w).φ id).sl = .slice Ax xs.length cx' := hsl
  rw [hsl']
  obtain ⟨n, hnn⟩ : ∃ n, n = min ys.length xs.length := ⟨_, rfl⟩
  have hmin : Nat.min ys.length xs.length = n := hnn.symm
  have hinr : (IntKind.i64.min ≤ ((min ys.length xs.length : Nat) : Int)) ∧ ((min ys.length xs.length : Nat) : Int) ≤ IntKind.i64.max := by
    simp only [maxLen] at hxm
    simp only [IntKind.max_i64]
    exact ⟨by have : IntKind.i64.min = -9223372036854775808 := by decide
              rw [this]; omega, by omega⟩
  rw [← hnn] at hinr ⊢
  have hlen' : (ys.take xs.length ++ xs.drop ys.length).length = xs.length := by simp only [List.length_append, List.length_take, List.length_drop]; omega
  have hsame : n = 0 → ys.take xs.length ++ xs.drop ys.length = xs := fun h0 => by
    rcases Nat.eq_zero_or_pos ys.length with h | h
    · have : ys = [] := List.eq_nil_of_length_eq_zero h
      subst this; simp
    · have : xs = [] := List.eq_nil_of_length_eq_zero (by omega)
      subst this; simp
  have hload : ∀ (x : Addr), A = some x → (loadCells x (n * ty.sz)).run P w = .ok (us.take (n * ty.sz)).toArray w := fun x hx => by
    have hlt : (us.take (n * ty.sz)).length = n * ty.sz := by
      rw [List.length_take, hl]
      exact Nat.min_eq_left (Nat.mul_le_mul_right _ (by omega))
    have := run_loadCells_list (P := P) w x (us.take (n * ty.sz)) (fun j v hj => by
      rw [List.getElem?_take] at hj
      split at hj
      · exact hc x hx j v hj
      · cases hj)
    rwa [hlt] at this
  by_cases h0 : n = 0
  · rw [hsame h0]
    have hrun : (Builtin.copy_ #[t, t'] o #[.slice Ax xs.length cx', .slice A ys.length c]).run P w = .ok (.int .i64 (n : Int)) w := by
      have hf : (Builtin.firstCells ty.sz n (.slice A ys.length c)).run P w = .ok #[] w := by
        cases A with
        | none => simp [Builtin.firstCells]
        | some x =>
          have := hload x rfl
          rw [h0] at this ⊢
          simpa [Builtin.firstCells] using this
      cases Ax <;> simp [Builtin.copy_, run_underlying hu, Builtin.lenOf, (hE.T _ _ hTe).size, hn, hmin, hf, storeCells, goInt]
    refine ⟨_, w, hrun, φ, ?_, ?_, ?_⟩
    · exact rv_int hinr
    · exact (hR.noop hg).1
    · exact (hR.noop hg).2
  · have hnil : (φ id).nil = false := by
      cases hx : (φ id).nil with
      | false => rfl
      | true =>
        have := hxn hx
        subst this
        simp at hnn
        omega
    have hsl2 : (φ id).sl = .slice (some ⟨(φ id).blk, 0, none⟩) xs.length (φ id).cap := by simp [RS.sl, hnil, hxl]
    rw [hsl] at hsl2
    simp only [Value.slice.injEq, true_and] at hsl2
    obtain ⟨rfl, rfl⟩ := hsl2
    rw [hsl] at hxo
    cases A with
    | none => have := hA rfl; omega
    | some x =>
      have htl : (us.take (n * ty.sz)).length = n * ty.sz := by
        rw [List.length_take, hl]
        exact Nat.min_eq_left (Nat.mul_le_mul_right _ (by omega))
      have hnx : n * ty.sz ≤ xs.length * ty.sz := Nat.mul_le_mul_right _ (by omega)
      obtain ⟨cur, hcur, hfit, hown⟩ := ownsRow_splice (o := 0) (ws := us.take (n * ty.sz)) hxo (by omega)
      have hst := run_storeCells_at P (φ id).blk 0 e' (us.take (n * ty.sz)) 0 cur w hcur (by omega) (fun v hv => hr.one v (List.mem_of_mem_take hv))
      have hrun : (Builtin.copy_ #[t, t'] o #[.slice (some ⟨(φ id).blk, 0, none⟩) xs.length (φ id).cap, .slice (some x) ys.length c]).run P w = .ok (.int .i64 (n : Int)) (w.setRow (φ id).blk (spl cur.toList 0 (us.take (n * ty.sz))).toArray) := by
        have hl' := hload x rfl
        simp only [Nat.zero_add] at hst
        simp [Builtin.copy_, run_underlying hu, Builtin.lenOf, (hE.T _ _ hTe).size, hn, hmin, Builtin.firstCells, hl', hst, goInt, spl]
      refine ⟨_, _, hrun, φ, rv_int hinr, ?_⟩
      obtain ⟨f1, f2, f3, f4, f5⟩ := setRow_facts w (φ id).blk (spl cur.toList 0 (us.take (n * ty.sz))).toArray
      have hnew : Reps (cx F φ H w) ((ys.take xs.length ++ xs.drop ys.length).flatMap (enc ty)) (spl xus 0 (us.take (n * ty.sz))) := by
        unfold spl
        rw [List.take_zero, List.nil_append, Nat.zero_add, htl, List.flatMap_append]
        have e1 : ys.take xs.length = ys.take n := by rw [hnn, Nat.min_comm, ← List.take_take, List.take_length]
        have e2 : xs.drop ys.length = xs.drop n := by
          rcases Nat.le_total ys.length xs.length with h | h
          · rw [hnn, Nat.min_eq_left h]
          · rw [hnn, Nat.min_eq_right h, List.drop_of_length_le h, List.drop_length]
        rw [e1, e2]
        exact Reps.append (flat_take ys n us hr).1 (flat_take xs n xus hxr).2
      refine Rel.upd hR _ hg rfl rfl hnil (Nat.le_of_eq f4.symm) (fun b _ hne => f5 b hne) (fun le => ?_) f1 f2 f3
      refine ⟨by rw [hlen', hxl], fun hx => (by rw [hnil] at hx; cases hx), _, hnew.mono le, ?_⟩
      rw [hlen', hsl]
      exact hown
end
end Go.Proofs.Ytpjdicndjakeoaa
