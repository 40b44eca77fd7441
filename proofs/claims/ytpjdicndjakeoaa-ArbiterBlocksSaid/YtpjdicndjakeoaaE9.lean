/- The engine: the operations' proofs, second part. No condition. -/
import Derived.Test.YtpjdicndjakeoaaE8
namespace Go.Proofs.Ytpjdicndjakeoaa
open Go.RowKit
set_option linter.unusedVariables false
set_option linter.unusedSimpArgs false
section
variable {P : Program} {E : Env} {F : Nat → Prop} {φ : Nat → RS} {H : Heap} {w : World}
theorem load_ok (hE : E.Ok P) (hR : Rel F φ H w) {t : Nat} {i : TI} (hT : E.T t = some i) {id : Nat} {p : Path} {q : Prop} {cs : List AV} {av : AV} (h : readL H id p i.n = some (q, cs)) (ho : ofL i.k.agg cs = some av) (hq : q) :
    ∃ v, (loadVar t ⟨(φ id).blk, p.off, none⟩).run P w = .ok v w ∧ RV (cx F φ H w) av v := by
  obtain ⟨-, vs, h1, h2, h3⟩ := readL_ok hR h hq
  exact run_loadVar_of (hE.T _ _ hT) ho h1 h2 (fun j v hv => by rw [Addr.add_lit]; exact h3 j v hv)
theorem vload_ok {C : Cx} (hE : E.Ok P) {t : Nat} {i : TI} (hT : E.T t = some i) {cs ds es : List AV} {k b o : Nat} {av : AV} {ws : List Value} (hd : dropC cs k = some ds) (ht : takeC ds i.n = some es) (ho : ofL i.k.agg es = some av)
    (hr : Reps C cs ws) (hc : ∀ j v, ws[j]? = some v → w.cell? ⟨b, o + j, none⟩ = some v) : ∃ v, (loadVar t ⟨b, o + k, none⟩).run P w = .ok v w ∧ RV C av v := by
  have h1 := dropC_spec _ _ _ _ hd hr
  obtain ⟨h2, h3, h4⟩ := takeC_spec _ _ _ _ ht h1
  refine run_loadVar_of (hE.T _ _ hT) ho h2 (by rw [h2.length, h3]) (fun j v hv => ?_)
  rw [List.getElem?_take] at hv
  split at hv
  · rw [List.getElem?_drop] at hv
    rw [Addr.add_lit, Nat.add_assoc]
    exact hc _ v hv
  · cases hv
theorem store_ok (hE : E.Ok P) (hR : Rel F φ H w) {t : Nat} {i : TI} (hT : E.T t = some i) {id : Nat} {p : Path} {bs : List AV} {q : Prop} {H' : Heap} {v : Value} (hl : cellsL bs = i.n) (hv : Reps (cx F φ H w) bs v.cells.toList) (h : storeD H id p bs = some (q, H')) (hq : q) :
    ∃ w', (storeVar t ⟨(φ id).blk, p.off, none⟩ v).run P w = .ok () w' ∧ Rel F φ H' w' ∧ Ext F φ H w φ H' w' := by
  have hlen : v.cells.toList.length = i.n := by rw [hv.length, hl]
  unfold storeD at h
  split at h
  · rename_i cs hg
    rw [Bool.cond_eq_ite] at h
    split at h
    · rename_i hs
      split at h
      · rename_i q' ds hw
        simp only [Option.some.injEq, Prod.mk.injEq] at h
        obtain ⟨rfl, rfl⟩ := h
        obtain ⟨cur, e, h1, h2, h3, h4⟩ := store_obj hR hg (Nat.eq_of_beq_eq_true hs) hw hq hv
        exact ⟨_, run_storeVar_of (hE.T _ _ hT) hlen h1 h2 hv.one, h3, h4⟩
      · cases h
    · cases h
  · rename_i e0 t0 xs0 hg
    obtain ⟨f1, f2, f3⟩ := frzL_ok bs H _ hR hv
    cases hf : frzL H bs with
    | mk bs' H1 =>
      rw [hf] at f1 f2 f3
      simp only [hf] at h
      split at h
      · rename_i e ty xs hg1
        rw [Bool.cond_eq_ite] at h
        split at h
        · rename_i hs
          split at h
          · rename_i q' ds hw
            split at h
            · rename_i y hy
              simp only [Option.some.injEq, Prod.mk.injEq] at h
              obtain ⟨rfl, rfl⟩ := h
              obtain ⟨cur, h1, h2, h3, h4⟩ := store_seq f1 hg1 (Nat.eq_of_beq_eq_true hs) hq.1 hw hq.2 hy f3
              exact ⟨_, run_storeVar_of (hE.T _ _ hT) hlen h1 h2 hv.one, h3, f2.trans h4⟩
            · cases h
          · cases h
        · cases h
      · cases h
  · cases h
/-- What a list to be read holds, and where. -/
theorem store_okF (hE : E.Ok P) (hR : Rel F φ H w) {t : Nat} {i : TI} (hT : E.T t = some i) {id : Nat} {p : Path} {bs : List AV} {q : Prop} {H' : Heap} {v : Value} (hl : cellsL bs = i.n) (hv : Reps (cx F φ H w) bs v.cells.toList) (h : storeF H id p bs = some (q, H')) (hq : q) :
    ∃ w', (storeVar t ⟨(φ id).blk, p.off, none⟩ v).run P w = .ok () w' ∧ Rel F φ H' w' ∧ Ext F φ H w φ H' w' := by
  unfold storeF at h
  split at h
  · rename_i k
    split at h
    · split at h
      · split at h
        · rename_i e ty xs hk
          obtain ⟨d1, d2⟩ := hR.drop k (fun b hb => by rw [hk] at hb; injection hb with hb; rw [← hb]; rfl)
          have hf := freeze_ok hR hk
          have hv2 : Reps (cx F φ (H.put k none) w) [.vsl ty xs] v.cells.toList := by
            generalize v.cells.toList = l at hv
            cases hv with
            | slc a hn =>
              have := hn.nil_inv
              subst this
              exact hf
          obtain ⟨w', s1, s2, s3⟩ := store_ok (bs := [.vsl ty xs]) hE d1 hT hl hv2 h hq
          exact ⟨w', s1, s2, d2.trans s3⟩
        · exact store_ok hE hR hT hl hv h hq
      · exact store_ok hE hR hT hl hv h hq
    · exact store_ok hE hR hT hl hv h hq
  · exact store_ok hE hR hT hl hv h hq
theorem flat_drop {C : Cx} {t : Ty} : ∀ (xs : List t.den) (n : Nat) (us : List Value), Reps C (xs.flatMap (enc t)) us → Reps C ((xs.drop n).flatMap (enc t)) (us.drop (n * t.sz))
  | [], n, us, h => by
    have := h.nil_inv
    subst this
    simpa using Reps.nil
  | x :: xs, 0, us, h => by simpa using h
  | x :: xs, n + 1, us, h => by
    rw [List.flatMap_cons] at h
    obtain ⟨u1, u2, rfl, h1, h2⟩ := Reps.append_inv h
    have hl : u1.length = t.sz := by rw [h1.length, enc_cells]
    have e : (n + 1) * t.sz = u1.length + n * t.sz := by rw [Nat.succ_mul, hl]; omega
    rw [e, List.drop_length_add_append, List.drop_succ_cons]
    exact flat_drop xs n u2 h2
theorem srcL_ok {ty : Ty} {a : AV} {ys : List ty.den} {v : Value} (hR : Rel F φ H w) (h : srcL ty H a = some ys) (hv : RV (cx F φ H w) a v) :
    ∃ A c us, v = .slice A ys.length c ∧ (A = none → c = 0) ∧ ys.length ≤ c ∧ ys.length ≤ maxLen ∧ Reps (cx F φ H w) (ys.flatMap (enc ty)) us ∧ us.length = ys.length * ty.sz ∧ ∀ x, A = some x → ∀ j u, us[j]? = some u → w.cell? (x.add j) = some u := by
  cases a <;> simp only [srcL, reduceCtorEq] at h
  · injection h with h
    subst h
    have := rv_nils_inv hv
    exact ⟨none, 0, [], this, fun _ => rfl, Nat.zero_le _, Nat.zero_le _, .nil, by simp, fun x hx => by cases hx⟩
  · rename_i id
    split at h
    · rename_i ro e u xs hg
      split at h
      · rename_i hu
        cases hu
        injection h with h
        subst h
        obtain ⟨hv, -⟩ := rv_slc_inv hv
        obtain ⟨hm, A, c, hA, hc, h1, h2⟩ := seq_len hR hg
        obtain ⟨hl, hn, us, hr, ho⟩ := hR.blk _ _ hg
        refine ⟨A, c, us, hv.trans hA, hc, h1, hm, hr, by rw [hr.length, flat_cells], fun x hx j u hj => ?_⟩
        subst hx
        rcases ho.2 with ⟨h3, _⟩ | ⟨g, cap, cur, h3, -, -, -⟩
        · rw [hA] at h3; cases h3
        · have e2 := hA.symm.trans h3
          simp only [Value.slice.injEq, Option.some.injEq, true_and] at e2
          obtain ⟨rfl, rfl⟩ := e2
          exact ho.cells (g := g) (by rw [h3]; rfl) j u hj
      · cases h
    · cases h
  · rename_i k id
    cases k <;> simp only [srcL, reduceCtorEq] at h
    rename_i lo sz
    split at h
    · rename_i ro e u xs hg
      rw [Bool.cond_eq_ite] at h
      split at h
      · rename_i hsz
        have hsz := Nat.eq_of_beq_eq_true hsz
        subst hsz
        split at h
        · rename_i hu
          cases hu
          injection h with h
          subst h
          obtain ⟨hv, -⟩ := rv_hdl_inv hv
          obtain ⟨hm, A, c, hA, hc, h1, h2⟩ := seq_len hR hg
          obtain ⟨hl, hn, us, hr, ho⟩ := hR.blk _ _ hg
          have hlen : (List.drop lo xs).length = xs.length - lo := List.length_drop
          have hul : us.length = xs.length * ty.sz := by rw [hr.length, flat_cells]
          have hr2 : Reps (cx F φ H w) ((xs.drop lo).flatMap (enc ty)) (us.drop (lo * ty.sz)) := (flat_drop xs lo us hr)
          cases hx : (φ id).nil with
          | true =>
            have := hn hx
            subst this
            refine ⟨none, 0, us.drop (lo * ty.sz), ?_, fun _ => rfl, by simp, by simp, hr2, by rw [List.length_drop, hul]; simp, fun x hx => by cases hx⟩
            rw [hv]
            simp [HK.val, cx, hx]
          | false =>
            have hA' : A = some ⟨(φ id).blk, 0, none⟩ ∧ (φ id).len = xs.length ∧ (φ id).cap = c := by
              have : (φ id).sl = .slice (some ⟨(φ id).blk, 0, none⟩) (φ id).len (φ id).cap := by simp [RS.sl, hx]
              rw [this] at hA
              simp only [Value.slice.injEq] at hA
              exact ⟨hA.1.symm, hA.2.1, hA.2.2⟩
            obtain ⟨hA1, hA2, hA3⟩ := hA'
            refine ⟨some ⟨(φ id).blk, if c = lo then 0 else lo * ty.sz, none⟩, c - lo, us.drop (lo * ty.sz), ?_, fun h => (by cases h), by rw [hlen]; omega, by rw [hlen]; omega, hr2, by rw [List.length_drop, hul, hlen, Nat.sub_mul], fun x hx2 j u hj => ?_⟩
            · rw [hv, hlen]
              simp [HK.val, cx, hx, hA2, hA3]
            · injection hx2 with hx2
              subst hx2
              rw [List.getElem?_drop] at hj
              have hjl := (List.getElem?_eq_some_iff.1 hj).1
              have hcl : ¬ c = lo := fun e => by
                subst e
                rw [hul] at hjl
                have := Nat.mul_le_mul_right ty.sz h1
                omega
              rw [if_neg hcl]
              rcases ho.2 with ⟨h3, _⟩ | ⟨g, cap, cur, h3, -, -, -⟩
              · simp [RS.sl, hx] at h3
              · have hgb : g = (φ id).blk := by
                  simp only [RS.sl, hx, Bool.false_eq_true, if_false, Value.slice.injEq, Option.some.injEq, Addr.mk.injEq, and_true] at h3
                  exact h3.1.symm
                have h9 := ho.cells (g := g) (by rw [h3]; rfl) (lo * ty.sz + j) u hj
                rw [Addr.add_lit] at h9 ⊢
                rw [hgb] at h9
                rw [Nat.zero_add] at h9
                exact h9
        · cases h
      · cases h
    · cases h
  · rename_i u xs
    split at h
    · rename_i hu
      cases hu
      injection h with h
      subst h
      obtain ⟨A, c, rfl, h1, h2, ws, h3, h4⟩ := rv_vsl_inv hv
      obtain ⟨us, g1, g2, g3⟩ := flat_of_ws h4
      refine ⟨A, c, us, rfl, h2.2, h1, Nat.le_trans h1 h2.1, g1, g2, fun x hx j v hj => ?_⟩
      subst hx
      have hjl := (List.getElem?_eq_some_iff.1 hj).1
      have h0 : 0 < xs.length := by
        rcases Nat.eq_zero_or_pos xs.length with h | h
        · rw [g2, h] at hjl; omega
        · exact h
      obtain ⟨b, off, hx, -, -, hc⟩ := h3 h0
      injection hx with hx
      subst hx
      have hs : 0 < ty.sz := by
        rcases Nat.eq_zero_or_pos ty.sz with h | h
        · rw [g2, h] at hjl; omega
        · exact h
      have hdiv : j / ty.sz < xs.length := by rw [g2] at hjl; exact Nat.div_lt_of_lt_mul (by rw [Nat.mul_comm]; exact hjl)
      have hmod := Nat.mod_lt j hs
      have hj2 : j / ty.sz * ty.sz + j % ty.sz = j := by rw [Nat.mul_comm]; exact Nat.div_add_mod j ty.sz
      have h5 := g3 (j / ty.sz) hdiv (j % ty.sz) hmod
      rw [hj2, hj] at h5
      have h6 := hc _ hdiv _ v h5.symm
      rw [Addr.add_lit]
      rwa [Nat.add_assoc, hj2] at h6
    · cases h
theorem append_nils (hE : E.Ok P) (hR : Rel F φ H w) {t e : Nat} {i te : TI} {ty : Ty} {ys : List ty.den} {b : AV} {vb : Value} {o : TypeId} (hT : E.T t = some i) (hk : i.k = .slice e) (hTe : E.T e = some te) (hs : srcL ty H b = some ys) (hb : RV (cx F φ H w) b vb) (hn : te.n = ty.sz) (h0 : 0 < ty.sz)
    (hneed : ys.length * te.bytes ≤ 140737488355328) : ys.length ≤ 9223372036854775807 ∧ ∃ v w', (Builtin.append_ #[t, t] o #[.slice none 0 0, vb]).run P w = .ok v w' ∧ Post F φ H w ⟨True, True, .slc H.n, H.new (.seq false e ty ys)⟩ v w' := by
  obtain ⟨A, c, us, rfl, hA, hyc, hm, hr, hl, hc⟩ := srcL_ok hR hs hb
  obtain ⟨j, z, hj, hjn, hjb, hz, hzs, hzr⟩ := (hE.T _ _ hTe).info
  have hu : P.underlying t = some (.slice e) := by
    obtain ⟨d, hd, -, hkk⟩ := (hE.T _ _ hT).und
    rw [hk] at hkk
    rw [hd, hkk]
  refine ⟨by simpa [maxLen] using hm, ?_⟩
  cases A with
  | none =>
    have := hA rfl
    subst this
    have hy : ys = [] := List.eq_nil_of_length_eq_zero (by omega)
    subst hy
    obtain ⟨r1, r2⟩ := new_nil hR e ty
    refine ⟨.slice none 0 0, w, run_append_owned_none w 0 t o e j ty.sz hu hj _ 0 [] (World.ownsRow_nil w 0 e ty.sz), _, ?_, r1, r2⟩
    have := Reps.slc (C := cx F (upd φ H.n ⟨0, 0, 0, true⟩) (H.new (.seq false e ty [])) w) (id := H.n) (Nat.lt_succ_self _) Reps.nil
    simpa [RV, RV1, cx, upd_same, RS.sl] using this
  | some a =>
    obtain ⟨v', w', h1, h2, h3, h4⟩ := run_append_own (P := P) w w.heap.size t o e j z ty.sz te.bytes hu hj hz (by rw [hjn, hn]) hjb (by rw [hzs, hn]) h0 (.slice none 0 0) 0 [] (World.ownsRow_nil w _ e ty.sz)
      a ys.length c us hl (hc a rfl) hr.one (by simpa using hm) (by simpa using hneed) (Nat.le_refl _)
    simp only [Nat.zero_add, List.nil_append] at h2
    refine ⟨v', w', h1, ?_⟩
    rcases h2.2 with ⟨rfl, hy⟩ | ⟨g, cap, cur, rfl, hg, hh, h5, h6, h7, h8⟩
    · have hy : ys = [] := List.eq_nil_of_length_eq_zero hy
      subst hy
      have hR' := Rel.new (k := .seq false e ty []) hR ⟨0, 0, 0, true⟩ rfl h3.size (fun b hb => h3.block b hb (by simp [Value.ownBlock])) (fun h => by cases h) (fun le => ⟨rfl, fun _ => rfl, [], .nil, World.ownsRow_nil w' 0 e ty.sz⟩) h3.os h3.tape h3.output
      refine ⟨_, ?_, hR'.1, hR'.2⟩
      have := Reps.slc (C := cx F (upd φ H.n ⟨0, 0, 0, true⟩) (H.new (.seq false e ty [])) w') (id := H.n) (Nat.lt_succ_self _) Reps.nil
      simpa [RV, RV1, cx, upd_same, RS.sl] using this
    · have hR' := new_seq hR (t := ty) (xs := ys) rfl (by simpa [Value.ownBlock] using h3) hr hg (ownsRow_base h2)
      refine ⟨_, ?_, hR'.1, hR'.2⟩
      have := Reps.slc (C := cx F (upd φ H.n ⟨g, ys.length, cap, false⟩) (H.new (.seq false e ty ys)) w') (id := H.n) (Nat.lt_succ_self _) Reps.nil
      simpa [RV, RV1, cx, upd_same, RS.sl] using this
theorem append_slc (hE : E.Ok P) (hR : Rel F φ H w) {t e : Nat} {i te : TI} {ty : Ty} {id : Nat} {xs ys : List ty.den} {b : AV} {va vb : Value} {o : TypeId} (hT : E.T t = some i) (hk : i.k = .slice e) (hTe : E.T e = some te) (hg : H.get id = some (.seq false e ty xs)) (ha : RV (cx F φ H w) (.slc id) va)
    (hs : srcL ty H b = some ys) (hb : RV (cx F φ H w) b vb) (hn : te.n = ty.sz) (h0 : 0 < ty.sz)
    (hneed : (xs.length + ys.length) * te.bytes ≤ 140737488355328) (hml : xs.length + ys.length ≤ maxLen) : ∃ v w', (Builtin.append_ #[t, t] o #[va, vb]).run P w = .ok v w' ∧ Post F φ H w ⟨True, True, .slc H.n, (H.put id none).new (.seq false e ty (xs ++ ys))⟩ v w' := by
  obtain ⟨A, c, us, rfl, hA, hyc, hm, hr, hl, hc⟩ := srcL_ok hR hs hb
  obtain ⟨j, z, hj, hjn, hjb, hz, hzs, hzr⟩ := (hE.T _ _ hTe).info
  obtain ⟨rfl, -⟩ := rv_slc_inv ha
  have hu : P.underlying t = some (.slice e) := by
    obtain ⟨d, hd, -, hkk⟩ := (hE.T _ _ hT).und
    rw [hk] at hkk
    rw [hd, hkk]
  obtain ⟨hxl, hxn, xus, hxr, hxo⟩ := hR.blk _ _ hg
  have hcat : Reps (cx F φ H w) ((xs ++ ys).flatMap (enc ty)) (xus ++ us) := by rw [List.flatMap_append]; exact Reps.append hxr hr
  have done : ∀ (r : RS) (w' : World), Rel F (upd φ H.n r) ((H.put id none).new (.seq false e ty (xs ++ ys))) w' → Ext F φ H w (upd φ H.n r) ((H.put id none).new (.seq false e ty (xs ++ ys))) w' → Post F φ H w ⟨True, True, .slc H.n, (H.put id none).new (.seq false e ty (xs ++ ys))⟩ r.sl w' := fun r w' h1 h2 => by
    refine ⟨_, ?_, h1, h2⟩
    have := Reps.slc (C := cx F (upd φ H.n r) ((H.put id none).new (.seq false e ty (xs ++ ys))) w') (id := H.n) (Nat.lt_succ_self _) Reps.nil
    simpa [RV, RV1, cx, upd_same] using this
  cases A with
  | none =>
    have := hA rfl
    subst this
    have hy : ys = [] := List.eq_nil_of_length_eq_zero (by omega)
    subst hy
    have h1 : (Builtin.append_ #[t, t] o #[((cx F φ H w).φ id).sl, .slice none 0 0]).run P w = .ok ((cx F φ H w).φ id).sl w := run_append_owned_none w 0 t o e j ty.sz hu hj _ xs.length xus hxo
    refine ⟨_, w, h1, ?_⟩
    rw [List.append_nil]
    rw [List.append_nil] at done
    have hmv := Rel.move hR (φ id) (.seq false e ty xs) hg rfl rfl (Nat.le_refl _) (fun b _ _ => rfl) (fun hn => .inr ⟨hn, rfl⟩) (fun le => ⟨hxl, hxn, xus, hxr.mono le, hxo⟩) rfl rfl rfl
    exact done _ _ hmv.1 hmv.2
  | some a =>
    have hbytes : (xs.length + ys.length) * te.bytes ≤ 140737488355328 := hneed
    have hus : us.length = ys.length * ty.sz := hl
    cases hnil : (φ id).nil with
    | true =>
      have hx := hxn hnil
      subst hx
      have hsl : ((cx F φ H w).φ id).sl = .slice none 0 0 := by simp [RS.sl, cx, hnil]
      have hx0 : xus = [] := List.eq_nil_of_length_eq_zero (by rw [hxr.length]; rfl)
      subst hx0
      simp only [List.length_nil, Nat.zero_add, List.nil_append] at hneed hml hcat done ⊢
      obtain ⟨v', w', h1, h2, h3, h4⟩ := run_append_own (P := P) w w.heap.size t o e j z ty.sz te.bytes hu hj hz (by rw [hjn, hn]) hjb (by rw [hzs, hn]) h0 (.slice none 0 0) 0 [] (World.ownsRow_nil w _ e ty.sz)
        a ys.length c us hl (hc a rfl) hr.one (by simpa using hml) (by simpa using hneed) (Nat.le_refl _)
      simp only [Nat.zero_add, List.nil_append] at h2
      rw [hsl]
      refine ⟨v', w', h1, ?_⟩
      rcases h2.2 with ⟨rfl, hy⟩ | ⟨g, cap, cur, rfl, hg', hh, h5, h6, h7, h8⟩
      · have hy : ys = [] := List.eq_nil_of_length_eq_zero hy
        subst hy
        have hmv := Rel.move hR ⟨0, 0, 0, true⟩ (.seq false e ty []) hg rfl rfl h3.size (fun b hb _ => h3.block b hb (by simp [Value.ownBlock])) (fun h => by cases h) (fun le => ⟨rfl, fun _ => rfl, [], .nil, World.ownsRow_nil w' 0 e ty.sz⟩) h3.os h3.tape h3.output
        exact done _ _ hmv.1 hmv.2
      · have hmv := Rel.move hR ⟨g, ys.length, cap, false⟩ (.seq false e ty ys) hg rfl rfl h3.size (fun b hb _ => h3.block b hb (by simp [Value.ownBlock])) (fun _ => .inl hg') (fun le => ⟨rfl, fun h => (by cases h), us, hcat.mono le, ownsRow_base h2⟩) h3.os h3.tape h3.output
        exact done _ _ hmv.1 hmv.2
    | false =>
      have hsl : ((cx F φ H w).φ id).sl = .slice (some ⟨(φ id).blk, 0, none⟩) xs.length (φ id).cap := by simp [RS.sl, cx, hnil, hxl]
      have hsl' : (φ id).sl = .slice (some ⟨(φ id).blk, 0, none⟩) xs.length (φ id).cap := hsl
      rw [hsl'] at hxo
      rw [hsl]
      by_cases hroom : xs.length + ys.length ≤ (φ id).cap
      · obtain ⟨w', h1, h2, h3⟩ := run_append_fits (P := P) w 0 t o e j ty.sz hu hj (by rw [hjn, hn]) _ _ _ xus hxo a ys.length c us hl (hc a rfl) hr.one hroom
        refine ⟨_, w', h1, ?_⟩
        have hmv := Rel.move hR ⟨(φ id).blk, xs.length + ys.length, (φ id).cap, false⟩ (.seq false e ty (xs ++ ys)) hg rfl rfl h3.size (fun b hb hne => h3.block b hb (fun e => hne hnil (by injection e))) (fun _ => .inr ⟨hnil, rfl⟩)
          (fun le => ⟨by simp, fun h => (by cases h), _, hcat.mono le, by rw [List.length_append]; exact h2⟩) h3.os h3.tape h3.output
        exact done _ _ hmv.1 hmv.2
      · obtain ⟨v', w', h1, h2, h3, h4⟩ := run_append_own (P := P) w 0 t o e j z ty.sz te.bytes hu hj hz (by rw [hjn, hn]) hjb (by rw [hzs, hn]) h0 _ _ xus hxo
          a ys.length c us hl (hc a rfl) hr.one hml hneed (Nat.zero_le _)
        have h1' := run_append_grow (P := P) w t o e j z hu hj hz ⟨(φ id).blk, 0, none⟩ xs.length (φ id).cap xus (by rw [hjn, hn]; exact hxo.1) (hxo.cells rfl) a ys.length c us (by rw [hjn, hn]; exact hl) (hc a rfl) (by omega) (by simp only [maxLen] at hml; omega) (growslice_fits (by omega) (by rw [hjb]; exact hneed))
        have e1 := h1.symm.trans h1'
        simp only [Result.ok.injEq] at e1
        obtain ⟨rfl, rfl⟩ := e1
        refine ⟨_, _, h1, ?_⟩
        have hmv := Rel.move hR ⟨w.heap.size, xs.length + ys.length, grownCap w (xs.length + ys.length) (φ id).cap e, false⟩ (.seq false e ty (xs ++ ys)) hg rfl rfl h3.size (fun b hb hne => h3.block b hb (fun e => hne hnil (by simpa [Value.ownBlock] using e))) (fun _ => .inl (Nat.le_refl _))
          (fun le => ⟨by simp, fun h => (by cases h), _, hcat.mono le, by rw [List.length_append]; exact h2⟩) h3.os h3.tape h3.output
        exact done _ _ hmv.1 hmv.2
end
end Go.Proofs.Ytpjdicndjakeoaa
