/- The engine: the operations' proofs, fifth part. No condition. -/
import Derived.Test.YtpjdicndjakeoaaE11c
namespace Go.Proofs.Ytpjdicndjakeoaa
open Go.RowKit
set_option linter.unusedVariables false
set_option linter.unusedSimpArgs false
section
variable {P : Program} {E : Env} {F : Nat → Prop} {φ : Nat → RS} {H : Heap} {w : World}
theorem index_ok (hE : E.Ok P) (hR : Rel F φ H w) {t : Nat} {x : AV} {v : Value} {n : Int} {k : IntKind} {p q : Prop} {av : AV} (h : indexD E H t x n = some (p, q, av)) (hp : p) (hv : RV (cx F φ H w) x v) :
    q ∧ ∃ u, (Instr.indexAt t v (.int k n)).run P w = .ok u w ∧ RV (cx F φ H w) av u := by
  unfold indexD at h
  split at h
  · rename_i ti hT
    split at h
    · rename_i e hk
      have hu := und_slice hE hT hk
      split at h
      · rename_i te hTe
        split at h
        · rename_i id
          split at h
          · rename_i ro e' ty xs hg
            rw [Bool.cond_eq_ite] at h
            split at h
            · rename_i hn
              simp only [Option.some.injEq, Prod.mk.injEq] at h
              obtain ⟨rfl, rfl, rfl⟩ := h
              obtain ⟨rfl, hid⟩ := rv_slc_inv hv
              obtain ⟨h1, A, c, h2, hA, hc, -⟩ := seq_len hR hg
              obtain ⟨hl, hnl, -⟩ := hR.blk _ _ hg
              refine ⟨by simpa [maxLen] using h1, ?_⟩
              have hnil : (φ id).nil = false := by
                cases hx : (φ id).nil with
                | false => rfl
                | true =>
                  have := hnl hx
                  subst this
                  simp at hp
                  omega
              have hsl : ((cx F φ H w).φ id).sl = .slice (some ⟨(φ id).blk, 0, none⟩) xs.length (φ id).cap := by simp [RS.sl, cx, hnil, hl]
              rw [hsl]
              refine ⟨.pointer (some ((⟨(φ id).blk, 0, none⟩ : Addr).add (n.toNat * ty.sz))), ?_, ?_⟩
              · simp [Instr.indexAt, run_underlying hu, asIntOf, hp, (hE.T _ _ hTe).size, Nat.eq_of_beq_eq_true hn]
              · rw [Addr.add_lit, Nat.zero_add]
                exact rv_ptr ⟨n.toNat, ty.sz, 0, none⟩ hid
            · cases h
          · cases h
        · rename_i ty xs
          rw [Bool.cond_eq_ite] at h
          split at h
          · rename_i hn
            simp only [Option.some.injEq, Prod.mk.injEq] at h
            obtain ⟨rfl, rfl, rfl⟩ := h
            obtain ⟨A, c, rfl, h1, h2, ws, h3, h4⟩ := rv_vsl_inv hv
            refine ⟨by have := Nat.le_trans h1 h2.1; simpa [maxLen] using this, ?_⟩
            have hlt : n.toNat < xs.length := by omega
            obtain ⟨b, off, rfl, h5, h6, h7⟩ := h3 (by omega)
            refine ⟨.pointer (some ⟨b, off + n.toNat * ty.sz + 0, none⟩), ?_, ?_⟩
            · have ha := Addr.add_lit b off (n.toNat * ty.sz)
              simp [Instr.indexAt, run_underlying hu, asIntOf, hp, (hE.T _ _ hTe).size, Nat.eq_of_beq_eq_true hn, ha]
            · have hx : xs[n.toNat]? = some (xs.getD n.toNat ty.dflt) := by rw [List.getD_eq_getElem?_getD, List.getElem?_eq_getElem hlt]; rfl
              exact Reps.vptr (ws n.toNat) (h4 _ _ hx) h5 h6 (fun j v hj => h7 _ hlt j v hj) .nil
          · cases h
        · rename_i m id
          rw [Bool.cond_eq_ite] at h
          split at h
          · rename_i hn
            simp only [Option.some.injEq, Prod.mk.injEq] at h
            obtain ⟨rfl, rfl, rfl⟩ := h
            obtain ⟨rfl, hid⟩ := rv_hdl_inv hv
            refine ⟨trivial, .pointer (some ((⟨(φ id).blk, 0, none⟩ : Addr).add (n.toNat * 1))), ?_, ?_⟩
            · simp [HK.val, Instr.indexAt, run_underlying hu, asIntOf, hp, (hE.T _ _ hTe).size, Nat.eq_of_beq_eq_true hn, cx]
            · rw [Addr.add_lit]
              have e1 : 0 + n.toNat * 1 = (⟨0, 0, n.toNat, none⟩ : Path).off := by simp [Path.off, Path.inn, Path.jn]
              rw [e1]
              exact rv_ptr _ hid
          · cases h
        · cases h
      · cases h
    · rename_i m e hk
      have hu := und_array hE hT hk
      split at h
      · rename_i te hTe
        split at h
        · rename_i id p'
          split at h
          · cases h
          · rename_i hj
            simp only [Option.some.injEq, Prod.mk.injEq] at h
            obtain ⟨rfl, rfl, rfl⟩ := h
            obtain ⟨rfl, hid⟩ := rv_ptr_inv hv
            refine ⟨trivial, .pointer (some ((⟨(φ id).blk, p'.off, none⟩ : Addr).add (n.toNat * te.n))), ?_, ?_⟩
            · simp [Instr.indexAt, Instr.sureAddr, run_underlying hu, asIntOf, hp, (hE.T _ _ hTe).size, cx]
            · rw [Addr.add_lit]
              have e1 : p'.off + n.toNat * te.n = (⟨p'.i, p'.s, p'.k, some (n.toNat, te.n)⟩ : Path).off := by simp [Path.off, Path.inn, Path.jn, hj]; omega
              rw [e1]
              exact rv_ptr _ hid
        · cases h
      · cases h
    · cases h
  · cases h
theorem slice_run {t e : Nat} {te : TI} (hE : E.Ok P) (hu : P.underlying t = some (.slice e)) (hTe : E.T e = some te) {A : Option Addr} {n c : Nat} (hnc : n ≤ c) (lo hi : Option (IntKind × Int)) (l h : Nat)
    (hlo : match lo with | none => l = 0 | some (_, x) => 0 ≤ x ∧ x.toNat = l) (hhi : match hi with | none => h = n | some (_, x) => 0 ≤ x ∧ x.toNat = h) (h1 : l ≤ h) (h2 : h ≤ n) :
    (Instr.sliceAt t (.slice A n c) (lo.map fun x => .int x.1 x.2) (hi.map fun x => .int x.1 x.2) none).run P w = .ok (.slice (if c = l then A else A.map (·.add (l * te.n))) (h - l) (c - l)) w := by
  cases lo with
  | none =>
    simp only at hlo
    subst hlo
    cases hi with
    | none =>
      simp only at hhi
      subst hhi
      simp [Instr.sliceAt, Instr.slice, run_underlying hu, Instr.sliceBounds, (hE.T _ _ hTe).size]
    | some x =>
      obtain ⟨k, x⟩ := x
      simp only at hhi
      obtain ⟨hx, rfl⟩ := hhi
      have hb : 0 ≤ x ∧ x ≤ (c : Int) := by omega
      simp [Instr.sliceAt, Instr.slice, run_underlying hu, Instr.sliceBounds, Instr.sliceBound, asIntOf, hb, (hE.T _ _ hTe).size]
  | some y =>
    obtain ⟨k, y⟩ := y
    simp only at hlo
    obtain ⟨hy, rfl⟩ := hlo
    cases hi with
    | none =>
      simp only at hhi
      subst hhi
      have hb : 0 ≤ y ∧ y ≤ (h : Int) := by omega
      simp [Instr.sliceAt, Instr.slice, run_underlying hu, Instr.sliceBounds, Instr.sliceBound, asIntOf, hb, (hE.T _ _ hTe).size]
    | some x =>
      obtain ⟨k', x⟩ := x
      simp only at hhi
      obtain ⟨hx, rfl⟩ := hhi
      have hb : 0 ≤ x ∧ x ≤ (c : Int) := by omega
      have hb2 : 0 ≤ y ∧ y ≤ x := by omega
      have hb3 : max x 0 = x := by omega
      simp [Instr.sliceAt, Instr.slice, run_underlying hu, Instr.sliceBounds, Instr.sliceBound, asIntOf, hb, hb3, hb2, (hE.T _ _ hTe).size]
/-- A part of a list that is but read. -/
theorem vsl_part {C : Cx} {ty : Ty} {xs : List ty.den} {A : Option Addr} {c n : Nat} (hv : RV C (.vsl ty xs) (.slice A n c)) (l h : Nat) (h1 : l ≤ h) (h2 : h ≤ xs.length) :
    n = xs.length ∧ RV C (.vsl ty ((xs.take h).drop l)) (.slice (if c = l then A else A.map (·.add (l * ty.sz))) (h - l) (c - l)) := by
  obtain ⟨A', c', e, h3, h4, ws, h5, h6⟩ := rv_vsl_inv hv
  injection e with e1 e2 e3
  subst e1 e2 e3
  refine ⟨rfl, ?_⟩
  have hl : ((xs.take h).drop l).length = h - l := by simp only [List.length_drop, List.length_take]; omega
  rw [← hl]
  have get : ∀ i, i < h - l → ((xs.take h).drop l)[i]? = xs[l + i]? := fun i hi => by rw [List.getElem?_drop, List.getElem?_take, if_pos (by omega)]
  refine Reps.vsl (fun i => ws (l + i)) (by rw [hl]; omega) ⟨by have := h4.1; omega, fun hn => ?_⟩ (fun h0 => ?_) (fun i x hx => ?_) .nil
  · split at hn
    · omega
    · cases A with
      | none => have := h4.2 rfl; omega
      | some a => cases hn
  · rw [hl] at h0
    obtain ⟨b, off, rfl, h7, h8, h9⟩ := h5 (by omega)
    refine ⟨b, off + l * ty.sz, ?_, h7, h8, fun i hi j v hj => ?_⟩
    · rw [if_neg (by omega)]
      simp [Addr.add_lit]
    · rw [hl] at hi
      have := h9 (l + i) (by omega) j v hj
      rw [Nat.add_mul] at this
      rw [← this]
      congr 2
      omega
  · have hlt := (List.getElem?_eq_some_iff.1 hx).1
    rw [hl] at hlt
    rw [get i hlt] at hx
    exact h6 _ _ hx
def OptR (C : Cx) : Option AV → Option Value → Prop
  | none, none => True
  | some a, some b => RV C a b
  | _, _ => False
theorem slice_ok (hE : E.Ok P) (hR : Rel F φ H w) {t e : Nat} {i te : TI} {x : AV} {v : Value} {lo hi : Option AV} {vlo vhi : Option Value} {r : Res} (hT : E.T t = some i) (hk : i.k = .slice e) (hTe : E.T e = some te)
    (hn : match x with | .vsl ty _ => te.n = ty.sz | .slc id => (match H.get id with | some (.seq _ _ ty _) => te.n = ty.sz | _ => False) | _ => False)
    {V : Bool} (h : sliceD V H x lo hi = some r) (hneed : r.need) (hv : RV (cx F φ H w) x v) (hlo : OptR (cx F φ H w) lo vlo) (hhi : OptR (cx F φ H w) hi vhi) :
    r.know ∧ ∃ u w', (Instr.sliceAt t v vlo vhi none).run P w = .ok u w' ∧ Post F φ H w r u w' := by
  have hu := und_slice hE hT hk
  -- a slice value in the end: what its part is
  have key : ∀ (H' : Heap) (ty : Ty) (xs : List ty.den) (A : Option Addr) (n c : Nat), te.n = ty.sz → Rel F φ H' w → Ext F φ H w φ H' w → RV (cx F φ H' w) (.vsl ty xs) (.slice A n c) → ∀ (l h : Nat) (lo' hi' : Option (IntKind × Int)),
      (match lo' with | none => l = 0 | some (_, x) => 0 ≤ x ∧ x.toNat = l) → (match hi' with | none => h = xs.length | some (_, x) => 0 ≤ x ∧ x.toNat = h) → l ≤ h → h ≤ xs.length → vlo = (lo'.map fun x => .int x.1 x.2) → vhi = (hi'.map fun x => .int x.1 x.2) → v = .slice A n c →
      ∀ p q, ∃ u w', (Instr.sliceAt t v vlo vhi none).run P w = .ok u w' ∧ Post F φ H w ⟨p, q, .vsl ty ((xs.take h).drop l), H'⟩ u w' := by
    intro H' ty xs A n c hts hR' hx' hv' l h lo' hi' g1 g2 g3 g4 e1 e2 e3 p q
    obtain ⟨hnl, hpart⟩ := vsl_part hv' l h g3 g4
    obtain ⟨A2, c2, e4, h5, -⟩ := rv_vsl_inv hv'
    injection e4 with _ _ e5
    subst e1 e2 e3
    rw [hnl]
    refine ⟨_, w, slice_run hE hu hTe (by omega) lo' hi' l h g1 g2 g3 g4, φ, ?_, hR', hx'⟩
    rw [hts]
    exact hpart
  unfold sliceD at h
  split at h
  · rename_i k l
    cases vlo with
    | none => exact hlo.elim
    | some vl =>
      cases vhi with
      | some _ => exact hhi.elim
      | none =>
        obtain ⟨rfl, -⟩ := rv_int_inv hlo
        split at h
        · rename_i ty xs
          injection h with h
          subst h
          obtain ⟨A, c, rfl, -⟩ := rv_vsl_inv hv
          simp only at hneed
          have := key H ty xs A xs.length c hn hR (Ext.refl _ _ _ _) hv l.toNat xs.length (some (k, l)) none ⟨hneed.1, rfl⟩ rfl (by omega) (Nat.le_refl _) rfl rfl rfl (0 ≤ l ∧ l ≤ xs.length) True
          rw [List.take_length] at this
          exact ⟨trivial, this⟩
        · rename_i id
          split at h
          · rename_i e' ty xs hg
            rw [Bool.cond_eq_ite] at h
            split at h
            · injection h with h
              subst h
              simp only [hg] at hn
              obtain ⟨hvv, hid⟩ := rv_slc_inv hv
              obtain ⟨h1, A, c, h2, hA0, h3, -⟩ := seq_len hR hg
              have h2' : ((cx F φ H w).φ id).sl = .slice A xs.length c := h2
              simp only at hneed
              rw [hvv, h2']
              refine ⟨trivial, _, w, slice_run hE hu hTe h3 (some (k, l)) none l.toNat xs.length ⟨hneed.1, rfl⟩ rfl (by omega) (Nat.le_refl _), φ, ?_, hR, Ext.refl _ _ _ _⟩
              have h4 := rv_hdl (C := cx F φ H w) (k := .tl l.toNat ty.sz) hid
              have e5 : (HK.tl l.toNat ty.sz).val ((cx F φ H w).φ id) = .slice (if c = l.toNat then A else A.map (·.add (l.toNat * te.n))) (xs.length - l.toNat) (c - l.toNat) := by
                have h6 : (φ id).sl = .slice A xs.length c := h2
                cases hx : (φ id).nil with
                | true =>
                  simp only [RS.sl, hx, if_true, Value.slice.injEq] at h6
                  obtain ⟨rfl, e7, rfl⟩ := h6
                  simp [HK.val, cx, hx, ← e7]
                | false =>
                  simp only [RS.sl, hx, Bool.false_eq_true, if_false, Value.slice.injEq] at h6
                  obtain ⟨rfl, e7, e8⟩ := h6
                  rw [hn]
                  by_cases e9 : c = l.toNat
                  · simp [HK.val, cx, hx, e7, e8, e9]
                  · have ha := Addr.add_lit (φ id).blk 0 (l.toNat * ty.sz)
                    rw [Nat.zero_add] at ha
                    simp [HK.val, cx, hx, e7, e8, e9, ha]
              rw [e5] at h4
              exact h4
            injection h with h
            subst h
            simp only [hg] at hn
            obtain ⟨rfl, -⟩ := rv_slc_inv hv
            obtain ⟨h1, A, c, h2, -⟩ := seq_len hR hg
            have hf := freeze_ok hR hg
            obtain ⟨d1, d2⟩ := hR.drop id (fun k hk => by rw [hg] at hk; injection hk with hk; rw [← hk]; rfl)
            have h2' : ((cx F φ H w).φ id).sl = .slice A xs.length c := h2
            rw [h2] at hf
            simp only at hneed
            have := key (H.put id none) ty xs A xs.length c hn d1 d2 hf l.toNat xs.length (some (k, l)) none ⟨hneed.1, rfl⟩ rfl (by omega) (Nat.le_refl _) rfl rfl h2' (0 ≤ l ∧ l ≤ xs.length) True
            rw [List.take_length] at this
            exact ⟨trivial, this⟩
          · cases h
        · cases h
  · rename_i k l
    cases vlo with
    | some _ => exact hlo.elim
    | none =>
      cases vhi with
      | none => exact hhi.elim
      | some vh =>
        obtain ⟨rfl, -⟩ := rv_int_inv hhi
        split at h
        · rename_i ty xs
          injection h with h
          subst h
          obtain ⟨A, c, rfl, -⟩ := rv_vsl_inv hv
          simp only at hneed
          have := key H ty xs A xs.length c hn hR (Ext.refl _ _ _ _) hv 0 l.toNat none (some (k, l)) rfl ⟨hneed.1, rfl⟩ (Nat.zero_le _) (by omega) rfl rfl rfl (0 ≤ l ∧ l ≤ xs.length) True
          rw [List.drop_zero] at this
          exact ⟨trivial, this⟩
        · rename_i id
          split at h
          · rename_i e' ty xs hg
            rw [Bool.cond_eq_ite] at h
            split at h
            · injection h with h
              subst h
              simp only [hg] at hn
              obtain ⟨hvv, hid⟩ := rv_slc_inv hv
              obtain ⟨h1, A, c, h2, hA0, h3, -⟩ := seq_len hR hg
              have h2' : ((cx F φ H w).φ id).sl = .slice A xs.length c := h2
              simp only at hneed
              rw [hvv, h2']
              obtain ⟨r1, r2⟩ := rel_cut hR hg (h := l.toNat) (by omega)
              refine ⟨trivial, _, w, slice_run hE hu hTe h3 none (some (k, l)) 0 l.toNat rfl ⟨hneed.1, rfl⟩ (Nat.zero_le _) (by omega), _, ?_, r1, r2⟩
              have h4 := Reps.slc (C := cx F (upd φ H.n ⟨(φ id).blk, l.toNat, (φ id).cap, (φ id).nil⟩) ((H.put id none).new (.seq false e' ty (xs.take l.toNat))) w) (id := H.n) (Nat.lt_succ_self _) Reps.nil
              have e5 : ((cx F (upd φ H.n ⟨(φ id).blk, l.toNat, (φ id).cap, (φ id).nil⟩) ((H.put id none).new (.seq false e' ty (xs.take l.toNat))) w).φ H.n).sl = .slice (if c = 0 then A else A.map (·.add (0 * te.n))) (l.toNat - 0) (c - 0) := by
                show (upd φ H.n _ H.n).sl = _
                rw [upd_same]
                have h6 : (φ id).sl = .slice A xs.length c := h2
                have hadd : ∀ a : Addr, a.add 0 = a := fun a => Addr.add_zero' a
                cases hx : (φ id).nil with
                | true =>
                  simp only [RS.sl, hx, if_true, Value.slice.injEq] at h6
                  obtain ⟨rfl, e7, rfl⟩ := h6
                  have e8 : l.toNat = 0 := by omega
                  simp [RS.sl, e8]
                | false =>
                  simp only [RS.sl, hx, Bool.false_eq_true, if_false, Value.slice.injEq] at h6
                  obtain ⟨rfl, e7, e8⟩ := h6
                  simp [RS.sl, e8, hadd]
              rw [e5] at h4
              exact h4
            injection h with h
            subst h
            simp only [hg] at hn
            obtain ⟨rfl, -⟩ := rv_slc_inv hv
            obtain ⟨h1, A, c, h2, -⟩ := seq_len hR hg
            have hf := freeze_ok hR hg
            obtain ⟨d1, d2⟩ := hR.drop id (fun k hk => by rw [hg] at hk; injection hk with hk; rw [← hk]; rfl)
            have h2' : ((cx F φ H w).φ id).sl = .slice A xs.length c := h2
            rw [h2] at hf
            simp only at hneed
            have := key (H.put id none) ty xs A xs.length c hn d1 d2 hf 0 l.toNat none (some (k, l)) rfl ⟨hneed.1, rfl⟩ (Nat.zero_le _) (by omega) rfl rfl h2' (0 ≤ l ∧ l ≤ xs.length) True
            rw [List.drop_zero] at this
            exact ⟨trivial, this⟩
          · cases h
        · cases h
  · cases h
end
end Go.Proofs.Ytpjdicndjakeoaa
