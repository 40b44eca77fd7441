/- The engine: what an operation comes to. No condition. -/
import Derived.Test.YtpjdicndjakeoaaE14
namespace Go.Proofs.Ytpjdicndjakeoaa
open Go.RowKit
set_option linter.unusedVariables false
set_option linter.unusedSimpArgs false
section
variable {P : Program} {E : Env} {F : Nat → Prop} {φ : Nat → RS} {H : Heap} {w : World}
theorem op_ok (hE : E.Ok P) (hR : Rel F φ H w) {o : Oper} {a : Act} {ρ : Operand → AV} (hρ : ∀ x, RV (cx F φ H w) (ρ x) (a.eval x)) {r : Res} (h : opD E o.op ρ H = some r) (hn : r.need) :
    r.know ∧ Give P (Post F φ H w r) ((execOp a.eval o).run P w) := by
  unfold execOp
  unfold opD at h
  split at h
  · -- move
    rename_i x hop
    injection h with h; subst h
    rw [hop]
    exact ⟨trivial, post_same hR (hρ x)⟩
  · -- assign
    rename_i x hop
    injection h with h; subst h
    rw [hop]
    exact ⟨trivial, post_same hR (hρ x)⟩
  · -- pick
    rename_i c x y hop
    rw [hop]
    have hc := hρ c
    split at h
    · rename_i c' hc'
      rw [hc'] at hc
      have hcv := rv_bool_inv hc
      have hx := hρ x
      have hy := hρ y
      split at h
      · rename_i a1 b1 ha1 hb1
        rw [ha1] at hx
        rw [hb1] at hy
        have hxv := rv_bool_inv hx
        have hyv := rv_bool_inv hy
        injection h with h; subst h
        refine ⟨trivial, ?_⟩
        simp only [hcv, hxv, hyv, asBool, Sem.run_bind, Sem.run_pure, Result.andThen_ok, Give_value]
        exact post_same hR (by cases c' <;> exact rv_bool _)
      · rename_i a1 ha1 hb1
        rw [ha1] at hx
        have hxv := rv_bool_inv hx
        injection h with h; subst h
        simp only at hn
        subst hn
        refine ⟨trivial, ?_⟩
        simp only [hcv, hxv, asBool, Sem.run_bind, Sem.run_pure, Result.andThen_ok, Give_value]
        exact post_same hR (rv_bool _)
      · rename_i a1 ha1 hb1
        rw [ha1] at hx
        have hxv := rv_bool_inv hx
        injection h with h; subst h
        simp only at hn
        subst hn
        refine ⟨trivial, ?_⟩
        simp only [hcv, hxv, asBool, Sem.run_bind, Sem.run_pure, Result.andThen_ok, Give_value]
        exact post_same hR (rv_bool _)
      · rename_i b1 ha1 hb1
        rw [hb1] at hy
        have hyv := rv_bool_inv hy
        injection h with h; subst h
        simp only at hn
        subst hn
        refine ⟨trivial, ?_⟩
        simp only [hcv, hyv, asBool, Sem.run_bind, Sem.run_pure, Result.andThen_ok, Give_value]
        exact post_same hR (rv_bool _)
      · rename_i b1 ha1 hb1
        rw [hb1] at hy
        have hyv := rv_bool_inv hy
        injection h with h; subst h
        simp only at hn
        subst hn
        refine ⟨trivial, ?_⟩
        simp only [hcv, hyv, asBool, Sem.run_bind, Sem.run_pure, Result.andThen_ok, Give_value]
        exact post_same hR (rv_bool _)
      · cases h
    · cases h
  · -- alloc
    rename_i t hop
    rw [hop]
    split at h
    · rename_i i hT
      injection h with h; subst h
      obtain ⟨z, hz, hzr⟩ := (hE.T _ _ hT).zeroV (w := w)
      refine ⟨trivial, give_v (v := .pointer (some ⟨w.heap.size, 0, none⟩)) (w' := w.alloc (.cells z.cells t)) ?_ (post_ptr hR (hzr _))⟩
      simp [Instr.alloc, hz, newVar, newRow]
    · cases h
  · -- box
    rename_i t x hop
    rw [hop]
    split at h
    · rename_i cs hl
      injection h with h; subst h
      refine ⟨trivial, give_v (v := .pointer (some ⟨w.heap.size, 0, none⟩)) (w' := w.alloc (.cells (a.eval x).cells t)) ?_ (post_ptr hR (leaves_ok hl (hρ x)))⟩
      simp [Instr.box, newVar, newRow]
    · cases h
  · -- build
    rename_i t parts hop
    rw [hop]
    split at h
    · rename_i i hT
      split at h
      · rename_i fs hk
        rw [Bool.cond_eq_ite] at h
        split at h
        · rename_i hall
          split at h
          · rename_i cs hf
            injection h with h; subst h
            obtain ⟨v, hv, hr⟩ := buildS_ok (w := w) hE hρ hT hk hall hf
            exact ⟨trivial, give_v hv (post_same hR hr)⟩
          · cases h
        · cases h
      · rename_i n e hk
        split at h
        · rename_i te hTe
          split at h
          · rename_i hp
            injection h with h; subst h
            refine ⟨trivial, ?_⟩
            obtain ⟨z, hz, hzr⟩ := (hE.T _ _ hT).zeroV (w := w)
            have hu := und_array hE hT hk
            have hsz := (hE.T _ _ hTe).size (w := w)
            have hp' : parts = #[] := by cases parts; simp at hp; subst hp; rfl
            subst hp'
            refine give_v (v := .agg z.cells) (w' := w) ?_ (post_same hR ⟨z.cells.toList, rfl, hzr _⟩)
            unfold Instr.build
            have hfill : Instr.fill (fun i => some (i * te.n, te.n)) z.cells (Array.map (fun (x : Nat × Operand) => (x.fst, a.eval x.snd)) #[]).toList = some z.cells := by simp [Instr.fill]
            simp only [Sem.run_bind, hz, run_underlying hu, hsz, Result.andThen_ok, hfill, Sem.run_pure]
          · cases h
        · cases h
      · cases h
    · cases h
  · -- buildSlice
    rename_i t len parts hop
    rw [hop]
    split at h
    · rename_i i hT
      split at h
      · rename_i e hk
        split at h
        · rename_i te hTe
          split at h
          · rename_i ty hty
            rw [Bool.cond_eq_ite] at h
            split at h
            · rename_i hc
              simp only [Bool.and_eq_true] at hc
              obtain ⟨⟨⟨c1, c2⟩, c3⟩, c4⟩ := hc
              split at h
              · rename_i xs H' hel
                injection h with h; subst h
                obtain ⟨v, w', h1, h2⟩ := buildL_ok (len := len) hE hR hρ hT hk hTe (Nat.eq_of_beq_eq_true c1) (by simpa using c2) (Nat.eq_of_beq_eq_true c3) (Nat.le_of_ble_eq_true c4) hel
                exact ⟨trivial, give_v h1 h2⟩
              · cases h
            · cases h
          · rw [Bool.cond_eq_ite] at h
            split at h
            · rename_i hc
              simp only [Bool.and_eq_true] at hc
              obtain ⟨⟨c1, c2⟩, c3⟩ := hc
              split at h
              · rename_i as hps
                injection h with h; subst h
                obtain ⟨v, w', h1, h2⟩ := buildP_ok (len := len) hE hR hρ hT hk hTe (Nat.eq_of_beq_eq_true c1) (Nat.eq_of_beq_eq_true c2) (Nat.le_of_ble_eq_true c3) hps
                exact ⟨trivial, give_v h1 h2⟩
              · cases h
            · cases h
        · cases h
      · cases h
    · cases h
  · -- load
    rename_i t x hop
    rw [hop]
    have hx := hρ x
    split at h
    · rename_i i hT
      split at h
      · rename_i id p hp
        rw [hp] at hx
        obtain ⟨hxv, -⟩ := rv_ptr_inv hx
        split at h
        · rename_i q cs hrd
          split at h
          · rename_i v ho
            injection h with h; subst h
            obtain ⟨u, h1, h2⟩ := load_ok hE hR hT hrd ho hn
            refine ⟨trivial, give_v (v := u) (w' := w) ?_ (post_same hR h2)⟩
            simpa [hxv, Instr.loadAt, Instr.sureAddr, cx] using h1
          · cases h
        · cases h
      · rename_i ty y k hp
        rw [hp] at hx
        obtain ⟨b, of, ws, hxv, h1, h2, h3, h4⟩ := rv_vptr_inv hx
        split at h
        · rename_i ds hd
          split at h
          · rename_i es ht
            split at h
            · rename_i v ho
              injection h with h; subst h
              obtain ⟨u, h5, h6⟩ := vload_ok (w := w) hE hT hd ht ho h1 h4
              refine ⟨trivial, give_v (v := u) (w' := w) ?_ (post_same hR h6)⟩
              simpa [hxv, Instr.loadAt, Instr.sureAddr] using h5
            · cases h
          · cases h
        · cases h
      · cases h
    · cases h
  · -- store
    rename_i t x y hop
    rw [hop]
    have hx := hρ x
    have hy := hρ y
    split at h
    · rename_i i hT
      split at h
      · rename_i id p hp
        rw [hp] at hx
        obtain ⟨hxv, -⟩ := rv_ptr_inv hx
        split at h
        · rename_i bs hbs
          have hbr := leaves_ok hbs hy
          rw [Bool.cond_eq_ite] at h
          split at h
          · rename_i hsz
            split at h
            · rename_i q H' hst
              injection h with h; subst h
              obtain ⟨w', h1, h2, h3⟩ := store_okF hE hR hT (Nat.eq_of_beq_eq_true hsz) hbr hst hn
              refine ⟨trivial, ?_⟩
              have h1' : (Instr.storeAt t (a.eval x) (a.eval y)).run P w = .ok () w' := by simpa [hxv, Instr.storeAt, Instr.sureAddr, cx] using h1
              simp only [Sem.run_bind, h1', Result.andThen_ok, Sem.run_pure, Give_skip]
              exact ⟨φ, trivial, h2, h3⟩
            · cases h
          · cases h
        · cases h
      · cases h
    · cases h
  · -- nilCheck
    rename_i x hop
    rw [hop]
    have hx := hρ x
    split at h
    · rename_i id p hp
      rw [hp] at hx
      obtain ⟨hxv, hid⟩ := rv_ptr_inv hx
      injection h with h; subst h
      refine ⟨trivial, ?_⟩
      simp only [hxv, Sem.run_bind, Sem.run_pure, Result.andThen_ok, Give_value]
      exact post_same hR (rv_ptr _ hid)
    · cases h
  · -- binOp
    rename_i op t x y yt hop
    rw [hop]
    split at h
    · rename_i p q v hb
      injection h with h; subst h
      obtain ⟨h1, u, h2, h3⟩ := binD_ok (w := w) (xo := x) (yo := y) hE hb hn (hρ x) (hρ y)
      exact ⟨h1, give_v h2 (post_same hR h3)⟩
    · split at h
      · rename_i i hT
        split at h
        · rename_i e hk
          split at h
          · rename_i te hTe
            rw [Bool.cond_eq_ite] at h
            split at h
            · rename_i hpos
              split at h
              · rename_i b hb
                injection h with h; subst h
                exact ⟨trivial, give_v (ptr_ok (xo := x) (yo := y) hE hR hT hk hTe (by simpa using hpos) hb (hρ x) (hρ y)) (post_same hR (rv_bool _))⟩
              · cases h
            · cases h
          · cases h
        · cases h
      · cases h
  · -- unOp
    rename_i op t x hop
    rw [hop]
    have hx := hρ x
    split at h
    · rename_i b hb
      rw [hb] at hx
      have hxv := rv_bool_inv hx
      injection h with h; subst h
      exact ⟨trivial, give_v (v := .bool (!b)) (w' := w) (by simp [hxv, Op.unary]) (post_same hR (rv_bool _))⟩
    · rename_i k n hb
      rw [hb] at hx
      obtain ⟨hxv, -⟩ := rv_int_inv hx
      injection h with h; subst h
      exact ⟨trivial, give_v (v := .int k (k.wrap (0 - n))) (w' := w) (by simp [hxv, Op.unary, Op.intArith]) (post_same hR (rv_int (wrap_in _ _)))⟩
    · cases h
  · -- fieldAddr
    rename_i s x f hop
    rw [hop]
    have hx := hρ x
    split at h
    · rename_i i hT
      split at h
      · rename_i fs hk
        obtain ⟨Fd, hu, hF⟩ := und_struct hE hT hk
        split at h
        · rename_i off ft hf
          have hF' : ∃ fd, Fd[f]? = some fd ∧ fd.offset = off ∧ fd.type = ft := by
            rw [← hF, List.getElem?_map, Option.map_eq_some_iff] at hf
            obtain ⟨fd, h1, h2⟩ := hf
            simp only [Prod.mk.injEq] at h2
            exact ⟨fd, by simpa using h1, h2.1, h2.2⟩
          obtain ⟨fd, hfd, rfl, rfl⟩ := hF'
          split at h
          · rename_i ti hTi
            rw [Bool.cond_eq_ite] at h
            split at h
            · rename_i hpos
              have hpos : 0 < ti.n := by simpa using hpos
              have hrun : ∀ ad : Addr, a.eval x = .pointer (some ad) → (Instr.fieldAt s (a.eval x) f).run P w = .ok (.pointer (some (ad.add fd.offset))) w := fun ad had => by
                have hne : ¬ ti.n = 0 := by omega
                simp [Instr.fieldAt, run_underlying hu, hfd, had, Instr.sureAddr, fieldPlace, (hE.T _ _ hTi).size, hne]
              split at h
              · rename_i id p hp
                rw [hp] at hx
                obtain ⟨hxv, hid⟩ := rv_ptr_inv hx
                split at h
                · rename_i hj
                  injection h with h; subst h
                  refine ⟨trivial, give_v (hrun _ hxv) (post_same hR ?_)⟩
                  rw [Addr.add_lit]
                  have e1 : p.off + fd.offset = (⟨p.i, p.s, p.k + fd.offset, none⟩ : Path).off := by simp [Path.off, Path.inn, Path.jn, hj]; omega
                  rw [e1]
                  exact rv_ptr _ hid
                · cases h
              · rename_i ty y k hp
                rw [hp] at hx
                obtain ⟨b, of, ws, hxv, h1, h2, h3, h4⟩ := rv_vptr_inv hx
                injection h with h; subst h
                refine ⟨trivial, give_v (hrun _ hxv) (post_same hR ?_)⟩
                rw [Addr.add_lit, Nat.add_assoc]
                exact Reps.vptr ws h1 h2 h3 h4 .nil
              · cases h
            · cases h
          · cases h
        · cases h
      · cases h
    · cases h
  · -- field
    rename_i s x f hop
    rw [hop]
    have hx := hρ x
    split at h
    · rename_i i hT
      split at h
      · rename_i fs hk
        obtain ⟨Fd, hu, hF⟩ := und_struct hE hT hk
        split at h
        · rename_i off ft hf
          have hF' : ∃ fd, Fd[f]? = some fd ∧ fd.offset = off ∧ fd.type = ft := by
            rw [← hF, List.getElem?_map, Option.map_eq_some_iff] at hf
            obtain ⟨fd, h1, h2⟩ := hf
            simp only [Prod.mk.injEq] at h2
            exact ⟨fd, by simpa using h1, h2.1, h2.2⟩
          obtain ⟨fd, hfd, rfl, rfl⟩ := hF'
          split at h
          · rename_i ti hTi
            split at h
            · rename_i cs hcs
              rw [hcs] at hx
              obtain ⟨vs, hxv, hr⟩ := rv_agg_inv hx
              split at h
              · rename_i ds hd
                split at h
                · rename_i es ht
                  split at h
                  · rename_i v ho
                    rw [Bool.cond_eq_ite] at h
                    split at h
                    · injection h with h; subst h
                      have h1 := dropC_spec _ _ _ _ hd hr
                      obtain ⟨h2, h3, h4⟩ := takeC_spec _ _ _ _ ht h1
                      have hpart : ∃ u, (part fd.type vs.toArray fd.offset).run P w = .ok u w ∧ RV (cx F φ H w) v u := by
                        cases hg : ti.k.agg with
                        | true =>
                          rw [hg] at ho
                          refine ⟨.agg ((vs.drop fd.offset).take ti.n).toArray, ?_, ofL_agg ho h2⟩
                          have : vs.toArray.extract fd.offset (fd.offset + ti.n) = ((vs.drop fd.offset).take ti.n).toArray := by
                            apply Array.ext'
                            simp [List.extract]
                          simp [part, (hE.T _ _ hTi).agg, hg, (hE.T _ _ hTi).size, this]
                        | false =>
                          rw [hg] at ho
                          obtain ⟨u, hu1, hu2⟩ := ofL_one ho h2
                          refine ⟨u, ?_, hu2⟩
                          have : vs[fd.offset]? = some u := by
                            have := congrArg (fun l => l[0]?) hu1
                            simp only [List.getElem?_take, List.getElem?_drop, List.getElem?_cons_zero] at this
                            split at this
                            · simpa using this
                            · cases this
                          simp [part, (hE.T _ _ hTi).agg, hg, this]
                      obtain ⟨u, h5, h6⟩ := hpart
                      refine ⟨trivial, give_v (v := u) (w' := w) ?_ (post_same hR h6)⟩
                      simp [Instr.field, run_underlying hu, hfd, hxv, asAgg, h5]
                    · cases h
                  · cases h
                · cases h
              · cases h
            · cases h
          · cases h
        · cases h
      · cases h
    · cases h
  · -- indexAddr
    rename_i t x ix hop
    rw [hop]
    have hix := hρ ix
    split at h
    · rename_i k n hk
      rw [hk] at hix
      obtain ⟨hiv, -⟩ := rv_int_inv hix
      split at h
      · rename_i p q v hi
        injection h with h; subst h
        obtain ⟨h1, u, h2, h3⟩ := index_ok (k := k) hE hR hi hn (hρ x)
        refine ⟨h1, give_v (v := u) (w' := w) ?_ (post_same hR h3)⟩
        rw [hiv]
        exact h2
      · cases h
    · cases h
  · -- makeSlice
    rename_i t l c hop
    rw [hop]
    have hl := hρ l
    have hc := hρ c
    split at h
    · rename_i i hT
      split at h
      · rename_i e hk
        split at h
        · rename_i te hTe
          split at h
          · rename_i ty hty
            split at h
            · rename_i k1 n k2 m hl' hc'
              rw [hl'] at hl
              rw [hc'] at hc
              obtain ⟨hlv, -⟩ := rv_int_inv hl
              obtain ⟨hcv, -⟩ := rv_int_inv hc
              split at h
              · rename_i z hz
                rw [Bool.cond_eq_ite] at h
                split at h
                · rename_i hcc
                  simp only [Bool.and_eq_true] at hcc
                  injection h with h; subst h
                  obtain ⟨v, w', h1, h2⟩ := make_ok (k := k1) (k' := k2) hE hR hT hk hTe hz (Nat.eq_of_beq_eq_true hcc.1) (by simpa using hcc.2) hn
                  refine ⟨trivial, give_v (v := v) (w' := w') ?_ h2⟩
                  rw [hlv, hcv]
                  exact h1
                · cases h
              · cases h
            · cases h
          · cases h
        · cases h
      · cases h
    · cases h
  · -- slice
    rename_i t x lo hi hop
    rw [hop]
    have hx := hρ x
    have opt : ∀ o : Option Operand, OptR (cx F φ H w) (o.map ρ) (o.map a.eval) := fun o => by cases o <;> first | trivial | exact hρ _
    split at h
    · rename_i i hT
      split at h
      · rename_i e hk
        split at h
        · rename_i te hTe
          split at h
          · rename_i ty xs hxe
            rw [Bool.cond_eq_ite] at h
            split at h
            · rename_i hc
              obtain ⟨h1, u, w', h2, h3⟩ := slice_ok (x := ρ x) (vlo := lo.map a.eval) (vhi := hi.map a.eval) hE hR hT hk hTe (by rw [hxe]; exact Nat.eq_of_beq_eq_true hc) h hn hx (opt lo) (opt hi)
              exact ⟨h1, give_v h2 h3⟩
            · cases h
          · rename_i id hxe
            split at h
            · rename_i ro e' ty xs hg
              rw [Bool.cond_eq_ite] at h
              split at h
              · rename_i hc
                obtain ⟨h1, u, w', h2, h3⟩ := slice_ok (x := ρ x) (vlo := lo.map a.eval) (vhi := hi.map a.eval) hE hR hT hk hTe (by rw [hxe]; simp only [hg]; exact Nat.eq_of_beq_eq_true hc) h hn hx (opt lo) (opt hi)
                exact ⟨h1, give_v h2 h3⟩
              · cases h
            · cases h
          · cases h
        · cases h
      · cases h
    · cases h
  · -- extract
    rename_i x i hop
    rw [hop]
    have hx := hρ x
    split at h
    · rename_i l hl
      rw [hl] at hx
      simp only [RV] at hx
      obtain ⟨vs, hxv, hr⟩ := hx
      split at h
      · rename_i v hi
        injection h with h; subst h
        obtain ⟨u, h1, h2⟩ := hr.get i v hi
        refine ⟨trivial, give_v (v := u) (w' := w) ?_ (post_same hR (rv_of_rv1 h2))⟩
        simp [hxv, Instr.extract, h1]
      · cases h
    · cases h
  · -- convert
    rename_i src dst x hop
    rw [hop]
    have hx := hρ x
    split at h
    · rename_i k n hk
      rw [hk] at hx
      obtain ⟨hxv, -⟩ := rv_int_inv hx
      split at h
      · rename_i i is hT hTs
        split at h
        · rename_i k' hkk
          injection h with h; subst h
          obtain ⟨d, hd, -, hk2⟩ := (hE.T _ _ hT).und
          rw [hkk] at hk2
          subst hk2
          obtain ⟨d', hd', -, -⟩ := (hE.T _ _ hTs).und
          refine ⟨trivial, give_v (v := .int k' (k'.wrap n)) (w' := w) ?_ (post_same hR (rv_int (wrap_in _ _)))⟩
          simp [hxv, convert, run_underlying hd', run_underlying hd, Conv.intToInt]
        · cases h
      · cases h
    · cases h
  · -- makeMap
    rename_i t hop
    rw [hop]
    split at h
    · rename_i k te ty hm
      injection h with h; subst h
      obtain ⟨h1, h2⟩ := makeMap_ok hE hR hm
      exact ⟨trivial, give_v h1 h2⟩
    · cases h
  · -- lookup
    rename_i t m x ok hop
    rw [hop]
    have hx := hρ x
    split at h
    · rename_i n hn
      rw [hn] at hx
      obtain ⟨hxv, hxr⟩ := rv_int_inv hx
      split at h
      · rename_i v hv
        injection h with h; subst h
        obtain ⟨u, h1, h2⟩ := lookup_ok hE hR hv (hρ m) hxr
        refine ⟨trivial, give_v (v := u) (w' := w) ?_ (post_same hR h2)⟩
        rw [hxv]
        exact h1
      · cases h
    · cases h
  · -- mapUpdate
    rename_i t m x y hop
    rw [hop]
    have hx := hρ x
    split at h
    · rename_i n hn'
      rw [hn'] at hx
      obtain ⟨hxv, hxr⟩ := rv_int_inv hx
      split at h
      · rename_i q H' hu
        injection h with h; subst h
        obtain ⟨w', h1, h2, h3⟩ := mapUpd_ok hE hR hu hn (hρ m) hxr (hρ y)
        refine ⟨trivial, ?_⟩
        rw [← hxv] at h1
        simp only [Sem.run_bind, h1, Result.andThen_ok, Sem.run_pure, Give_skip]
        exact ⟨φ, trivial, h2, h3⟩
      · cases h
    · cases h
  · -- call
    rename_i c hop
    rw [hop]
    obtain ⟨callee, args, ats⟩ := c
    simp only at h
    split at h
    · rename_i f
      have hf := hρ f
      split at h
      · rename_i g hg
        rw [hg] at hf
        have hfv := rv_fn_inv hf
        rw [Bool.cond_eq_ite] at h
        split at h
        · rename_i hnt
          have hrvs := rvs_map hρ args.toList (fun x hx l hl => by
            have := List.all_eq_true.1 hnt (ρ x) (List.mem_map.2 ⟨x, hx, rfl⟩)
            rw [hl] at this
            cases this)
          obtain ⟨h1, h2, h3⟩ := hE.K _ _ _ _ h hn F φ w _ hR hrvs
          refine ⟨h1, ?_⟩
          have hargs : (args.toList.map a.eval).toArray = args.map a.eval := by apply Array.ext'; rw [List.toList_toArray, Array.toList_map]
          rw [hargs] at h2 h3
          simp only [resolve, Deferred.ofValue, hfv, invoke, Sem.run_bind, Sem.run_pure, Result.andThen_ok, Array.empty_append, Array.append_empty, h2, Give_enter]
          exact h3.mono fun e w' ⟨v, he, hp⟩ => ⟨v, he, hp⟩
        · cases h
      · cases h
    · rename_i b
      have := builtin_ok (cn := args.map fun | .const _ => true | _ => false) (o := o.type) (vs := args.toList.map a.eval) hE hR h hn (by simp) (fun j x v hx hv => by
        simp only [List.getElem?_map, Option.map_eq_some_iff] at hx hv
        obtain ⟨y, hy, rfl⟩ := hx
        obtain ⟨z, hz, rfl⟩ := hv
        rw [hy] at hz
        injection hz with hz
        subst hz
        exact hρ _)
      refine ⟨this.1, ?_⟩
      have h2 := this.2
      have hargs : (args.toList.map a.eval).toArray = args.map a.eval := by apply Array.ext'; rw [List.toList_toArray, Array.toList_map]
      rw [hargs] at h2
      simp only [resolve, invoke, Sem.run_bind, Sem.run_pure, Result.andThen_ok]
      exact h2
    · cases h
  · cases h
end
end Go.Proofs.Ytpjdicndjakeoaa
