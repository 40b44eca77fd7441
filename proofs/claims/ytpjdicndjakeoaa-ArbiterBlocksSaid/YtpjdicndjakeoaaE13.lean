/- The engine: all operations. No condition. -/
import Derived.Test.YtpjdicndjakeoaaE12m
import Derived.Laws.Pointers
import Derived.Laws.Small
namespace Go.Proofs.Ytpjdicndjakeoaa
open Go.RowKit
set_option linter.unusedVariables false
set_option linter.unusedSimpArgs false
section
variable {P : Program} {E : Env} {F : Nat → Prop} {φ : Nat → RS} {H : Heap} {w : World} {C : Cx}
theorem tmod_in (k : IntKind) (a b : Int) (h : k.min ≤ a ∧ a ≤ k.max) (hb : b ≠ 0) : k.wrap (a.tmod b) = a.tmod b := by
  have h1 : (a.tmod b).natAbs ≤ a.natAbs := by rw [Int.natAbs_tmod]; exact Nat.mod_le _ _
  have h2 : 0 ≤ a → 0 ≤ a.tmod b := fun h => Int.tmod_nonneg b h
  have h3 : a ≤ 0 → a.tmod b ≤ 0 := fun h => by
    have := Int.tmod_nonneg b (a := -a) (by omega)
    rw [Int.neg_tmod] at this
    omega
  cases k <;> simp [IntKind.min, IntKind.max, IntKind.wrap, IntKind.bits, IntKind.signed] at h ⊢ <;> omega
theorem intB_ok {op : BinOp} {t : TypeId} {k : IntKind} {a b : Int} {p : Prop} {av : AV} {xo yo : Operand} (h : intB op k a b = some (p, av)) (hp : p) (ha : k.min ≤ a ∧ a ≤ k.max) (hb : k.min ≤ b ∧ b ≤ k.max) :
    ∃ r, (do eqGuard op t xo yo (.int k a) (.int k b); binOp op t (.int k a) (.int k b) : Sem Value).run P w = .ok r w ∧ RV C av r := by
  have hg : ∀ (s : Sem Value), (do eqGuard op t xo yo (.int k a) (.int k b); s : Sem Value).run P w = s.run P w := fun s => by rw [eqGuard_at_int]; simp
  rw [hg]
  cases op <;> simp only [intB, reduceCtorEq, Option.some.injEq, Prod.mk.injEq] at h
  all_goals obtain ⟨rfl, rfl⟩ := h
  · exact ⟨_, by simp [binOp_add, Op.intArith], rv_int (wrap_in _ _)⟩
  · exact ⟨_, by simp [binOp_sub, Op.intArith], rv_int (wrap_in _ _)⟩
  · exact ⟨_, by simp [binOp_mul, Op.intArith], rv_int (wrap_in _ _)⟩
  · exact ⟨_, by simp [binOp_quo, Op.intDiv, hp], rv_int (wrap_in _ _)⟩
  · refine ⟨.int k (a.tmod b), by simp [binOp_rem, Op.intDiv, hp], ?_⟩
    rw [tmod_in k a b ha hp]
    refine rv_int ?_
    rw [← tmod_in k a b ha hp]
    exact wrap_in _ _
  · exact ⟨_, by simp [binOp_eql], rv_bool _⟩
  · exact ⟨_, by simp [binOp_neq], rv_bool _⟩
  · exact ⟨_, by simp [binOp_lss], rv_bool _⟩
  · exact ⟨_, by simp [binOp_leq], rv_bool _⟩
  · exact ⟨_, by simp [binOp_gtr], rv_bool _⟩
  · exact ⟨_, by simp [binOp_geq], rv_bool _⟩
theorem flatK_len {d : Nat} {t : TypeId} {ks : List FK} (h : flatK P d t = some ks) (hd : (match P.underlying t with | some (.struct _) | some (.array _ _) => true | _ => false) = true) : ks.length = P.cellsOf t := by
  cases d with
  | zero => simp [flatK] at h
  | succ d =>
    unfold flatK at h
    cases hu : P.underlying t with
    | none => rw [hu] at hd; cases hd
    | some dd =>
    rw [hu] at hd h
    cases dd <;> simp only [Bool.false_eq_true] at hd <;> simp only at h
    · split at h
      · split at h
        · rename_i hc
          cases h
          rw [hc.2]
          simp [hc.1]
        · cases h
      · cases h
    · split at h
      · split at h
        · rename_i hc
          cases h
          exact hc
        · cases h
      · cases h
theorem eqA_ok (hE : E.Ok P) {t : Nat} {i : TI} {ks : List FK} {as bs : List AV} {r : Bool} {u v : Value} (hT : E.T t = some i) (hg : i.k.agg = true) (hQ : E.Q t = some ks) (h : eqL ks as bs = some r) (hu : RV C (.agg as) u) (hv : RV C (.agg bs) v) :
    (Op.equal t u v).run P w = .ok r w ∧ ∀ op xo yo, (eqGuard op t xo yo u v).run P w = .ok () w := by
  obtain ⟨us, rfl, hru⟩ := rv_agg_inv hu
  obtain ⟨vs, rfl, hrv⟩ := rv_agg_inv hv
  obtain ⟨q1, q2, q3⟩ := hE.Q _ _ hQ
  obtain ⟨f1, f2, f3⟩ := eqL_ok ks as bs r us vs h hru hrv
  obtain ⟨d, hd, hdg, -⟩ := (hE.T _ _ hT).und
  have hwide : (match P.underlying t with | some (.struct _) | some (.array _ _) => true | _ => false) = true := by
    rw [hd]
    rw [hg] at hdg
    cases d <;> first | rfl | (cases hdg; done)
  have hlen := flatK_len q1 hwide
  have formed : ∀ (ws : List Value), fitsK ks ws → (Value.agg ws.toArray).formed P t = true := fun ws hw => by
    have h1 : ws.length = P.cellsOf t := by rw [fitsK_length _ _ hw, hlen]
    simp only [Value.formed]
    rw [hd] at hwide ⊢
    cases d <;> first | (cases hwide; done) | (show (ws.toArray.size == _) = true; simp [h1])
  refine ⟨?_, fun op xo yo => run_eqGuard_agg w op t xo yo _ _ q3⟩
  obtain ⟨r', h1, h2⟩ := run_equalIn_deep (P := P) 9960 40 t q2 w 40 40 (.agg us.toArray) (.agg vs.toArray) _ _ (formed us f1) (formed vs f2) (keyLits_flat P 40 t ks us q1 f1) (keyLits_flat P 40 t ks vs q1 f2)
  have : r' = r := by
    have : r' = true ↔ r = true := by rw [h2, f3]
    cases r' <;> cases r <;> simp_all
  subst this
  exact h1
theorem eq_nn {t e : TypeId} (hd : P.underlying t = some (.pointer e)) (d : Nat) : (Op.equalIn (d + 1) t (.pointer none) (.pointer none)).run P w = .ok true w := by simp [Op.equalIn, run_underlying hd]
theorem eq_na {t e : TypeId} (hd : P.underlying t = some (.pointer e)) (a : Addr) (d : Nat) : (Op.equalIn (d + 1) t (.pointer none) (.pointer (some a))).run P w = .ok false w := by simp [Op.equalIn, run_underlying hd]
theorem eq_an {t e : TypeId} (hd : P.underlying t = some (.pointer e)) (a : Addr) (d : Nat) : (Op.equalIn (d + 1) t (.pointer (some a)) (.pointer none)).run P w = .ok false w := by simp [Op.equalIn, run_underlying hd]
theorem eq_ss {t e : TypeId} (hd : P.underlying t = some (.slice e)) (d : Nat) : (Op.equalIn (d + 1) t (.slice none 0 0) (.slice none 0 0)).run P w = .ok true w := by simp [Op.equalIn, run_underlying hd]
theorem eqB_ok (hE : E.Ok P) {t : Nat} {x y : AV} {r : Bool} {u v : Value} (h : eqB E t x y = some r) (hu : RV C x u) (hv : RV C y v) :
    (∀ xo yo, (do eqGuard .eql t xo yo u v; binOp .eql t u v : Sem Value).run P w = .ok (.bool r) w) ∧ (∀ xo yo, (do eqGuard .neq t xo yo u v; binOp .neq t u v : Sem Value).run P w = .ok (.bool (!r)) w) := by
  unfold eqB at h
  split at h
  · rename_i a b
    injection h with h
    subst h
    obtain ⟨rfl, -⟩ := rv_str_inv hu
    obtain ⟨rfl, -⟩ := rv_str_inv hv
    have e : (a.toList == b.toList) = decide (a = b) := by
      rw [ByteArray.toList_eq, ByteArray.toList_eq]
      by_cases e : a = b
      · subst e; simp
      · have : ¬ a.data.toList = b.data.toList := fun h => e (ba_ext h)
        rw [decide_eq_false e]
        exact beq_eq_false_iff_ne.2 this
    constructor <;> (intro xo yo; rw [eqGuard_at_string]; simp [binOp, Op.stringOp, e])
  · rename_i x y hns
    split at h
    · rename_i i hT
      have hund := (hE.T _ _ hT).und
      split at h
      · rename_i hk
        split at h
        · rename_i a b
          injection h with h
          subst h
          have := rv_bool_inv hu
          subst this
          have := rv_bool_inv hv
          subst this
          obtain ⟨d, hd, -, hkk⟩ := hund
          rw [hk] at hkk
          subst hkk
          have he := run_equal_bool (P := P) w t a b hd
          constructor <;> (intro xo yo; rw [eqGuard_at_bool]; simp [binOp, he])
        · cases h
      · rename_i e hk
        obtain ⟨d, hd, -, hkk⟩ := hund
        rw [hk] at hkk
        subst hkk
        split at h
        · injection h with h
          subst h
          have := rv_nilp_inv hu
          subst this
          have := rv_nilp_inv hv
          subst this
          have he : (Op.equal t (.pointer none) (.pointer none)).run P w = .ok true w := eq_nn hd 9999
          constructor <;> (intro xo yo; rw [eqGuard_at_pointer]; simp [binOp, he])
        · injection h with h
          subst h
          have := rv_nilp_inv hu
          subst this
          obtain ⟨rfl, -⟩ := rv_ptr_inv hv
          rename_i id p
          have he : (Op.equal t (.pointer none) (.pointer (some ⟨(C.φ id).blk, p.off, none⟩))).run P w = .ok false w := eq_na hd _ 9999
          constructor <;> (intro xo yo; rw [eqGuard_at_pointer]; simp [binOp, he])
        · injection h with h
          subst h
          have := rv_nilp_inv hv
          subst this
          obtain ⟨rfl, -⟩ := rv_ptr_inv hu
          rename_i id p
          have he : (Op.equal t (.pointer (some ⟨(C.φ id).blk, p.off, none⟩)) (.pointer none)).run P w = .ok false w := eq_an hd _ 9999
          constructor <;> (intro xo yo; rw [eqGuard_at_pointer]; simp [binOp, he])
        · cases h
      · rename_i e hk
        obtain ⟨d, hd, -, hkk⟩ := hund
        rw [hk] at hkk
        subst hkk
        split at h
        · injection h with h
          subst h
          have := rv_nils_inv hu
          subst this
          have := rv_nils_inv hv
          subst this
          have he : (Op.equal t (.slice none 0 0) (.slice none 0 0)).run P w = .ok true w := eq_ss hd 9999
          constructor <;> (intro xo yo; rw [eqGuard_at_slice]; simp [binOp, he])
        · cases h
      · rw [Bool.cond_eq_ite] at h
        split at h
        · rename_i hg
          split at h
          · rename_i as bs
            split at h
            · rename_i ks hQ
              obtain ⟨he, hgd⟩ := eqA_ok (w := w) hE hT hg hQ h hu hv
              obtain ⟨us, rfl, -⟩ := rv_agg_inv hu
              obtain ⟨vs, rfl, -⟩ := rv_agg_inv hv
              constructor <;> (intro xo yo; simp [hgd, binOp, he])
            · cases h
          · cases h
        · cases h
    · cases h
theorem binD_ok (hE : E.Ok P) {op : BinOp} {t : Nat} {x y : AV} {p q : Prop} {av : AV} {u v : Value} {xo yo : Operand} (h : binD E op t x y = some (p, q, av)) (hp : p) (hu : RV C x u) (hv : RV C y v) :
    q ∧ ∃ r, (do eqGuard op t xo yo u v; binOp op t u v : Sem Value).run P w = .ok r w ∧ RV C av r := by
  unfold binD at h
  split at h
  · rename_i k a k' b
    rw [Bool.cond_eq_ite] at h
    split at h
    · rename_i hk
      have hk := of_decide_eq_true hk
      subst hk
      split at h
      · rename_i p' v' hi
        simp only [Option.some.injEq, Prod.mk.injEq] at h
        obtain ⟨rfl, rfl, rfl⟩ := h
        obtain ⟨rfl, h1⟩ := rv_int_inv hu
        obtain ⟨rfl, h2⟩ := rv_int_inv hv
        exact ⟨⟨okN_iff.2 h1, okN_iff.2 h2⟩, intB_ok hi hp h1 h2⟩
      · cases h
    · cases h
  · split at h
    · split at h
      · rename_i r hr
        simp only [Option.some.injEq, Prod.mk.injEq] at h
        obtain ⟨rfl, rfl, rfl⟩ := h
        exact ⟨trivial, _, (eqB_ok hE hr hu hv).1 _ _, rv_bool _⟩
      · cases h
    · split at h
      · rename_i r hr
        simp only [Option.some.injEq, Prod.mk.injEq] at h
        obtain ⟨rfl, rfl, rfl⟩ := h
        exact ⟨trivial, _, (eqB_ok hE hr hu hv).2 _ _, rv_bool _⟩
      · cases h
    · cases h
end
end Go.Proofs.Ytpjdicndjakeoaa
