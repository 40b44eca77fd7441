/- Plain law of layer 4: what Check tells is what the reference tells. -/
import Derived.Test.YtaajighbnkifhaaP04
namespace Go.Proofs.Ytaajighbnkifhaa
open Go.RowKit
set_option linter.unusedVariables false
set_option linter.unusedSimpArgs false
theorem bcheck_nn {b : Bun} {t : Int} (h : bcheck b t = 0) : 0 ≤ b.c := by
  obtain ⟨c, o, hs, d⟩ := b
  unfold bcheck at h
  cases o <;> cases hs <;> simp at h ⊢ <;> omega
theorem end_tt (c : Cfg) (n : Int) : endE c n true true = anyE c n := by simp [endE, anyE, nodeE]
theorem end_ft (c : Cfg) (n : Int) : endE c n false true = nodeE c n := by simp [endE, nodeE]
theorem end_tf (c : Cfg) (n : Int) : endE c n true false = decide (n = c.nodes) := by simp [endE]
theorem row1 : rowOf 1 = (⟨true, true, true, true, false, false, false, true⟩, true) := by simp [rowOf]
theorem row2 : rowOf 2 = (⟨false, true, true, true, false, false, true, false⟩, true) := by simp [rowOf]
theorem row3 : rowOf 3 = (⟨false, true, true, false, false, false, false, false⟩, true) := by simp [rowOf]
theorem row4 : rowOf 4 = (⟨true, false, false, true, true, true, false, false⟩, true) := by simp [rowOf]
theorem row5 : rowOf 5 = (⟨false, true, true, false, true, false, false, false⟩, true) := by simp [rowOf]
theorem row6 : rowOf 6 = (⟨true, false, false, true, true, false, false, false⟩, true) := by simp [rowOf]
theorem row7 : rowOf 7 = (⟨false, true, true, false, true, false, false, false⟩, true) := by simp [rowOf]
theorem seven {k : Int} (h : ¬ (k < 1 ∨ 7 < k)) : k = 1 ∨ k = 2 ∨ k = 3 ∨ k = 4 ∨ k = 5 ∨ k = 6 ∨ k = 7 := by omega
theorem ends_iff (c : Cfg) (l : Ltr) (hk : ¬ (l.kind < 1 ∨ 7 < l.kind)) :
    (l.frm = l.to ∨ endE c l.frm (rowOf l.kind).1.fh (rowOf l.kind).1.fn = false ∨ endE c l.to (rowOf l.kind).1.th (rowOf l.kind).1.tn = false) ↔ endsE c l = false := by
  obtain ⟨kind, frm, tt, block, seq, who, wr, tok⟩ := l
  simp only at hk
  by_cases e : frm = tt
  · simp [endsE, e]
  · rcases seven hk with rfl | rfl | rfl | rfl | rfl | rfl | rfl
    all_goals
      simp only [row1, row2, row3, row4, row5, row6, row7, end_tt, end_ft, end_tf, endsE, e]
      generalize anyE c frm = A1
      generalize anyE c tt = A2
      generalize nodeE c frm = N1
      generalize nodeE c tt = N2
      generalize decide (frm = c.nodes) = D1
      generalize decide (tt = c.nodes) = D2
      cases A1 <;> cases A2 <;> cases N1 <;> cases N2 <;> cases D1 <;> cases D2 <;> simp
theorem form_iff (c : Cfg) (l : Ltr) (hk : ¬ (l.kind < 1 ∨ 7 < l.kind)) :
    formE c l (rowOf l.kind).1 = false ↔ (((4 ≤ l.kind ∧ l.seq < 1) ∨ (l.kind < 4 ∧ l.seq ≠ 0)) ∨ ((l.kind = 4 ∧ nodeE c l.who = false) ∨ (l.kind ≠ 4 ∧ l.who ≠ 0)) ∨ (l.wr = true ∧ l.kind ≠ 2)) := by
  obtain ⟨kind, frm, tt, block, seq, who, wr, tok⟩ := l
  simp only at hk
  rcases seven hk with rfl | rfl | rfl | rfl | rfl | rfl | rfl
  all_goals
    simp only [row1, row2, row3, row4, row5, row6, row7, formE, end_ft]
    generalize nodeE c who = W
    rcases (show seq < 0 ∨ seq = 0 ∨ 1 ≤ seq from by omega) with s | s | s <;> by_cases v : who = 0 <;> cases wr <;> cases W <;> simp [s, v] <;> omega
theorem tok_iff (l : Ltr) (hk : ¬ (l.kind < 1 ∨ 7 < l.kind)) : (rowOf l.kind).1.tk = false ↔ l.kind ≠ 1 := by
  rcases seven hk with h | h | h | h | h | h | h <;> rw [h] <;> simp [row1, row2, row3, row4, row5, row6, row7]
theorem ok_true (l : Ltr) (hk : ¬ (l.kind < 1 ∨ 7 < l.kind)) : (rowOf l.kind).2 = true := by
  rcases seven hk with h | h | h | h | h | h | h <;> rw [h] <;> simp [row1, row2, row3, row4, row5, row6, row7]
theorem lcheck_eq (c : Cfg) (l : Ltr) : lcheck c l = rlcheck c l := by
  unfold lcheck rlcheck
  by_cases k0 : l.kind < 1 ∨ 7 < l.kind
  · rw [if_pos k0]
    have : rowOf l.kind = (⟨false, false, false, false, false, false, false, false⟩, false) := by
      unfold rowOf
      rw [if_neg (by omega), if_neg (by omega), if_neg (by omega), if_neg (by omega), if_neg (by omega), if_neg (by omega), if_neg (by omega)]
    rw [this]
    simp [lcheckR]
  · rw [if_neg k0]
    unfold lcheckR
    rw [ok_true l k0, if_neg (by simp)]
    by_cases k1 : l.block < 0 ∨ c.blocks ≤ l.block
    · rw [if_pos k1, if_pos k1]
    · rw [if_neg k1, if_neg k1]
      by_cases k2 : endsE c l = false
      · rw [if_pos ((ends_iff c l k0).2 k2), if_pos k2]
      · rw [if_neg (fun h => k2 ((ends_iff c l k0).1 h)), if_neg k2]
        have F := form_iff c l k0
        by_cases f1 : (4 ≤ l.kind ∧ l.seq < 1) ∨ (l.kind < 4 ∧ l.seq ≠ 0)
        · rw [if_pos (F.2 (Or.inl f1)), if_pos f1]
        · by_cases f2 : (l.kind = 4 ∧ nodeE c l.who = false) ∨ (l.kind ≠ 4 ∧ l.who ≠ 0)
          · rw [if_pos (F.2 (Or.inr (Or.inl f2))), if_neg f1, if_pos f2]
          · by_cases f3 : l.wr = true ∧ l.kind ≠ 2
            · rw [if_pos (F.2 (Or.inr (Or.inr f3))), if_neg f1, if_neg f2, if_pos f3]
            · rw [if_neg (fun h => (F.1 h).elim f1 fun h => h.elim f2 f3), if_neg f1, if_neg f2, if_neg f3]
              by_cases k3 : l.kind ≠ 1
              · rw [if_pos ((tok_iff l k0).2 k3), if_pos k3]
              · rw [if_neg (fun h => k3 ((tok_iff l k0).1 h)), if_neg k3]
                by_cases b0 : bcheck l.tok c.tokens ≠ 0
                · rw [if_pos b0, if_pos b0]
                · rw [if_neg b0, if_neg b0]
                  have := bcheck_nn (Classical.not_not.1 b0)
                  by_cases z : l.tok.c = 0
                  · rw [if_neg (by omega), if_pos z]
                  · rw [if_pos (by omega), if_neg z]
/-- What is known of a letter that may be on its way. -/
theorem self_plain {c : Cfg} {l : Ltr} (h : lcheck c l = 0) : l.frm ≠ l.to ∧ anyE c l.frm = true ∧ anyE c l.to = true ∧ (l.kind = 1 ↔ 0 < l.tok.c) := by
  rw [lcheck_eq] at h
  unfold rlcheck at h
  split at h
  · cases h
  rename_i k0
  split at h
  · cases h
  split at h
  · cases h
  rename_i k2
  have hn : ∀ n, nodeE c n = true → anyE c n = true := fun n h => by simp [anyE, h]
  have hd : ∀ n, decide (n = c.nodes) = true → anyE c n = true := fun n h => by simp [anyE, h]
  have h3 : l.frm ≠ l.to ∧ anyE c l.frm = true ∧ anyE c l.to = true := by
    unfold endsE at k2
    split at k2
    · exact absurd rfl k2
    · rename_i e
      refine ⟨e, ?_⟩
      split at k2
      · simpa using k2
      split at k2
      · simp at k2; exact ⟨hn _ k2.1, k2.2⟩
      split at k2
      · simp at k2; exact ⟨hd _ (by simpa using k2.1), hn _ k2.2⟩
      · simp at k2; exact ⟨hn _ k2.1, hd _ (by simpa using k2.2)⟩
  refine ⟨h3.1, h3.2.1, h3.2.2, ?_⟩
  split at h
  · cases h
  split at h
  · cases h
  split at h
  · cases h
  split at h
  · rename_i k3
    split at h
    · rename_i t
      rw [t]
      simp [bun0, k3]
    · cases h
  · rename_i k3
    have k3' : l.kind = 1 := Classical.byContradiction k3
    split at h
    · rename_i b; exact absurd h b
    · rename_i b0
      have := bcheck_nn (Classical.not_not.1 b0)
      split at h
      · cases h
      · rename_i z
        exact ⟨fun _ => by omega, fun _ => k3'⟩
end Go.Proofs.Ytaajighbnkifhaa
