/- The engine: equality of structs and arrays. No condition. -/
import Derived.Test.YtpjdicndjakeoaaE5
namespace Go.Proofs.Ytpjdicndjakeoaa
open Go.RowKit
set_option linter.unusedVariables false
set_option linter.unusedSimpArgs false
inductive FK where
  | b | i (k : IntKind) | s
  deriving DecidableEq
def litV : Value → Lit
  | .bool b => .bool b
  | .int k n => .int k n
  | .string s => .string s.data.toList
  | _ => .bool false
def fitsK : List FK → List Value → Prop
  | [], [] => True
  | .b :: ks, .bool _ :: vs => fitsK ks vs
  | .i k :: ks, .int k' n :: vs => k' = k ∧ k.min ≤ n ∧ n ≤ k.max ∧ fitsK ks vs
  | .s :: ks, .string s :: vs => s.size ≤ maxLen ∧ fitsK ks vs
  | _, _ => False
theorem fitsK_append : ∀ (ks ls : List FK) (vs : List Value), fitsK (ks ++ ls) vs → fitsK ks (vs.take ks.length) ∧ fitsK ls (vs.drop ks.length)
  | [], ls, vs, h => by simpa [fitsK] using h
  | k :: ks, ls, [], h => by cases k <;> exact h.elim
  | k :: ks, ls, v :: vs, h => by
    cases k <;> cases v <;> first | exact h.elim | skip
    all_goals simp only [List.cons_append, fitsK] at h
    · have := fitsK_append ks ls vs h
      simpa [fitsK] using this
    · obtain ⟨h1, h2, h3, h4⟩ := h
      have := fitsK_append ks ls vs h4
      simpa [fitsK, h1, h2, h3] using this
    · obtain ⟨h1, h4⟩ := h
      have := fitsK_append ks ls vs h4
      simpa [fitsK, h1] using this
theorem fitsK_length : ∀ (ks : List FK) (vs : List Value), fitsK ks vs → vs.length = ks.length
  | [], [], h => rfl
  | [], _ :: _, h => h.elim
  | k :: ks, [], h => by cases k <;> exact h.elim
  | k :: ks, v :: vs, h => by
    cases k <;> cases v <;> first | exact h.elim | skip
    all_goals simp only [fitsK] at h
    · simp [fitsK_length ks vs h]
    · simp [fitsK_length ks vs h.2.2.2]
    · simp [fitsK_length ks vs h.2]
/-- The kinds of a type's cells. -/
def flatFs (P : Program) (F : TypeId → Option (List FK)) : List Field → Nat → Option (List FK)
  | [], _ => some []
  | f :: fs, off => if f.offset = off ∧ (f.name != "_") = true then
      (match F f.type with
        | some ks => if ks.length = P.cellsOf f.type then (match flatFs P F fs (off + P.cellsOf f.type) with
          | some ls => some (ks ++ ls)
          | none => none) else none
        | none => none) else none
def flatK (P : Program) : Nat → TypeId → Option (List FK)
  | 0, _ => none
  | d + 1, t => match P.underlying t with
    | some .bool => some [.b]
    | some (.int q) => some [.i q]
    | some .string => some [.s]
    | some (.array n e) => match flatK P d e with
      | some ks => if ks.length = P.cellsOf e ∧ P.cellsOf t = n * P.cellsOf e then some (List.replicate n ks).flatten else none
      | none => none
    | some (.struct fs) => match flatFs P (flatK P d) fs.toList 0 with
      | some ks => if ks.length = P.cellsOf t then some ks else none
      | none => none
    | _ => none
theorem mapM_range {β : Type} (f : Nat → Option β) (g : Nat → β) : ∀ (n : Nat), (∀ i, i < n → f i = some (g i)) → (List.range n).mapM f = some ((List.range n).map g) := by
  intro n h
  have : ∀ (l : List Nat), (∀ i ∈ l, f i = some (g i)) → l.mapM f = some (l.map g) := by
    intro l
    induction l with
    | nil => intro _; rfl
    | cons a l ih =>
      intro hl
      rw [List.mapM_cons, hl a (by simp), ih (fun i hi => hl i (by simp [hi]))]
      rfl
  exact this _ (fun i hi => h i (List.mem_range.1 hi))
theorem keyLits_flat (P : Program) : ∀ (d : Nat) (t : TypeId) (ks : List FK) (vs : List Value), flatK P d t = some ks → fitsK ks vs → P.keyLits d t vs = some (vs.map litV)
  | 0, t, ks, vs, h, hf => by simp [flatK] at h
  | d + 1, t, ks, vs, h, hf => by
    have ih := keyLits_flat P d
    have hlv := fitsK_length _ _ hf
    unfold flatK at h
    unfold Program.keyLits
    split at h
    · rename_i hu
      cases h
      match vs, hf with
      | [.bool b], _ => simp [hu, litV]
    · rename_i q hu
      cases h
      match vs, hf with
      | [.int k n], hf =>
        simp only [fitsK] at hf
        obtain ⟨rfl, h1, h2, -⟩ := hf
        simp [hu, litV, Lit.wf, h1, h2]
    · rename_i hu
      cases h
      match vs, hf with
      | [.string s], hf =>
        simp only [fitsK] at hf
        simp [hu, litV, hf.1]
    · rename_i n e hu
      split at h
      · rename_i ls hls
        split at h
        · rename_i hc
          cases h
          obtain ⟨h1, h2⟩ := hc
          have hl : vs.length = P.cellsOf t := by rw [hlv, h2]; simp [h1]
          simp only [hu, hl, if_true]
          have key : ∀ (m : Nat) (us : List Value), fitsK (List.replicate m ls).flatten us → ∀ i, i < m → P.keyLits d e ((us.drop (i * P.cellsOf e)).take (P.cellsOf e)) = some (((us.drop (i * P.cellsOf e)).take (P.cellsOf e)).map litV) := by
            intro m
            induction m with
            | zero => intro us _ i hi; omega
            | succ m ihm =>
              intro us hu i hi
              rw [List.replicate_succ, List.flatten_cons] at hu
              obtain ⟨g1, g2⟩ := fitsK_append _ _ _ hu
              rw [h1] at g1 g2
              cases i with
              | zero => rw [Nat.zero_mul, List.drop_zero]; exact ih e ls _ hls g1
              | succ i =>
                have := ihm _ g2 i (by omega)
                rw [List.drop_drop] at this
                rw [Nat.succ_mul, Nat.add_comm]
                exact this
          rw [mapM_range _ _ n (key n vs hf)]
          simp only [Option.map_some, Option.some.injEq]
          have hcat : ∀ (m : Nat) (us : List Value) (s : Nat), us.length = m * s → ((List.range m).map fun i => ((us.drop (i * s)).take s).map litV).flatten = us.map litV := by
            intro m
            induction m with
            | zero => intro us s h; have : us = [] := List.eq_nil_of_length_eq_zero (by simpa using h); subst this; rfl
            | succ m ihm =>
              intro us s h
              rw [Nat.succ_mul] at h
              rw [List.range_succ_eq_map, List.map_cons, List.flatten_cons, List.map_map]
              have e2 := ihm (us.drop s) s (by rw [List.length_drop]; omega)
              have e3 : ((fun i => ((us.drop (i * s)).take s).map litV) ∘ Nat.succ) = fun i => (((us.drop s).drop (i * s)).take s).map litV := by
                funext i
                simp only [Function.comp, List.drop_drop, Nat.succ_eq_add_one, Nat.add_mul, Nat.one_mul, Nat.add_comm]
              rw [e3, e2, Nat.zero_mul, List.drop_zero, ← List.map_append, List.take_append_drop]
          exact hcat n vs _ (by rw [hl, h2])
        · cases h
      · cases h
    · rename_i fs hu
      split at h
      · rename_i ls hls
        split at h
        · rename_i hc
          cases h
          have hl : vs.length = P.cellsOf t := by rw [hlv, hc]
          have key : ∀ (fs : List Field) (off : Nat) (ls : List FK) (us : List Value), flatFs P (flatK P d) fs off = some ls → fitsK ls (us.drop off) → (fs.mapM fun f => P.keyLits d f.type ((us.drop f.offset).take (P.cellsOf f.type))).map List.flatten = some ((us.drop off).map litV) ∧ ∀ f ∈ fs, (f.name != "_") = true := by
            intro fs
            induction fs with
            | nil =>
              intro off ls us h hf
              cases h
              have := fitsK_length _ _ hf
              have : us.drop off = [] := List.eq_nil_of_length_eq_zero this
              rw [this]
              exact ⟨rfl, by simp⟩
            | cons f fs ihf =>
              intro off ls us h hf
              unfold flatFs at h
              split at h
              · rename_i hcond
                split at h
                · rename_i k1 hk1
                  split at h
                  · rename_i hk2
                    split at h
                    · rename_i l2 hl2
                      cases h
                      obtain ⟨g1, g2⟩ := fitsK_append _ _ _ hf
                      rw [hk2] at g1 g2
                      rw [List.drop_drop] at g2
                      obtain ⟨i1, i2⟩ := ihf _ _ _ hl2 g2
                      refine ⟨?_, fun f' hf' => ?_⟩
                      · rw [List.mapM_cons, hcond.1, ih _ _ _ hk1 g1]
                        cases hm : (fs.mapM fun f => P.keyLits d f.type ((us.drop f.offset).take (P.cellsOf f.type))) with
                        | none => rw [hm] at i1; cases i1
                        | some y =>
                          rw [hm] at i1
                          simp only [Option.map_some, Option.some.injEq] at i1
                          show some (_ ++ y.flatten) = _
                          rw [i1, ← List.map_append, ← List.drop_drop, List.take_append_drop]
                      · rcases List.mem_cons.1 hf' with rfl | hf'
                        · exact hcond.2
                        · exact i2 f' hf'
                    · cases h
                  · cases h
                · cases h
              · cases h
          obtain ⟨k1, k2⟩ := key fs.toList 0 ks vs hls (by simpa using hf)
          have hall : fs.all (·.name != "_") = true := by
            rw [Array.all_eq_true_iff_forall_mem]
            exact fun f hf => k2 f (Array.mem_toList_iff.2 hf)
          simp only [hu, hl, hall, and_self, if_true]
          simpa using k1
        · cases h
      · cases h
    · cases h
/-! ### of abstract values -/
def stripK : Nat → FK → List FK → Option (List FK)
  | 0, _, ks => some ks
  | n + 1, f, g :: ks => bif decide (f = g) then stripK n f ks else none
  | _ + 1, _, [] => none
theorem stripK_ok : ∀ (n : Nat) (f : FK) (ks ls : List FK), stripK n f ks = some ls → ks = List.replicate n f ++ ls
  | 0, f, ks, ls, h => by cases h; rfl
  | n + 1, f, [], ls, h => by cases h
  | n + 1, f, g :: ks, ls, h => by
    rw [stripK, Bool.cond_eq_ite] at h
    split at h
    · rename_i e
      have e := of_decide_eq_true e
      subst e
      rw [stripK_ok n f ks ls h]
      rfl
    · cases h
def eqL : List FK → List AV → List AV → Option Bool
  | ks, .int k a :: as, .int k' b :: bs => match ks with
    | .i q :: ks => bif decide (k = q) && decide (k' = q) then (match eqL ks as bs with | some r => some ((a == b) && r) | none => none) else none
    | _ => none
  | ks, .bool a :: as, .bool b :: bs => match ks with
    | .b :: ks => (match eqL ks as bs with | some r => some ((a == b) && r) | none => none)
    | _ => none
  | ks, .str a :: as, .str b :: bs => match ks with
    | .s :: ks => (match eqL ks as bs with | some r => some (decide (a = b) && r) | none => none)
    | _ => none
  | ks, .arr n .bool xs :: as, .arr m .bool ys :: bs => bif Nat.beq n m then (match stripK n .b ks with
      | some ks => (match eqL ks as bs with | some r => some (decide (xs = ys) && r) | none => none)
      | none => none) else none
  | ks, .arr n .int xs :: as, .arr m .int ys :: bs => bif Nat.beq n m then (match stripK n (.i .i64) ks with
      | some ks => (match eqL ks as bs with | some r => some (decide (xs = ys) && r) | none => none)
      | none => none) else none
  | [], [], [] => some true
  | _, _, _ => none
theorem fitsK_cat : ∀ (ks ls : List FK) (us vs : List Value), fitsK ks us → fitsK ls vs → fitsK (ks ++ ls) (us ++ vs)
  | [], ls, [], vs, _, h => h
  | [], ls, _ :: _, vs, h, _ => h.elim
  | k :: ks, ls, [], vs, h, _ => by cases k <;> exact h.elim
  | k :: ks, ls, u :: us, vs, h, h2 => by
    cases k <;> cases u <;> first | exact h.elim | skip
    all_goals simp only [List.cons_append, fitsK] at h ⊢
    · exact fitsK_cat ks ls us vs h h2
    · exact ⟨h.1, h.2.1, h.2.2.1, fitsK_cat ks ls us vs h.2.2.2 h2⟩
    · exact ⟨h.1, fitsK_cat ks ls us vs h.2 h2⟩
theorem reps_bools {C : Cx} : ∀ (xs : List Bool) (us : List Value), Reps C (xs.flatMap (enc .bool)) us → us = xs.map Value.bool ∧ fitsK (List.replicate xs.length .b) us
  | [], us, h => by have := h.nil_inv; subst this; exact ⟨rfl, trivial⟩
  | x :: xs, us, h => by
    simp only [List.flatMap_cons, enc, List.cons_append, List.nil_append] at h
    cases h with
    | bool h =>
      obtain ⟨h1, h2⟩ := reps_bools xs _ h
      exact ⟨by rw [h1]; rfl, h2⟩
theorem reps_ints {C : Cx} : ∀ (xs : List Int) (us : List Value), Reps C (xs.flatMap (enc .int)) us → us = xs.map (Value.int .i64) ∧ fitsK (List.replicate xs.length (.i .i64)) us
  | [], us, h => by have := h.nil_inv; subst this; exact ⟨rfl, trivial⟩
  | x :: xs, us, h => by
    simp only [List.flatMap_cons, enc, List.cons_append, List.nil_append] at h
    cases h with
    | int a b h =>
      obtain ⟨h1, h2⟩ := reps_ints xs _ h
      exact ⟨by rw [h1]; rfl, rfl, a, b, h2⟩
theorem ba_ext {a b : ByteArray} (h : a.data.toList = b.data.toList) : a = b := by
  obtain ⟨⟨x⟩⟩ := a
  obtain ⟨⟨y⟩⟩ := b
  simp at h
  rw [h]
theorem app_eq {α : Type} {a b c d : List α} (h : a.length = b.length) : a ++ c = b ++ d ↔ a = b ∧ c = d :=
  ⟨fun e => List.append_inj e h, fun ⟨e1, e2⟩ => by rw [e1, e2]⟩
theorem map_eq {α β : Type} (f : α → β) (hf : ∀ a b, f a = f b → a = b) : ∀ (xs ys : List α), xs.map f = ys.map f ↔ xs = ys
  | [], [] => by simp
  | [], _ :: _ => by simp
  | _ :: _, [] => by simp
  | x :: xs, y :: ys => by
    simp only [List.map_cons, List.cons.injEq, map_eq f hf xs ys]
    exact and_congr_left fun _ => ⟨hf x y, fun e => by rw [e]⟩
theorem eqL_ok {C : Cx} : ∀ (ks : List FK) (as bs : List AV) (r : Bool) (us vs : List Value), eqL ks as bs = some r → Reps C as us → Reps C bs vs → fitsK ks us ∧ fitsK ks vs ∧ (r = true ↔ us.map litV = vs.map litV) := by
  intro ks as bs
  fun_induction eqL ks as bs
  all_goals intro r us vs h h1 h2
  all_goals try (cases h; done)
  case case1 =>
    rename_i ih
    injection h with h
    subst h
    rename_i hk _ _
    simp only [Bool.and_eq_true, decide_eq_true_eq] at hk
    obtain ⟨rfl, rfl⟩ := hk
    cases h1 with
    | int a1 a2 a3 =>
      cases h2 with
      | int b1 b2 b3 =>
        obtain ⟨i1, i2, i3⟩ := ih _ _ _ (by assumption) a3 b3
        exact ⟨⟨rfl, a1, a2, i1⟩, ⟨rfl, b1, b2, i2⟩, by simp [litV, i3]⟩
  case case5 =>
    rename_i ih
    injection h with h
    subst h
    cases h1 with
    | bool a3 =>
      cases h2 with
      | bool b3 =>
        obtain ⟨i1, i2, i3⟩ := ih _ _ _ (by assumption) a3 b3
        exact ⟨i1, i2, by simp [litV, i3]⟩
  case case8 =>
    rename_i ih
    injection h with h
    subst h
    cases h1 with
    | str a1 a3 =>
      cases h2 with
      | str b1 b3 =>
        obtain ⟨i1, i2, i3⟩ := ih _ _ _ (by assumption) a3 b3
        refine ⟨⟨a1, i1⟩, ⟨b1, i2⟩, ?_⟩
        simp only [Bool.and_eq_true, decide_eq_true_eq, List.map_cons, litV, List.cons.injEq, Lit.string.injEq, i3]
        refine and_congr_left fun _ => ⟨fun e => by rw [e], fun e => ?_⟩
        exact ba_ext e
  case case11 =>
    rename_i hs _ _ ih
    injection h with h
    subst h
    rename_i hb _ _ _
    have e := Nat.eq_of_beq_eq_true hb
    subst e
    have e := stripK_ok _ _ _ _ hs
    subst e
    cases h1 with
    | arr a1 a2 a3 =>
      cases h2 with
      | arr b1 b2 b3 =>
        obtain ⟨i1, i2, i3⟩ := ih _ _ _ (by assumption) a3 b3
        obtain ⟨e1, f1⟩ := reps_bools _ _ a1
        obtain ⟨e2, f2⟩ := reps_bools _ _ b1
        rw [a2] at f1
        rw [b2] at f2
        refine ⟨fitsK_cat _ _ _ _ f1 i1, fitsK_cat _ _ _ _ f2 i2, ?_⟩
        rw [e1, e2, List.map_append, List.map_append, app_eq (by simp [a2, b2]), List.map_map, List.map_map, map_eq (litV ∘ Value.bool) (fun a b h => by simpa [litV] using h), ← i3]
        simp
  case case15 =>
    rename_i hs _ _ ih
    injection h with h
    subst h
    rename_i hb _ _ _
    have e := Nat.eq_of_beq_eq_true hb
    subst e
    have e := stripK_ok _ _ _ _ hs
    subst e
    cases h1 with
    | arr a1 a2 a3 =>
      cases h2 with
      | arr b1 b2 b3 =>
        obtain ⟨i1, i2, i3⟩ := ih _ _ _ (by assumption) a3 b3
        obtain ⟨e1, f1⟩ := reps_ints _ _ a1
        obtain ⟨e2, f2⟩ := reps_ints _ _ b1
        rw [a2] at f1
        rw [b2] at f2
        refine ⟨fitsK_cat _ _ _ _ f1 i1, fitsK_cat _ _ _ _ f2 i2, ?_⟩
        rw [e1, e2, List.map_append, List.map_append, app_eq (by simp [a2, b2]), List.map_map, List.map_map, map_eq (litV ∘ Value.int .i64) (fun a b h => by simpa [litV] using h), ← i3]
        simp
  case case19 =>
    injection h with h
    subst h
    have := h1.nil_inv
    subst this
    have := h2.nil_inv
    subst this
    exact ⟨trivial, trivial, by simp⟩
end Go.Proofs.Ytpjdicndjakeoaa
