/- Layer 24: the plain law: what is printed is parsed as it was, what is parsed is printed as it was; parts. No program in sight. -/
import Derived.Test.YtpkidbhpfohopaaDoorN15
noncomputable section
namespace Go.Proofs.YtpkidbhpfohopaaDoor
open Go.RowKit
set_option linter.unusedVariables false
set_option linter.unusedSimpArgs false
theorem dec_dig (k : Nat) : ∀ u, u ≤ k → ∀ b ∈ Lib.decDigits u, 48 ≤ b.toNat := by
  induction k with
  | zero =>
    intro u hu b hb
    rw [dec1 (by omega), List.mem_singleton] at hb
    rw [hb, dig_toNat (by omega)]
    omega
  | succ k ih =>
    intro u hu b hb
    by_cases h : u < 10
    · rw [dec1 h, List.mem_singleton] at hb
      rw [hb, dig_toNat h]
      omega
    · rw [decS h] at hb
      rcases List.mem_append.1 hb with hb | hb
      · exact ih (u / 10) (by omega) b hb
      · rw [List.mem_singleton] at hb
        rw [hb, dig_toNat (by omega)]
        omega
theorem itoa_dig (n : Int) : ∀ b ∈ Lib.itoa n, 45 ≤ b.toNat := by
  intro b hb
  unfold Lib.itoa at hb
  split at hb
  · rcases List.mem_cons.1 hb with rfl | hb
    · decide
    · have := dec_dig _ _ (Nat.le_refl _) b hb
      omega
  · have := dec_dig _ _ (Nat.le_refl _) b hb
    omega
theorem itoa_ne (c : UInt8) (hc : c.toNat < 45) (n : Int) : ∀ b ∈ Lib.itoa n, b ≠ c := fun b hb e => by
  have := itoa_dig n b hb
  rw [e] at this
  omega
/-! ### a line -/
def rowL (w : List UInt8) (xs : List Int) : List UInt8 := w ++ xs.flatMap fun x => 32 :: Lib.itoa x
theorem bl_row (w : ByteArray) (xs : List Int) : bl (rowB w xs) = rowL (bl w) xs ++ [10] := bl_rowB w xs
theorem spt_row : ∀ (xs : List Int) (w : List UInt8), (∀ b ∈ w, b ≠ 32) → spt 32 (rowL w xs) = w :: xs.map Lib.itoa
  | [], w, h => by
    unfold rowL
    rw [List.flatMap_nil, List.append_nil, spt_end w h]
    rfl
  | x :: xs, w, h => by
    have e : rowL w (x :: xs) = w ++ 32 :: rowL (Lib.itoa x) xs := by
      unfold rowL
      rw [List.flatMap_cons]
      rfl
    rw [e, spt_cut w _ h, spt_row xs (Lib.itoa x) (itoa_ne 32 (by decide) x)]
    rfl
theorem rowL_ne {w : List UInt8} {xs : List Int} (h : ∀ b ∈ w, b ≠ 10) : ∀ b ∈ rowL w xs, b ≠ 10 := by
  intro b hb
  unfold rowL at hb
  rcases List.mem_append.1 hb with hb | hb
  · exact h b hb
  · obtain ⟨x, -, hb⟩ := List.mem_flatMap.1 hb
    rcases List.mem_cons.1 hb with rfl | hb
    · decide
    · exact itoa_ne 10 (by decide) x b hb
theorem spl_row {w : ByteArray} {xs : List Int} (h : ∀ b ∈ bl w, b ≠ 32) : splB 32 (ofB (rowL (bl w) xs)) = w :: xs.map itoaB := by
  unfold splB
  rw [bl_ofB, spt_row xs _ h, List.map_cons, List.map_map, ofB_bl]
  congr 1
  apply List.map_congr_left
  intro x _
  show ofB (Lib.itoa x) = itoaB x
  rw [← bl_itoaB, ofB_bl]
theorem num_row {w : ByteArray} {xs : List Int} (h : ∀ x ∈ xs, inI x) : numOk (w :: xs.map itoaB) = true ∧ numV (w :: xs.map itoaB) = xs := by
  unfold numOk numV
  rw [List.drop_one, List.tail_cons]
  constructor
  · rw [List.all_eq_true]
    intro s hs
    obtain ⟨x, hx, rfl⟩ := List.mem_map.1 hs
    exact (nuO_itoa (h x hx).1 (h x hx).2).1
  · rw [List.map_map]
    conv => rhs; rw [← List.map_id xs]
    exact List.map_congr_left fun x hx => (nuO_itoa (h x hx).1 (h x hx).2).2
def hdL (c : Cfg) : List UInt8 := rowL (bl wWord) (headL c)
def eL (e : Ent) : List UInt8 := rowL (bl (enW e)) (enL e)
theorem w_32 : ∀ b ∈ bl wWord, b ≠ 32 := by decide
theorem w_10 : ∀ b ∈ bl wWord, b ≠ 10 := by decide
theorem enW_b {e : Ent} (h : kOk e = true) : (∀ b ∈ bl (enW e), b ≠ 32) ∧ (∀ b ∈ bl (enW e), b ≠ 10) ∧ (kindOf (enW e) : Int) = e.kind := by
  simp only [kOk, Bool.and_eq_true, decide_eq_true_eq] at h
  unfold enW
  rcases kind_cases h.1 h.2 with h | h | h | h <;> rw [h] <;> decide
theorem w_line {c : Cfg} (h : CfB c) : wOk (splB 32 (ofB (hdL c))) = true ∧ wV (splB 32 (ofB (hdL c))) = c := by
  unfold hdL
  rw [spl_row w_32]
  obtain ⟨h1, h2⟩ := num_row (w := wWord) h.ok
  have h3 : wOk (wWord :: (headL c).map itoaB) = true := wOk_t (okNm_t rfl h1) rfl
  refine ⟨h3, ?_⟩
  rw [wV_t h3, h2]
  rfl
theorem e_line {e : Ent} (h : EnB e) (hk : kOk e = true) : eOk (splB 32 (ofB (eL e))) = true ∧ eV (splB 32 (ofB (eL e))) = e := by
  obtain ⟨b1, b2, b3⟩ := enW_b hk
  simp only [kOk, Bool.and_eq_true, decide_eq_true_eq] at hk
  unfold eL
  rw [spl_row b1]
  obtain ⟨h1, h2⟩ := num_row (w := enW e) (enL_ok h)
  have h3 : eOk (enW e :: (enL e).map itoaB) = true := eOk_t (okNm_t rfl h1) (show kindOf (enW e) ≠ 0 by omega)
  refine ⟨h3, ?_⟩
  rw [eV_t h3, h2]
  show (⟨(kindOf (enW e) : Int), e.a, e.b, e.c, e.d⟩ : Ent) = e
  rw [b3]
/-! ### lines -/
theorem spt_lines : ∀ ls : List (List UInt8), (∀ x ∈ ls, ∀ b ∈ x, b ≠ 10) → spt 10 (ls.flatMap fun x => x ++ [10]) = ls ++ [[]]
  | [], _ => rfl
  | x :: ls, h => by
    rw [List.flatMap_cons, List.append_assoc, List.singleton_append, spt_cut x _ (h x (List.mem_cons_self ..)), spt_lines ls fun y hy => h y (List.mem_cons_of_mem _ hy)]
    rfl
theorem bl_pnP (c : Cfg) (l : List Ent) : bl (pnP c l) = (hdL c :: l.map eL).flatMap fun x => x ++ [10] := by
  have key : ∀ (l : List Ent) (a : ByteArray), bl (l.foldl (fun a e => a ++ enR e) a) = bl a ++ (l.map eL).flatMap fun x => x ++ [10] := by
    intro l
    induction l with
    | nil => intro a; simp
    | cons e l ih =>
      intro a
      rw [List.foldl_cons, ih, bl_app, List.map_cons, List.flatMap_cons, List.append_assoc]
      unfold enR
      rw [bl_row]
      rfl
  unfold pnP
  rw [key, bl_row, List.flatMap_cons]
  rfl
theorem all_10 {c : Cfg} {l : List Ent} (h : pnO l = true) : ∀ x ∈ hdL c :: l.map eL, ∀ b ∈ x, b ≠ 10 := by
  intro x hx
  rcases List.mem_cons.1 hx with rfl | hx
  · exact rowL_ne w_10
  · obtain ⟨e, he, rfl⟩ := List.mem_map.1 hx
    unfold pnO at h
    rw [List.all_eq_true] at h
    exact rowL_ne (enW_b (h e he)).2.1
theorem spl_pn {c : Cfg} {l : List Ent} (h : pnO l = true) : splB 10 (pnP c l) = ofB (hdL c) :: (l.map fun e => ofB (eL e)) ++ [⟨#[]⟩] := by
  unfold splB
  rw [bl_pnP, spt_lines _ (all_10 h), List.map_append, List.map_cons, List.map_map]
  rfl
theorem goE_more {x : ByteArray} {r : List ByteArray} {k : Nat} (h : r ≠ []) : goE (x :: r) k = if eOk (splB 32 x) = true then (goE r (k + 1)).put (eV (splB 32 x)) else .bad k := by
  match r, h with
  | [], h => exact absurd rfl h
  | y :: r', _ => rfl
theorem goE_back : ∀ (l : List Ent) (k : Nat), (∀ e ∈ l, EnB e) → pnO l = true → goE ((l.map fun e => ofB (eL e)) ++ [⟨#[]⟩]) k = .ok l
  | [], k, _, _ => rfl
  | e :: l, k, h, ho => by
    have ho' : kOk e = true ∧ pnO l = true := by
      unfold pnO at ho ⊢
      rw [List.all_cons, Bool.and_eq_true] at ho
      exact ho
    obtain ⟨h1, h2⟩ := e_line (h e (List.mem_cons_self ..)) ho'.1
    rw [List.map_cons, List.cons_append, goE_more (by simp), if_pos h1, h2, goE_back l (k + 1) (fun x hx => h x (List.mem_cons_of_mem _ hx)) ho'.2]
    rfl
/-- What is printed is parsed as it was. -/
theorem pr_pn {c : Cfg} {l : List Ent} (h : PnOk c l) (ho : pnO l = true) : prS (pnT c l) = ⟨c, l, 0, true⟩ := by
  rw [pnT_t ho]
  unfold prS
  rw [spl_pn ho]
  obtain ⟨h1, h2⟩ := w_line h.hc
  have h3 := goE_back l 2 h.hl ho
  cases he : (l.map fun e => ofB (eL e)) ++ [(⟨#[]⟩ : ByteArray)] with
  | nil => simp at he
  | cons y r =>
    rw [List.cons_append, he]
    simp only
    rw [if_pos h1, h2, ← he, h3]
    rfl
theorem pnP_size {c : Cfg} {l : List Ent} (h : PnOk c l) (ho : pnO l = true) : (pnP c l).size ≤ 195 + 90 * l.length := by
  have key : ∀ (l : List Ent) (a : ByteArray), (∀ e ∈ l, EnB e) → pnO l = true → (l.foldl (fun a e => a ++ enR e) a).size ≤ a.size + 90 * l.length := by
    intro l
    induction l with
    | nil => intro a _ _; exact Nat.le_refl _
    | cons e l ih =>
      intro a h ho
      unfold pnO at ho
      rw [List.all_cons, Bool.and_eq_true] at ho
      have h2 := ho.1
      simp only [kOk, Bool.and_eq_true, decide_eq_true_eq] at h2
      have h1 := enR_size (h e (List.mem_cons_self ..)) h2.1 h2.2
      have h3 := ih (a ++ enR e) (fun x hx => h x (List.mem_cons_of_mem _ hx)) ho.2
      rw [ba_size] at h3
      rw [List.foldl_cons, List.length_cons]
      omega
  have h1 := key l (rowB wWord (headL c)) h.hl ho
  have h2 := head_size h.hc
  unfold pnP
  omega
/-! ### what is parsed is printed as it was -/
theorem spt_join (c : UInt8) : ∀ (l : List UInt8), ∃ h t, spt c l = h :: t ∧ l = h ++ t.flatMap fun x => c :: x
  | [] => ⟨[], [], rfl, rfl⟩
  | x :: r => by
    obtain ⟨h, t, e1, e2⟩ := spt_join c r
    by_cases hx : x = c
    · refine ⟨[], h :: t, ?_, ?_⟩
      · rw [spt, if_pos hx, e1]
      · rw [List.nil_append, List.flatMap_cons, hx, List.cons_append, ← e2]
    · refine ⟨x :: h, t, ?_, ?_⟩
      · rw [spt, if_neg hx, e1]
      · rw [List.cons_append, ← e2]
theorem spl_join {c : UInt8} {s x : ByteArray} {r : List ByteArray} (h : splB c s = x :: r) : bl s = bl x ++ r.flatMap fun y => c :: bl y := by
  obtain ⟨a, t, e1, e2⟩ := spt_join c (bl s)
  unfold splB at h
  rw [e1, List.map_cons, List.cons.injEq] at h
  rw [e2, ← h.1, ← h.2, List.flatMap_map]
  rfl
theorem line_back {x w : ByteArray} {r : List ByteArray} (h : splB 32 x = w :: r) (ho : numOk (w :: r) = true) : bl x = rowL (bl w) (numV (w :: r)) := by
  rw [spl_join h]
  unfold rowL numV
  unfold numOk at ho
  rw [List.drop_one, List.tail_cons] at ho ⊢
  rw [List.all_eq_true] at ho
  congr 1
  rw [List.flatMap_map]
  have key : ∀ r : List ByteArray, (∀ y ∈ r, nuO y = true) → (r.flatMap fun y => 32 :: bl y) = r.flatMap fun y => 32 :: Lib.itoa (nuV y) := by
    intro r
    induction r with
    | nil => intro _; rfl
    | cons y r ih =>
      intro h
      rw [List.flatMap_cons, List.flatMap_cons, ih fun z hz => h z (List.mem_cons_of_mem _ hz), ← bl_itoaB, nuO_text (h y (List.mem_cons_self ..))]
  exact key r ho
theorem okNm_2 {l : List ByteArray} {n : Nat} (h : okNm l n = true) : l.length = n + 1 ∧ numOk l = true ∧ (numV l).length = n := by
  unfold okNm at h
  simp only [Bool.and_eq_true, decide_eq_true_eq] at h
  refine ⟨h.1, h.2, ?_⟩
  unfold numV
  rw [List.length_map, List.length_drop]
  omega
theorem list9 {l : List Int} (h : l.length = 9) : l = [l.getD 0 0, l.getD 1 0, l.getD 2 0, l.getD 3 0, l.getD 4 0, l.getD 5 0, l.getD 6 0, l.getD 7 0, l.getD 8 0] := by
  match l, h with
  | [a, b, c, d, e, f, g, h, i], _ => rfl
theorem list4 {l : List Int} (h : l.length = 4) : l = [l.getD 0 0, l.getD 1 0, l.getD 2 0, l.getD 3 0] := by
  match l, h with
  | [a, b, c, d], _ => rfl
theorem w_back {x : ByteArray} (h : wOk (splB 32 x) = true) : bl x = hdL (wV (splB 32 x)) := by
  rw [wV_t h]
  unfold wOk at h
  simp only [Bool.and_eq_true, decide_eq_true_eq] at h
  obtain ⟨h1, h2, h3⟩ := okNm_2 h.1
  cases e : splB 32 x with
  | nil => rw [e] at h1; cases h1
  | cons w r =>
    rw [e] at h h2 h3
    have hw : w = wWord := h.2
    rw [line_back e h2, hw]
    rw [hw] at h3
    unfold hdL
    congr 1
    exact list9 h3
theorem kind_back {w : ByteArray} (h : kindOf w ≠ 0) : w = wordL.getD (kindOf w) Ty.str.dflt ∧ 1 ≤ kindOf w ∧ kindOf w ≤ 4 := by
  by_cases h1 : w = ⟨#[111, 112]⟩
  · rw [h1]; decide
  · by_cases h2 : w = ⟨#[116, 97, 107, 101]⟩
    · rw [h2]; decide
    · by_cases h3 : w = ⟨#[100, 114, 111, 112]⟩
      · rw [h3]; decide
      · by_cases h4 : w = ⟨#[116, 105, 99, 107]⟩
        · rw [h4]; decide
        · refine absurd ?_ h
          unfold kindOf
          rw [if_neg h1, if_neg h2, if_neg h3, if_neg h4]
theorem e_back {x : ByteArray} (h : eOk (splB 32 x) = true) : bl x = eL (eV (splB 32 x)) ∧ kOk (eV (splB 32 x)) = true := by
  rw [eV_t h]
  unfold eOk at h
  simp only [Bool.and_eq_true, decide_eq_true_eq] at h
  obtain ⟨h1, h2, h3⟩ := okNm_2 h.1
  obtain ⟨k1, k2, k3⟩ := kind_back h.2
  cases e : splB 32 x with
  | nil => rw [e] at h1; cases h1
  | cons w r =>
    rw [e] at h h2 h3 k1 k2 k3
    replace k1 : w = wordL.getD (kindOf w) Ty.str.dflt := k1
    replace k2 : 1 ≤ kindOf w := k2
    replace k3 : kindOf w ≤ 4 := k3
    constructor
    · rw [line_back e h2]
      show rowL (bl w) (numV (w :: r)) = rowL (bl (wordL.getD (Int.toNat ((kindOf w : Nat) : Int)) Ty.str.dflt)) [(numV (w :: r)).getD 0 0, (numV (w :: r)).getD 1 0, (numV (w :: r)).getD 2 0, (numV (w :: r)).getD 3 0]
      rw [Int.toNat_natCast, ← k1, ← list4 h3]
    · show (decide (1 ≤ ((kindOf w : Nat) : Int)) && decide (((kindOf w : Nat) : Int) ≤ 4)) = true
      rw [decide_eq_true (by omega), decide_eq_true (by omega)]
      rfl
theorem goE_ok : ∀ (r : List ByteArray) (k : Nat) (m : List Ent), goE r k = .ok m → (r.flatMap fun y => 10 :: bl y) = 10 :: ((m.map eL).flatMap fun x => x ++ [10]) ∧ pnO m = true ∧ m.length + 1 = r.length
  | [], k, m, h => by cases h
  | [x], k, m, h => by
    rw [goE] at h
    split at h
    · rename_i hx
      obtain rfl : [] = m := by injection h
      subst hx
      exact ⟨rfl, rfl, rfl⟩
    · cases h
  | x :: y :: r, k, m, h => by
    rw [goE_more (by simp)] at h
    split at h
    · rename_i hx
      cases hg : goE (y :: r) (k + 1) with
      | bad j => rw [hg] at h; cases h
      | ok m' =>
        rw [hg] at h
        obtain rfl : eV (splB 32 x) :: m' = m := by injection h
        obtain ⟨h1, h2, h3⟩ := goE_ok (y :: r) (k + 1) m' hg
        obtain ⟨b1, b2⟩ := e_back hx
        refine ⟨?_, ?_, ?_⟩
        · rw [List.flatMap_cons, h1, b1, List.map_cons, List.flatMap_cons, List.append_assoc]
          rfl
        · unfold pnO at h2 ⊢
          rw [List.all_cons, b2, h2]
          rfl
        · rw [List.length_cons, List.length_cons, h3]
    · cases h
theorem goE_n : ∀ (r : List ByteArray) (k n : Nat), goE r k = .bad n → k ≤ n
  | [], k, n, h => by
    obtain rfl : k = n := by injection h
    exact Nat.le_refl _
  | [x], k, n, h => by
    rw [goE] at h
    split at h
    · cases h
    · obtain rfl : k = n := by injection h
      exact Nat.le_refl _
  | x :: y :: r, k, n, h => by
    rw [goE_more (by simp)] at h
    split at h
    · cases hg : goE (y :: r) (k + 1) with
      | ok m => rw [hg] at h; cases h
      | bad j =>
        rw [hg] at h
        obtain rfl : j = n := by injection h
        have := goE_n (y :: r) (k + 1) j hg
        omega
    · obtain rfl : k = n := by injection h
      exact Nat.le_refl _
theorem pr_cases (s : ByteArray) : (∃ n, 1 ≤ n ∧ prS s = ⟨cfg0, [], n, false⟩) ∨ (prS s).o = true ∧ pnO (prS s).l = true ∧ (prS s).l.length ≤ s.size ∧ pnT (prS s).c (prS s).l = s := by
  have hlen := splB_len 10 s
  cases e : splB 10 s with
  | nil => exact .inl ⟨1, Nat.le_refl _, by unfold prS; rw [e]⟩
  | cons x r =>
    rw [e] at hlen
    cases r with
    | nil => exact .inl ⟨1, Nat.le_refl _, by unfold prS; rw [e]⟩
    | cons y r' =>
      by_cases hw : wOk (splB 32 x) = true
      · cases hg : goE (y :: r') 2 with
        | bad n =>
          refine .inl ⟨n, by have := goE_n _ _ _ hg; omega, ?_⟩
          unfold prS
          rw [e]
          simp only
          rw [if_pos hw, hg]
          rfl
        | ok m =>
          have hp : prS s = ⟨wV (splB 32 x), m, 0, true⟩ := by
            unfold prS
            rw [e]
            simp only
            rw [if_pos hw, hg]
            rfl
          obtain ⟨h1, h2, h3⟩ := goE_ok _ _ _ hg
          refine .inr ?_
          rw [hp]
          refine ⟨rfl, h2, ?_, ?_⟩
          · simp only [List.length_cons] at hlen h3 ⊢
            omega
          · show pnT (wV (splB 32 x)) m = s
            rw [pnT_t h2]
            apply bl_inj
            rw [bl_pnP, spl_join e, h1, w_back hw, List.flatMap_cons, List.append_assoc]
            rfl
      · refine .inl ⟨1, Nat.le_refl _, ?_⟩
        unfold prS
        rw [e]
        simp only
        rw [if_neg hw]
/-! ### parts -/
theorem pnO_app (a b : List Ent) : pnO (a ++ b) = (pnO a && pnO b) := List.all_append
theorem fold_app (l : List Ent) (x y : ByteArray) : l.foldl (fun a e => a ++ enR e) (x ++ y) = x ++ l.foldl (fun a e => a ++ enR e) y := by
  induction l generalizing y with
  | nil => rfl
  | cons e l ih => rw [List.foldl_cons, List.foldl_cons, ba_assoc, ih]
theorem ba_nil (x : ByteArray) : x ++ ⟨#[]⟩ = x := bl_inj (by rw [bl_app]; exact List.append_nil _)
def tlP (b : List Ent) : ByteArray := b.foldl (fun a e => a ++ enR e) ⟨#[]⟩
theorem pn_tl (c : Cfg) (b : List Ent) : pnP c b = pnP c [] ++ tlP b := by
  unfold tlP pnP
  rw [← fold_app, ba_nil]
  rfl
theorem pn_app (c : Cfg) (a b : List Ent) : pnP c (a ++ b) = pnP c a ++ tlP b := by
  unfold tlP pnP
  rw [List.foldl_append, ← fold_app, ba_nil]
theorem ext_l (x y : ByteArray) : (x ++ y).extract 0 x.size = x := by
  apply bl_inj
  rw [bl_ext, bl_app, List.take_left' (bl_len x)]
  rfl
theorem ext_r (x y : ByteArray) : (x ++ y).extract x.size (x ++ y).size = y := by
  apply bl_inj
  rw [bl_ext, List.take_of_length_le (by rw [bl_len]; exact Nat.le_refl _), bl_app, List.drop_left' (bl_len x)]
end Go.Proofs.YtpkidbhpfohopaaDoor
