/- Law 16: awake, and the bridge from a contract to a law's walk. No condition. -/
import Derived.Test.YtipibgamajhgbaaGWc
import Derived.Test.YtipibgamajhgbaaW12
import Derived.Test.YtipibgamajhgbaaGY
namespace Go.Proofs.Ytipibgamajhgbaa
open Go.RowKit
set_option linter.unusedVariables false
set_option linter.unusedSimpArgs false
def fr0 : Nat → RS := fun _ => ⟨0, 0, 0, true⟩
abbrev C0 (w : World) : Cx := cx (fun _ => False) fr0 hp0 w
theorem rel0 (w : World) : Rel (fun _ => False) fr0 hp0 w :=
  ⟨fun _ _ h => (by cases h), fun _ _ h => (by cases h), fun _ _ _ _ h => (by cases h), fun _ _ h => (by cases h), fun _ h => False.elim h⟩
theorem mt0 (w : World) (b : Nat) : ¬ (C0 w).mt b := by
  rintro (⟨id, k, h, -⟩ | h)
  · cases h
  · exact h
theorem walk_of_con {P : Program} {f : FuncId} {c : Con} (hc : c.Ok P f) (x : c.X) (hpre : c.pre x) (hh : c.heap x = hp0) (hh' : c.heap' x = hp0) (hres : c.res x = .bool true) (w : World) (vs : List Value) (hv : RVs (C0 w) (c.args x) vs) :
    Calls P f vs.toArray w fun e w' => e = .returned (.bool true) ∧ Below w.heap.size w w' := by
  have h := hc.calls x hpre (fun _ => False) fr0 w vs (by rw [hh]; exact rel0 w) (by rw [hh]; exact hv)
  refine h.mono fun e w' ⟨v, he, φ', h1, h2, h3⟩ => ?_
  rw [hh] at h3
  have h1 : RV (cx (fun _ => False) φ' (c.heap' x) w') (c.res x) v := h1
  rw [hres] at h1
  have e1 := rv_bool_inv h1
  subst e1
  refine ⟨he, h3.os, h3.tape, h3.output, h3.le.size, fun b hb => h3.le.blk b hb ?_⟩
  rintro ⟨id, k, h, -⟩
  cases h
theorem rv_vsl {w : World} {t : Ty} (cs : t.den → List Value) {A : Option Addr} {n c : Nat} {xs : List t.den} (R : Rdc cs t.sz w A n c xs) (hcs : ∀ x ∈ xs, Reps (C0 w) (enc t x) (cs x)) : RV1 (C0 w) (.vsl t xs) (.slice A n c) := by
  obtain ⟨⟨h1, h2, h3, h4⟩, hn⟩ := R
  subst h1
  refine Reps.vsl (fun i => ((xs[i]?).map cs).getD []) h2 ?_ (fun h0 => ?_) (fun i x hx => ?_) .nil
  · exact ⟨h3, hn⟩
  · obtain ⟨b, off, hA, hb, hcell⟩ := h4 h0
    refine ⟨b, off, hA, mt0 w b, hb, fun i hi j v hv => ?_⟩
    rw [List.getElem?_eq_getElem hi] at hv
    exact hcell i j _ v (List.getElem?_eq_getElem hi) hv
  · rw [hx]
    exact hcs x (List.mem_of_getElem? hx)
theorem rv_int0 {w : World} {n : Int} (h : okI n) : RV1 (C0 w) (AI n) (.int .i64 n) := plain_rv1 (a := AI n) rfl ⟨h, trivial⟩
theorem rv_cfg {w : World} {c : Cfg} (h : okCfg c) : RV1 (C0 w) (ACfg c) (.agg #[.int .i64 c.nodes, .int .i64 c.blocks, .int .i64 c.tokens, .int .i64 c.sets, .int .i64 c.ways, .int .i64 c.cap, .int .i64 c.wait, .int .i64 c.tries, .int .i64 c.policy]) :=
  plain_rv1 (a := ACfg c) rfl ⟨h.1, h.2.1, h.2.2.1, h.2.2.2.1, h.2.2.2.2.1, h.2.2.2.2.2.1, h.2.2.2.2.2.2.1, h.2.2.2.2.2.2.2.1, h.2.2.2.2.2.2.2.2, trivial⟩
/-! ### awake -/
def cNewHA : Con := { cNewH with find := fun args H => match args with
    | [.agg [.int _ a, .int _ b, .int _ c, .int _ d, .int _ e, .int _ f, .int _ g, .int _ h, .int _ i]] => some (⟨a, b, c, d, e, f, g, h, i⟩, decide (a = 2))
    | _ => none }
theorem cNewHA_ok : cNewHA.Ok Try.prog 26 := ⟨cNewH_ok.1, cNewH_ok.2, cNewH_ok.3, cNewH_ok.4⟩
def cawake : Con where
  X := Unit
  args := fun _ => []
  heap := fun _ => hp0
  pre := fun _ => True
  res := fun _ => AB true
  heap' := fun _ => hp0
  pure := true
  find := fun args H => some ()
set_option maxRecDepth 100000 in
set_option maxHeartbeats 8000000 in
theorem cawake_ok : cawake.Ok Try.prog 10 := by
  refine fun_ok (env_ok (Cons.cons cNewHA_ok (Cons.cons cTakeH_ok (Cons.cons cCurH_ok (Cons.cons cSameL_ok (Cons.cons cAllH_ok (Cons.cons cWaitH_ok Cons.nil))))))) mixedP Try.func10 (by decide) rfl cawake [] (fun _ => rfl) (fun _ _ => ⟨rfl, fun id k h => by cases h⟩) (fun _ => Nat.le_of_ble_eq_true rfl) ?_
  rintro ⟨⟩ - - -
  all_goals (repeat' (first
    | with_reducible refine iTr ?_
    | with_reducible refine iB ?_
    | intro _
    | exact True.intro
    | (show _ ∧ _
       first
        | refine aTT ?_
        | refine aTB ?_
        | refine aT ?_
        | refine aB ?_
        | refine a11 ?_
        | refine a01 ?_
        | refine a00 ?_
        | refine a10 ?_
        | (with_reducible refine And.intro rfl ?_)
        | refine And.intro ?_ ?_)
    | with_reducible exact rfl
    | with_reducible exact HEq.rfl
    | (show (_ : Option Nat) = _; exact rfl)
    | (show (_ : Option Blk) = _; exact rfl)
    | (with_reducible show (nodupB _ && _ && _ && _ && _) = true; exact (Eq.refl true))
    | (with_reducible show (nodupB _ && _ && _ && _) = true; exact (Eq.refl true))
    | (with_reducible show (nodupB _ && _ && _) = true; exact (Eq.refl true))
    | (with_reducible show freeOk _ _ = true; exact (Eq.refl true))
    | (with_reducible show wrOk _ _ _ _ _ = true; exact (Eq.refl true))
    | (show (_ : AV) = _; exact rfl)
    | (show (_ : Heap) = _; exact rfl)
    | (with_reducible show (_ || !_) = true; exact (Eq.refl true))
    | (with_reducible show Nat.beq _ _ = true; exact (Eq.refl true))))
  all_goals (first | (show (_ : Int) = _) | (show (_ : Bool) = _) | (show HEq _ _) | (show ∃ _ : LInv, _) | skip)
  all_goals (try (with_reducible exact rfl))
  all_goals (first
    | (show PNewH _ _; exact ⟨by decide +kernel⟩)
    | (show PTH _ _; exact ⟨⟨fun j => new_nn _ _ _⟩, by decide +kernel, fun _ _ => ⟨fun _ => ⟨by decide +kernel⟩⟩⟩)
    | (show (_ : Nat) ≤ 64; decide +kernel)
    | (show Sm _; exact ⟨by decide +kernel⟩)
    | (with_reducible exact HEq.rfl)
    | exact HEq.rfl
    | (show (_ : Int) ≤ _; decide +kernel)
    | (show (_ : Int) < _; decide +kernel)
    | (show (_ : Nat) < _; decide +kernel)
    | skip)
end Go.Proofs.Ytipibgamajhgbaa

namespace Go.Proofs.Ytipibgamajhgbaa
open Go.RowKit
set_option linter.unusedVariables false
set_option linter.unusedSimpArgs false
theorem cfg_facts {c : Cfg} (h : cfgE c = 0) : (1 ≤ c.nodes ∧ c.nodes ≤ 64) ∧ (1 ≤ c.blocks ∧ c.blocks ≤ 64) ∧ c.nodes ≤ c.tokens ∧ c.tokens ≤ 65536 := by
  unfold cfgE at h
  split at h
  · exact absurd h (by decide)
  · split at h
    · exact absurd h (by decide)
    · split at h
      · exact absurd h (by decide)
      · split at h
        · exact absurd h (by decide)
        · rename_i h1 h2 h3 h4
          simp only [within, Bool.not_eq_true', Bool.not_eq_false, Bool.and_eq_true, decide_eq_true_eq] at h2 h3 h4
          omega
theorem wid {n : Int} (h1 : 0 ≤ n) (h2 : n ≤ 64) : newN n = n := by
  unfold newN
  repeat' split
  all_goals omega
theorem lck {c : Cfg} {l : Ltr} (h : lcheck c l = 0) : (1 ≤ l.kind ∧ l.kind ≤ 7) ∧ (0 ≤ l.block ∧ l.block < c.blocks) ∧ endsE c l = true ∧ (l.kind = 1 → bcheck l.tok c.tokens = 0 ∧ l.tok.c ≠ 0) ∧ (l.kind ≠ 1 → l.tok = bun0) := by
  rw [lcheck_eq] at h
  unfold rlcheck at h
  split at h
  · exact absurd h (by decide)
  split at h
  · exact absurd h (by decide)
  split at h
  · exact absurd h (by decide)
  split at h
  · exact absurd h (by decide)
  split at h
  · exact absurd h (by decide)
  split at h
  · exact absurd h (by decide)
  rename_i g1 g2 g3 g4 g5 g6
  refine ⟨by omega, by omega, by simpa using g3, ?_⟩
  split at h
  · rename_i k
    split at h
    · rename_i e; exact ⟨fun e1 => absurd e1 k, fun _ => e⟩
    · exact absurd h (by decide)
  · rename_i k
    split at h
    · rename_i e; exact absurd h e
    · rename_i e
      split at h
      · exact absurd h (by decide)
      · rename_i e2
        exact ⟨fun _ => ⟨by simpa using e, e2⟩, fun e1 => absurd e1 k⟩
/-! ### what is sent is short -/
theorem spread_len (kd f b s x n : Int) : (spreadL kd f b s x n).length ≤ 64 := by
  unfold spreadL
  rw [sprI_len]
  have := spreadN_le n
  omega
theorem begO_len (h : HS) (x : List Row12 × Atv × Bool) : (begO h x).out.length ≤ 65 := by
  unfold begO
  dsimp only
  split
  · unfold begL
    rw [List.length_append]
    have := spread_len 4 h.c.nodes x.2.1.block x.2.1.seq x.2.1.node h.c.nodes
    have := tokL_len h.c x.2.1.node x.2.1.block (begT h.c h.xs x.2.1).1
    omega
  · simp
theorem out_len (h : HS) (l : Ltr) (d : I3) : (takeO h l d).out.length ≤ 65 := by
  unfold takeO
  split
  · unfold kindO
    repeat' split
    · unfold comeO
      split
      · have := tokL_len h.c (curR h.rows l.block).1.node l.block l.tok
        dsimp only; omega
      · simp
    · unfold askO
      have := tokL_len h.c l.frm l.block (askT h l d).1
      dsimp only; omega
    · exact begO_len h _
    · unfold doneO
      dsimp only
      split
      · have := spread_len 6 h.c.nodes l.block l.seq 0 h.c.nodes
        omega
      · simp
    · exact begO_len h _
    · simp
  · simp
/-! ### the memory -/
theorem inv_mono {L k : Nat} {xs : List Bun} (h : inv L k xs) : inv L (k + 1) xs := ⟨h.1, h.2.1, fun j => ⟨(h.2.2 j).1, by have := (h.2.2 j).2; push_cast; omega⟩⟩
theorem inv_nn {L k : Nat} {xs : List Bun} (h : inv L k xs) : NN xs := ⟨fun j => (h.2.2 j).1⟩
theorem begO_inv {L k : Nat} {h : HS} (hx : inv L k h.xs) (hk : k ≤ 1000) (x : List Row12 × Atv × Bool) : inv L k (begO h x).xs := by
  unfold begO
  dsimp only
  split
  · exact (inv_take hx hk _ _ _ _).1
  · exact hx
theorem take_inv0 {L k : Nat} {h : HS} {l : Ltr} {d : I3} (hx : inv L k h.xs) (hk : k ≤ 1000) (h1 : l.kind ≠ 1) : inv L k (takeO h l d).xs := by
  unfold takeO
  split
  · unfold kindO
    rw [if_neg h1]
    repeat' split
    · exact (inv_take hx hk _ _ _ _).1
    · exact begO_inv hx hk _
    · exact hx
    · exact begO_inv hx hk _
    · exact hx
  · exact hx
theorem take_inv1 {L k : Nat} {h : HS} {l : Ltr} {d : I3} (hc : cfgE h.c = 0) (hx : inv L k h.xs) (hk : k ≤ 1000) : inv L (k + 1) (takeO h l d).xs := by
  by_cases h1 : l.kind = 1
  · unfold takeO
    split
    · rename_i s
      unfold kindO
      rw [if_pos h1]
      unfold comeO
      split
      · exact inv_mono hx
      · have ht := ((lck s.ok).2.2.2.1 h1).1
        have hb := right_cnt ht
        have := cfg_facts hc
        exact (inv_put hx hk hb.1 (by omega) _).1
    · exact inv_mono hx
  · exact inv_mono (take_inv0 hx hk h1)
/-! ### the rows -/
def QL (k : Nat) (rows : List Row12) : Prop := ∀ b, (getR rows b).queue.length ≤ k
theorem ql_set {k : Nat} {rows : List Row12} (h : QL k rows) {b : Int} {r : Row12} (hr : r.queue.length ≤ k) : QL k (setR rows b r) := fun j => by
  unfold getR setR
  rw [List.getD_eq_getElem?_getD, List.getElem?_set]
  split
  · split
    · exact hr
    · have := h (rows.length : Int)
      unfold getR at this
      rw [List.getD_eq_getElem?_getD, Int.toNat_natCast, List.getElem?_eq_none (Nat.le_refl _)] at this
      exact this
  · have := h j
    unfold getR at this
    rwa [List.getD_eq_getElem?_getD] at this
theorem ql_mono {k : Nat} {rows : List Row12} (h : QL k rows) : QL (k + 1) rows := fun b => Nat.le_succ_of_le (h b)
theorem next_ql {b : Int} {r : Row12} : (nextR b r).1.queue.length ≤ r.queue.length := by
  unfold nextR
  split
  · exact Nat.le_refl _
  · show (r.queue.drop 1).length ≤ _
    rw [List.length_drop]; omega
theorem ask_ql {k : Nat} {n : Int} {rows : List Row12} (h : QL k rows) (b nd : Int) : QL (k + 1) (askA n rows b nd).1 := by
  unfold askA
  split
  · refine ql_set (ql_mono h) (Nat.le_trans next_ql ?_)
    show ((getR rows b).queue ++ [nd]).length ≤ _
    rw [List.length_append, List.length_singleton]
    have := h b
    omega
  · exact ql_mono h
theorem done_ql {k : Nat} {rows : List Row12} (h : QL k rows) (b s : Int) : QL k (doneA rows b s).1 := by
  unfold doneA
  split
  · exact ql_set h (h b)
  · exact h
theorem ack_ql {k : Nat} {n : Int} {rows : List Row12} (h : QL k rows) (b s nd : Int) : QL k (ackA n rows b s nd).1 := by
  unfold ackA
  split
  · split
    · exact ql_set h (Nat.le_trans next_ql (h b))
    · exact ql_set h (h b)
  · exact h
theorem take_ql {k : Nat} {h : HS} {l : Ltr} {d : I3} (hq : QL k h.rows) : QL (k + 1) (takeO h l d).rows := by
  unfold takeO
  split
  · unfold kindO
    repeat' split
    · unfold comeO
      split <;> exact ql_mono hq
    · exact ql_mono hq
    · exact ask_ql hq _ _
    · exact ql_mono (done_ql hq _ _)
    · exact ql_mono (ack_ql hq _ _ _)
    · exact ql_mono hq
  · exact ql_mono hq
theorem ask_len (n : Int) (rows : List Row12) (b nd : Int) : (askA n rows b nd).1.length = rows.length := by unfold askA; split <;> simp [setR]
theorem done_len (rows : List Row12) (b s : Int) : (doneA rows b s).1.length = rows.length := by unfold doneA; split <;> simp [setR]
theorem ack_len (n : Int) (rows : List Row12) (b s nd : Int) : (ackA n rows b s nd).1.length = rows.length := by
  unfold ackA
  split
  · split <;> simp [setR]
  · rfl
theorem take_rlen (h : HS) (l : Ltr) (d : I3) : (takeO h l d).rows.length = h.rows.length := by
  unfold takeO
  split
  · unfold kindO
    repeat' split
    · unfold comeO
      split <;> rfl
    · rfl
    · exact ask_len _ _ _ _
    · exact done_len _ _ _
    · exact ack_len _ _ _ _ _
    · rfl
  · rfl
/-- What stays true at home. -/
structure IH (c : Cfg) (k : Nat) (xs : List Bun) (rows : List Row12) : Prop where
  cfg : cfgE c = 0
  kl : k ≤ 1000
  x : inv c.blocks.toNat k xs
  rl : rows.length = c.blocks.toNat
  q : QL k rows
theorem newB_len {c : Cfg} (h : cfgE c = 0) : (newB c.blocks c.tokens).length = c.blocks.toNat := by
  have := cfg_facts h
  rw [len_new]
  congr 1
  unfold clamp
  omega
theorem newR_len {c : Cfg} (h : cfgE c = 0) : (newR c.blocks).length = c.blocks.toNat := by
  have := cfg_facts h
  unfold newR
  rw [List.length_replicate, wid (by omega) (by omega)]
theorem ih_new {c : Cfg} (h : cfgE c = 0) : IH c 0 (newB c.blocks c.tokens) (newR c.blocks) := by
  have hf := cfg_facts h
  refine ⟨h, Nat.zero_le _, ?_, newR_len h, fun b => ?_⟩
  · rw [← newB_len h]
    exact inv_new (by omega)
  · unfold getR newR
    rw [List.getD_eq_getElem?_getD, List.getElem?_replicate]
    split <;> exact Nat.le_refl _
theorem ih_take {c : Cfg} {n : Int} {k : Nat} {xs : List Bun} {rows : List Row12} (h : IH c k xs rows) (hk : k + 1 ≤ 1000) (l : Ltr) (d : I3) : IH c (k + 1) (takeO ⟨c, n, xs, rows⟩ l d).xs (takeO ⟨c, n, xs, rows⟩ l d).rows :=
  ⟨h.cfg, hk, take_inv1 (h := ⟨c, n, xs, rows⟩) h.cfg h.x h.kl, by rw [take_rlen]; exact h.rl, take_ql h.q⟩
theorem ih_pre {c : Cfg} {k : Nat} {xs : List Bun} {rows : List Row12} (h : IH c k xs rows) (l : Ltr) : PTH ⟨c, newN c.nodes, xs, rows⟩ l :=
  ⟨inv_nn h.x, (newN_le _).2, fun _ _ => ⟨fun _ => ⟨by have := h.q l.block; have := h.kl; show (getR rows l.block).queue.length ≤ _; omega⟩⟩⟩
theorem ih_len {c : Cfg} {k : Nat} {xs : List Bun} {rows : List Row12} (h : IH c k xs rows) : xs.length = c.blocks.toNat ∧ xs.length ≤ 64 ∧ (xs.length : Int) = c.blocks := by
  have := cfg_facts h.cfg
  have := h.x.1
  omega
/-! ### whose requests become active -/
theorem begunL_append (a b : List Ltr) : begunL (a ++ b) = begunL a ++ begunL b := by simp [begunL]
theorem begunL_spr (f b s x : Int) : ∀ k, begunL (sprI 4 f b s x k) = if k = 0 then [] else [x]
  | 0 => rfl
  | k + 1 => by
    rw [sprI_succ, begunL_append, begunL_spr f b s x k, if_neg (Nat.succ_ne_zero k)]
    by_cases e : k = 0
    · subst e; rfl
    · rw [if_neg e]
      have : ¬ ((k : Int) = 0) := by omega
      simp [begunL, this, e]
theorem begunL_tok (c : Cfg) (dst b : Int) (t : Bun) : begunL (tokL c dst b t) = [] := by
  unfold tokL
  split <;> simp [begunL]
theorem spreadN_id {n : Int} (h1 : 0 ≤ n) (h2 : n ≤ 64) : spreadN n = n := by
  unfold spreadN
  repeat' split
  all_goals omega
def gotA (got : List Int) (x : List Row12 × Atv × Bool) : List Int := if x.2.2 = true then got ++ [x.2.1.node] else got
theorem beg_got {h : HS} (h1 : 1 ≤ h.c.nodes) (h2 : h.c.nodes ≤ 64) (x : List Row12 × Atv × Bool) (got : List Int) : got ++ begunL (begO h x).out = gotA got x := by
  unfold begO gotA
  dsimp only
  split
  · unfold begL spreadL
    rw [begunL_append, begunL_spr, begunL_tok, spreadN_id (by omega) h2, if_neg (by omega), List.append_nil]
  · simp [begunL]
end Go.Proofs.Ytipibgamajhgbaa
