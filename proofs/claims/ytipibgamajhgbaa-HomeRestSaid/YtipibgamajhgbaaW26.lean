/- HomeRest of layer 16: the contract. No condition. -/
import Derived.Test.YtipibgamajhgbaaW23
namespace Go.Proofs.Ytipibgamajhgbaa
open Go.RowKit
set_option linter.unusedVariables false
set_option linter.unusedSimpArgs false
/-- Nothing is active, and nobody waits: so it stays. -/
structure HrI (c : Cfg) (m i : Nat) (xs : List Bun) : Prop where
  le : i ≤ m
  m200 : m ≤ 200
  hp : HP c i xs (newR c.blocks) (newM c.blocks)
/-- The letter is one of those that the law speaks of. -/
structure RsL (l : Ltr) : Prop where
  kind : l.kind = 1 ∨ l.kind = 2
theorem cur_new (b k : Int) : curR (newR b) k = (zA, false) := by
  unfold curR
  cases hi : inR (newR b) k with
  | false => rfl
  | true =>
    have h := inR_iff.1 hi
    unfold newR at h
    rw [List.length_replicate] at h
    have e1 : getR (newR b) k = zRow := by
      unfold getR newR
      rw [List.getD_eq_getElem?_getD, List.getElem?_replicate, if_pos (by omega)]
      rfl
    rw [e1]; rfl
theorem rs_rows {c : Cfg} {xs : List Bun} {rows : List Row12} {ms : List RRow12} {l : Ltr} {d : I3} (s : RsL l) : (takeO (hsC c xs rows) l d).rows = rows ∧ (rtakeO (msC c xs ms) l d).rows = ms := by
  by_cases sk : Sk1 c l
  · rcases s.kind with k | k
    · constructor
      · rw [tk1 (h := hsC c xs rows) sk ⟨k⟩]
        unfold comeO
        split <;> rfl
      · rw [rk_of (h := msC c xs ms) sk]
        unfold rkindO
        rw [if_pos k]
        unfold rcomeO
        split <;> rfl
    · constructor
      · rw [tk2 (h := hsC c xs rows) sk ⟨k⟩]
        rfl
      · rw [rk_of (h := msC c xs ms) sk]
        unfold rkindO
        rw [if_neg (by omega), if_pos k]
        rfl
  · constructor
    · rw [show takeO (hsC c xs rows) l d = ⟨xs, rows, []⟩ from if_neg sk]
    · rw [show rtakeO (msC c xs ms) l d = ⟨xs, ms, []⟩ from if_neg sk]
theorem rs_out1 {c : Cfg} {xs : List Bun} {b : Int} {l : Ltr} {d : I3} (k : l.kind = 1) : (takeO (hsC c xs (newR b)) l d).out = [] := by
  by_cases sk : Sk1 c l
  · rw [tk1 (h := hsC c xs (newR b)) sk ⟨k⟩]
    unfold comeO
    dsimp only
    rw [cur_new]
    rfl
  · rw [show takeO (hsC c xs (newR b)) l d = ⟨xs, newR b, []⟩ from if_neg sk]
theorem rs_out2 {c : Cfg} {xs : List Bun} {rows : List Row12} {l : Ltr} {d : I3} (k : l.kind = 2) : (takeO (hsC c xs rows) l d).out = [] ∨ ∃ b, (takeO (hsC c xs rows) l d).out = [⟨1, c.nodes, l.frm, l.block, 0, 0, false, b⟩] := by
  by_cases sk : Sk1 c l
  · rw [tk2 (h := hsC c xs rows) sk ⟨k⟩]
    unfold askO tokL
    dsimp only
    split
    · exact .inl rfl
    · exact .inr ⟨_, rfl⟩
  · rw [show takeO (hsC c xs rows) l d = ⟨xs, rows, []⟩ from if_neg sk]
    exact .inl rfl
structure RsO (c : Cfg) (l : Ltr) (out : List Ltr) : Prop where
  one : out.length ≤ 1
  no : l.kind = 1 → out.length = 0
  el : ∀ z, out.length = 1 → (out.getD 0 z).kind = 1 ∧ (out.getD 0 z).to = l.frm ∧ (out.getD 0 z).block = l.block
theorem rs_out {c : Cfg} {xs : List Bun} {b : Int} {l : Ltr} {d : I3} (s : RsL l) : RsO c l (takeO (hsC c xs (newR b)) l d).out := by
  rcases s.kind with k | k
  · rw [rs_out1 k]
    exact ⟨by simp, fun _ => rfl, fun z h => by simp at h⟩
  · rcases rs_out2 (c := c) (xs := xs) (rows := newR b) (d := d) k with e | ⟨t, e⟩
    · rw [e]
      exact ⟨by simp, fun _ => rfl, fun z h => by simp at h⟩
    · rw [e]
      exact ⟨by simp, fun h => by omega, fun z _ => ⟨rfl, rfl, rfl⟩⟩
theorem rsl_1 {l : Ltr} (h : (l.kind != 1) = false) : RsL l := ⟨.inl (bne_eq_false_iff_eq.1 h)⟩
theorem rsl_2 {l : Ltr} (h : (bif true then l.kind != 2 else false) = false) : RsL l := ⟨.inr (bne_eq_false_iff_eq.1 h)⟩
theorem rs_b2 {c : Cfg} {l : Ltr} {out : List Ltr} (h : RsO c l out) (k : (l.kind == 1) = true) (hx : ((out.length : Int) != 0) = true) : False := by
  rw [h.no (by simpa using k)] at hx
  cases hx
theorem rs_b3 {c : Cfg} {l : Ltr} {out : List Ltr} (h : RsO c l out) (hx : decide (1 < (out.length : Int)) = true) : False := by
  have := of_decide_eq_true hx
  have := h.one
  omega
theorem one_of {n : Nat} (k : ((n : Int) == 1) = true) : n = 1 := by
  have : (n : Int) = 1 := by simpa using k
  omega
theorem rs_b4 {c : Cfg} {l : Ltr} {out : List Ltr} {z : Ltr} (h : RsO c l out) (k : ((out.length : Int) == 1) = true) (hx : ((out.getD (Int.toNat 0) z).kind != 1) = true) : False := by
  have h1 : (out.getD (Int.toNat 0) z).kind = 1 := (h.el z (one_of k)).1
  rw [h1] at hx
  cases hx
theorem rs_b5 {c : Cfg} {l : Ltr} {out : List Ltr} {z : Ltr} (h : RsO c l out) (k : ((out.length : Int) == 1) = true) (hx : ((out.getD (Int.toNat 0) z).to != l.frm) = true) : False := by
  have h1 : (out.getD (Int.toNat 0) z).to = l.frm := (h.el z (one_of k)).2.1
  rw [h1] at hx
  simp at hx
theorem rs_b6 {c : Cfg} {l : Ltr} {out : List Ltr} {z : Ltr} (h : RsO c l out) (k : ((out.length : Int) == 1) = true) (hx : ((out.getD (Int.toNat 0) z).block != l.block) = true) : False := by
  have h1 : (out.getD (Int.toNat 0) z).block = l.block := (h.el z (one_of k)).2.2
  rw [h1] at hx
  simp at hx
theorem HP.mono {c : Cfg} {k : Nat} {xs : List Bun} {rows : List Row12} {ms : List RRow12} (h : HP c k xs rows ms) (hk : k + 1 ≤ 600) : HP c (k + 1) xs rows ms := ⟨h.cfg, hk, h.pl.mono, h.xl, h.ra.mono (Nat.le_succ k) (Nat.le_succ k)⟩
theorem hr_next {c : Cfg} {m i : Nat} {xs : List Bun} (h : HrI c m i xs) (hlt : i < m) {l : Ltr} {d : I3} (s : RsL l) : HrI c m (i + 1) (takeO (hsC c xs (newR c.blocks)) l d).xs := by
  have h2 := (hp_take h.hp (by have := h.m200; omega) l d).2.2
  rw [(rs_rows (ms := newM c.blocks) s).1, (rs_rows (rows := newR c.blocks) s).2] at h2
  exact ⟨hlt, h.m200, h2⟩
def rsH (c : Cfg) (xs : List Bun) (rows : List Row12) (ms : List RRow12) : Heap :=
  ⟨9, [(8, some (.seq false 92 .rRow12 ms)), (7, some (.obj false [.int .i64 (newN c.nodes), .slc 8])), (6, some (.obj false [.int .i64 c.nodes, .int .i64 c.blocks, .int .i64 c.tokens, .int .i64 c.sets, .int .i64 c.ways, .int .i64 c.cap, .int .i64 c.wait, .int .i64 c.tries, .int .i64 c.policy, .vsl .bun xs, .ptr 7 p0])),
    (5, some (.seq false 124 .row12 rows)), (4, some (.obj false [.int .i64 (newN c.nodes), .slc 5])), (3, some (.seq false 32 .bun xs)), (2, some (.obj false [.slc 3])), (1, some (.obj false [.int .i64 c.nodes, .int .i64 c.blocks, .int .i64 c.tokens, .int .i64 c.sets, .int .i64 c.ways, .int .i64 c.cap, .int .i64 c.wait, .int .i64 c.tries, .int .i64 c.policy, .ptr 2 p0, .ptr 4 p0])), (0, some (.obj false (cfgCells c)))]⟩
def cRsT : Con where
  X := Cfg × List Act16
  args := fun ⟨c, l⟩ => [ACfg c, .vsl .act16 l]
  heap := fun _ => hp0
  pre := fun ⟨c, l⟩ => MadeOk c l
  res := fun _ => AB true
  heap' := fun _ => hp0
  pure := true
  find := fun _ _ => none
set_option maxRecDepth 100000 in
set_option maxHeartbeats 16000000 in
theorem cRsT_ok : cRsT.Ok Try.prog 6 := by
  refine fun_ok (env_ok (Cons.cons cawake_ok (Cons.cons cMadeT_ok (Cons.cons cTakeH_ok (Cons.cons cRTake_ok (Cons.cons cSameL_ok (Cons.cons cAllH_ok (Cons.cons cSame_ok Cons.nil)))))))) mixedP Try.func6 (by decide) rfl cRsT [(13, 28), (16, 7), (2000016, 1), (3000016, 2), (3000016, 3), (3000016, 4), (3000016, 5)] (fun _ => rfl) (fun _ _ => ⟨rfl, fun id k h => by cases h⟩) (fun _ => Nat.le_of_ble_eq_true rfl) ?_
  rintro ⟨c, l⟩ hp ha hb
  replace hp : MadeOk c l := hp
  clear ha hb
  all_goals (repeat' (first
    | with_reducible refine iTr ?_
    | with_reducible refine iB ?_
    | intro _
    | exact True.intro
    | (show _ ∧ _
       first
        | refine aTT ?_
        | refine aTB ?_
        | refine aT ?_
        | refine aB ?_
        | refine a11 ?_
        | refine a01 ?_
        | refine a00 ?_
        | refine a10 ?_
        | (with_reducible refine And.intro rfl ?_)
        | refine And.intro ?_ ?_)
    | with_reducible exact rfl
    | with_reducible exact HEq.rfl
    | (show (_ : Option Nat) = _; exact rfl)
    | (show (_ : Option Blk) = _; exact rfl)
    | (with_reducible show (nodupB _ && _ && _ && _ && _) = true; exact (Eq.refl true))
    | (with_reducible show (nodupB _ && _ && _ && _) = true; exact (Eq.refl true))
    | (with_reducible show (nodupB _ && _ && _) = true; exact (Eq.refl true))
    | (with_reducible show freeOk _ _ = true; exact (Eq.refl true))
    | (with_reducible show wrOk _ _ _ _ _ = true; exact (Eq.refl true))
    | (show (_ : AV) = _; exact rfl)
    | (show (_ : Heap) = _; exact rfl)
    | (with_reducible show (_ || !_) = true; exact (Eq.refl true))
    | (with_reducible show Nat.beq _ _ = true; exact (Eq.refl true))))
  all_goals (first | (show (_ : Int) = _) | (show (_ : Bool) = _) | (show HEq _ _) | (show ∃ _ : LInv, _) | skip)
  all_goals (try (with_reducible exact rfl))
  all_goals try (refine ⟨⟨{s : Nat × List Bun // HrI c l.length s.1 s.2}, fun s => [(29, AI s.1.1), (28, AI l.length), (27, .vsl .act16 l), (5, .ptr 1 p0), (6, .ptr 6 p0)], fun s => rsH c s.1.2 (newR c.blocks) (newM c.blocks), fun s => l.length - s.1.1⟩, ⟨⟨(0, newB c.blocks c.tokens), ?_⟩, [], ?_⟩, ?_⟩; rotate_right; (obtain ⟨rows, hrows⟩ : ∃ x, newR c.blocks = x := ⟨_, rfl⟩); (obtain ⟨ms, hms⟩ : ∃ x, newM c.blocks = x := ⟨_, rfl⟩); rw [hrows, hms]; rintro ⟨⟨i, xs⟩, hS⟩)
  all_goals (repeat' (first
    | with_reducible refine iTr ?_
    | with_reducible refine iB ?_
    | intro _
    | exact True.intro
    | (show _ ∧ _
       first
        | refine aTT ?_
        | refine aTB ?_
        | refine aT ?_
        | refine aB ?_
        | refine a11 ?_
        | refine a01 ?_
        | refine a00 ?_
        | refine a10 ?_
        | (with_reducible refine And.intro rfl ?_)
        | refine And.intro ?_ ?_)
    | with_reducible exact rfl
    | with_reducible exact HEq.rfl
    | (show (_ : Option Nat) = _; exact rfl)
    | (show (_ : Option Blk) = _; exact rfl)
    | (with_reducible show (nodupB _ && _ && _ && _ && _) = true; exact (Eq.refl true))
    | (with_reducible show (nodupB _ && _ && _ && _) = true; exact (Eq.refl true))
    | (with_reducible show (nodupB _ && _ && _) = true; exact (Eq.refl true))
    | (with_reducible show freeOk _ _ = true; exact (Eq.refl true))
    | (with_reducible show wrOk _ _ _ _ _ = true; exact (Eq.refl true))
    | (show (_ : AV) = _; exact rfl)
    | (show (_ : Heap) = _; exact rfl)
    | (with_reducible show (_ || !_) = true; exact (Eq.refl true))
    | (with_reducible show Nat.beq _ _ = true; exact (Eq.refl true))))
  all_goals (first | (show (_ : Int) = _) | (show (_ : Bool) = _) | (show HEq _ _) | (show ∃ _ : LInv, _) | skip)
  all_goals (try (with_reducible exact rfl))
  all_goals try (refine ⟨⟨(i + 1, ?_), ?_⟩, ?_, ?_⟩)
  all_goals (repeat' (first
    | with_reducible refine iTr ?_
    | with_reducible refine iB ?_
    | intro _
    | exact True.intro
    | (show _ ∧ _
       first
        | refine aTT ?_
        | refine aTB ?_
        | refine aT ?_
        | refine aB ?_
        | refine a11 ?_
        | refine a01 ?_
        | refine a00 ?_
        | refine a10 ?_
        | (with_reducible refine And.intro rfl ?_)
        | refine And.intro ?_ ?_)
    | with_reducible exact rfl
    | with_reducible exact HEq.rfl
    | (show (_ : Option Nat) = _; exact rfl)
    | (show (_ : Option Blk) = _; exact rfl)
    | (with_reducible show (nodupB _ && _ && _ && _ && _) = true; exact (Eq.refl true))
    | (with_reducible show (nodupB _ && _ && _ && _) = true; exact (Eq.refl true))
    | (with_reducible show (nodupB _ && _ && _) = true; exact (Eq.refl true))
    | (with_reducible show freeOk _ _ = true; exact (Eq.refl true))
    | (with_reducible show wrOk _ _ _ _ _ = true; exact (Eq.refl true))
    | (show (_ : AV) = _; exact rfl)
    | (show (_ : Heap) = _; exact rfl)
    | (with_reducible show (_ || !_) = true; exact (Eq.refl true))
    | (with_reducible show Nat.beq _ _ = true; exact (Eq.refl true))))
  all_goals (first | (show (_ : Int) = _) | (show (_ : Bool) = _) | (show HEq _ _) | (show ∃ _ : LInv, _) | skip)
  all_goals (try (with_reducible exact rfl))
  all_goals (try dsimp only at *)
  all_goals (try subst hrows hms)
  all_goals (try (with_reducible exact HEq.rfl))
  all_goals (first
    | exact hp
    | exact (rfl : (0 : Int) = ((0 : Nat) : Int))
    | exact ⟨Nat.zero_le _, hp.len, hp_new hp.cfg⟩
    | exact hS.hp.pl.len
    | exact decide_eq_true rfl
    | skip)
  all_goals (replace hS : HrI c l.length i xs := hS; have hlt := Int.ofNat_lt.1 (of_decide_eq_true ‹decide ((i : Int) < (l.length : Int)) = true›); have h200 := hS.m200; have hT := hp_take hS.hp (by omega) (l.getD (i : Int).toNat Ty.act16.dflt).l (l.getD (i : Int).toNat Ty.act16.dflt).d)
  all_goals (first
    | omega
    | exact wrap_succ (by omega)
    | (show PTH _ _; exact (hp_pre hS.hp _).1)
    | (show PTR _ _; exact (hp_pre hS.hp _).2)
    | exact ⟨hlt, h200, hS.hp.mono (by omega)⟩
    | exact hr_next hS hlt (rsl_1 (by assumption))
    | exact hr_next hS hlt (rsl_2 (by assumption))
    | exact heq_of_eq hT.2.1
    | exact heq_of_eq (rs_rows (ms := newM c.blocks) (rsl_1 (by assumption))).1
    | exact heq_of_eq (rs_rows (ms := newM c.blocks) (rsl_2 (by assumption))).1
    | exact heq_of_eq (rs_rows (rows := newR c.blocks) (rsl_1 (by assumption))).2
    | exact heq_of_eq (rs_rows (rows := newR c.blocks) (rsl_2 (by assumption))).2
    | (have h1 := one_of (by assumption); rw [h1]; decide)
    | (exfalso; exact plA hT.1 (by assumption))
    | (exfalso; have hO := rs_out (c := c) (xs := xs) (b := c.blocks) (d := (l.getD (i : Int).toNat Ty.act16.dflt).d) (rsl_1 (l := (l.getD (i : Int).toNat Ty.act16.dflt).l) (by assumption)); first | exact rs_b2 hO (by assumption) (by assumption) | exact rs_b3 hO (by assumption) | exact rs_b4 hO (by assumption) (by assumption) | exact rs_b5 hO (by assumption) (by assumption) | exact rs_b6 hO (by assumption) (by assumption))
    | (exfalso; have hO := rs_out (c := c) (xs := xs) (b := c.blocks) (d := (l.getD (i : Int).toNat Ty.act16.dflt).d) (rsl_2 (l := (l.getD (i : Int).toNat Ty.act16.dflt).l) (by assumption)); first | exact rs_b2 hO (by assumption) (by assumption) | exact rs_b3 hO (by assumption) | exact rs_b4 hO (by assumption) (by assumption) | exact rs_b5 hO (by assumption) (by assumption) | exact rs_b6 hO (by assumption) (by assumption))
    | exact HEq.rfl
    | skip)
end Go.Proofs.Ytipibgamajhgbaa
