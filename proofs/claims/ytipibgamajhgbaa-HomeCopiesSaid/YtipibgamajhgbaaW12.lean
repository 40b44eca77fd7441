/- Contracts of the reference's New, Config, Node, Check, Same, and of the laws' own made, begun. No condition. -/
import Derived.Test.YtipibgamajhgbaaW11
import Derived.Test.YtipibgamajhgbaaGQb
import Derived.Test.YtipibgamajhgbaaGY
import Derived.Test.YtipibgamajhgbaaR04f
import Derived.Test.YtipibgamajhgbaaGCa
namespace Go.Proofs.Ytipibgamajhgbaa
open Go.RowKit
set_option linter.unusedVariables false
set_option linter.unusedSimpArgs false
def cRConfig : Con where
  X := Cfg
  args := fun c => [ACfg c]
  heap := fun _ => hp0
  pre := fun _ => True
  res := fun c => AI (cfgE c)
  heap' := fun _ => hp0
  pure := true
  find := fun args _ => match args with
    | [.agg [.int _ a, .int _ b, .int _ c, .int _ d, .int _ e, .int _ f, .int _ g, .int _ h, .int _ i]] => some ⟨a, b, c, d, e, f, g, h, i⟩
    | _ => none
theorem cRConfig_ok : cRConfig.Ok Try.prog 21 := by
  refine con_of_calls Try.func21 (by decide) rfl cRConfig (fun _ => ⟨rfl, rfl⟩) (fun _ => rfl) ?_ ?_
  · rintro (c : Cfg) - -
    exact ⟨rfl, cfgE_ok c, trivial⟩
  · rintro (c : Cfg) w - -
    exact rConfig_calls c w
def cRNode : Con where
  X := Cfg × Int
  args := fun ⟨c, n⟩ => [ACfg c, AI n]
  heap := fun _ => hp0
  pre := fun _ => True
  res := fun ⟨c, n⟩ => AB (nodeE c n)
  heap' := fun _ => hp0
  pure := true
  find := fun args _ => match args with
    | [.agg [.int _ a, .int _ b, .int _ c, .int _ d, .int _ e, .int _ f, .int _ g, .int _ h, .int _ i], .int _ n] => some (⟨a, b, c, d, e, f, g, h, i⟩, n)
    | _ => none
theorem cRNode_ok : cRNode.Ok Try.prog 14 := by
  refine con_of_calls Try.func14 (by decide) rfl cRNode (fun _ => ⟨rfl, rfl⟩) (fun _ => rfl) ?_ ?_
  · rintro ⟨c, n⟩ - -
    exact ⟨rfl, trivial⟩
  · rintro ⟨c, n⟩ w - -
    exact rNode_calls c n w
def cRCheck : Con where
  X := Cfg × Ltr
  args := fun ⟨c, l⟩ => [ACfg c, ALtr l]
  heap := fun _ => hp0
  pre := fun _ => True
  res := fun ⟨c, l⟩ => AI (lcheck c l)
  heap' := fun _ => hp0
  pure := true
  find := fun args _ => match args with
    | [.agg [.int _ a, .int _ b, .int _ c, .int _ d, .int _ e, .int _ f, .int _ g, .int _ h, .int _ i], .agg [.int _ k, .int _ l, .int _ m, .int _ n, .int _ o, .int _ p, .bool q, .int _ r, .bool s, .bool t, .int _ u]] => some (⟨a, b, c, d, e, f, g, h, i⟩, ⟨k, l, m, n, o, p, q, ⟨r, s, t, u⟩⟩)
    | _ => none
theorem cRCheck_ok : cRCheck.Ok Try.prog 11 := by
  refine con_of_calls Try.func11 (by decide) rfl cRCheck (fun _ => ⟨rfl, rfl⟩) (fun _ => rfl) ?_ ?_
  · rintro ⟨c, l⟩ - -
    exact ⟨rfl, lcheck_ok c l, trivial⟩
  · rintro ⟨c, l⟩ w - -
    show Calls _ _ #[.agg #[.int .i64 c.nodes, .int .i64 c.blocks, .int .i64 c.tokens, .int .i64 c.sets, .int .i64 c.ways, .int .i64 c.cap, .int .i64 c.wait, .int .i64 c.tries, .int .i64 c.policy], .agg #[.int .i64 l.kind, .int .i64 l.frm, .int .i64 l.to, .int .i64 l.block, .int .i64 l.seq, .int .i64 l.who, .bool l.wr, .int .i64 l.tok.c, .bool l.tok.o, .bool l.tok.h, .int .i64 l.tok.d]] w fun e w' => e = .returned (.int .i64 (lcheck c l)) ∧ _
    rw [lcheck_eq]
    exact rlCheck_calls c l w
def slL (H : Heap) : AV → Option (List Ltr)
  | .vsl .ltr xs => some xs
  | .nils => some []
  | .slc id => match H.get id with
    | some (.seq _ _ .ltr xs) => some xs
    | _ => none
  | _ => none
theorem bneL (a b : Ltr) : (!(a.kind == b.kind && (a.frm == b.frm && (a.to == b.to && (a.block == b.block && (a.seq == b.seq && (a.who == b.who && (a.wr == b.wr && (a.tok.c == b.tok.c && (a.tok.o == b.tok.o && (a.tok.h == b.tok.h && (a.tok.d == b.tok.d && true)))))))))))) = !decide (a = b) := by
  obtain ⟨a1, a2, a3, a4, a5, a6, a7, ⟨a8, a9, a10, a11⟩⟩ := a
  obtain ⟨b1, b2, b3, b4, b5, b6, b7, ⟨b8, b9, b10, b11⟩⟩ := b
  simp only [Ltr.mk.injEq, Bun.mk.injEq, Bool.decide_and, Bool.and_true]
  rfl
theorem take_succ_ltr {xs ys : List Ltr} {i : Nat} {z : Ltr} (hl : xs.length = ys.length) (hi : i < xs.length) (ht : xs.take i = ys.take i) (he : xs.getD i z = ys.getD i z) : xs.take (i + 1) = ys.take (i + 1) := by
  rw [List.take_add_one, List.take_add_one, ht, List.getElem?_eq_getElem hi, List.getElem?_eq_getElem (by omega)]
  rw [List.getD_eq_getElem?_getD, List.getD_eq_getElem?_getD, List.getElem?_eq_getElem hi, List.getElem?_eq_getElem (by omega)] at he
  simp at he
  simp [he]
structure SLs (xs ys : List Ltr) (i : Nat) : Prop where
  le : i ≤ xs.length
  len : xs.length = ys.length
  eq : xs.take i = ys.take i
def cSameL : Con where
  X := List Ltr × List Ltr
  args := fun ⟨xs, ys⟩ => [.vsl .ltr xs, .vsl .ltr ys]
  heap := fun _ => hp0
  pre := fun _ => True
  res := fun ⟨xs, ys⟩ => AB (decide (xs = ys))
  heap' := fun _ => hp0
  pure := true
  find := fun args H => match args with
    | [a, b] => (slL H a).bind fun xs => (slL H b).map fun ys => (xs, ys)
    | _ => none
set_option maxRecDepth 100000 in
set_option maxHeartbeats 8000000 in
theorem cSameL_ok : cSameL.Ok Try.prog 15 := by
  refine fun_ok (env_ok Cons.nil) mixedP Try.func15 (by decide) rfl cSameL [(6, 8)] (fun _ => rfl) (fun _ _ => ⟨rfl, fun id k h => by cases h⟩) (fun _ => Nat.le_of_ble_eq_true rfl) ?_
  rintro ⟨xs, ys⟩ hp ha hb
  all_goals (repeat' (first
    | with_reducible refine iTr ?_
    | with_reducible refine iB ?_
    | intro _
    | exact True.intro
    | (show _ ∧ _
       first
        | refine aTT ?_
        | refine aTB ?_
        | refine aT ?_
        | refine aB ?_
        | refine a11 ?_
        | refine a01 ?_
        | refine a00 ?_
        | refine a10 ?_
        | (with_reducible refine And.intro rfl ?_)
        | refine And.intro ?_ ?_)
    | with_reducible exact rfl
    | with_reducible exact HEq.rfl
    | (show (_ : Option Nat) = _; exact rfl)
    | (show (_ : Option Blk) = _; exact rfl)
    | (with_reducible show (nodupB _ && _ && _ && _ && _) = true; exact (Eq.refl true))
    | (with_reducible show (nodupB _ && _ && _ && _) = true; exact (Eq.refl true))
    | (with_reducible show (nodupB _ && _ && _) = true; exact (Eq.refl true))
    | (with_reducible show freeOk _ _ = true; exact (Eq.refl true))
    | (with_reducible show wrOk _ _ _ _ _ = true; exact (Eq.refl true))
    | (show (_ : AV) = _; exact rfl)
    | (show (_ : Heap) = _; exact rfl)
    | (with_reducible show (_ || !_) = true; exact (Eq.refl true))
    | (with_reducible show Nat.beq _ _ = true; exact (Eq.refl true))))
  all_goals (first | (show (_ : Int) = _) | (show (_ : Bool) = _) | (show HEq _ _) | (show ∃ _ : LInv, _) | skip)
  all_goals (try (with_reducible exact rfl))
  all_goals try (refine ⟨⟨{i : Nat // SLs xs ys i}, fun i => [(5, AI i.1), (0, .vsl .ltr xs), (1, .vsl .ltr ys)], fun i => ⟨0, []⟩, fun i => xs.length - i.1⟩, ⟨⟨0, ?_⟩, [], ?_⟩, ?_⟩; rotate_right; rintro ⟨i, hS⟩)
  all_goals (repeat' (first
    | with_reducible refine iTr ?_
    | with_reducible refine iB ?_
    | intro _
    | exact True.intro
    | (show _ ∧ _
       first
        | refine aTT ?_
        | refine aTB ?_
        | refine aT ?_
        | refine aB ?_
        | refine a11 ?_
        | refine a01 ?_
        | refine a00 ?_
        | refine a10 ?_
        | (with_reducible refine And.intro rfl ?_)
        | refine And.intro ?_ ?_)
    | with_reducible exact rfl
    | with_reducible exact HEq.rfl
    | (show (_ : Option Nat) = _; exact rfl)
    | (show (_ : Option Blk) = _; exact rfl)
    | (with_reducible show (nodupB _ && _ && _ && _ && _) = true; exact (Eq.refl true))
    | (with_reducible show (nodupB _ && _ && _ && _) = true; exact (Eq.refl true))
    | (with_reducible show (nodupB _ && _ && _) = true; exact (Eq.refl true))
    | (with_reducible show freeOk _ _ = true; exact (Eq.refl true))
    | (with_reducible show wrOk _ _ _ _ _ = true; exact (Eq.refl true))
    | (show (_ : AV) = _; exact rfl)
    | (show (_ : Heap) = _; exact rfl)
    | (with_reducible show (_ || !_) = true; exact (Eq.refl true))
    | (with_reducible show Nat.beq _ _ = true; exact (Eq.refl true))))
  all_goals (first | (show (_ : Int) = _) | (show (_ : Bool) = _) | (show HEq _ _) | (show ∃ _ : LInv, _) | skip)
  all_goals (try (with_reducible exact rfl))
  all_goals try (refine ⟨⟨i + 1, ?_⟩, ?_, ?_⟩)
  all_goals (repeat' (first
    | with_reducible refine iTr ?_
    | with_reducible refine iB ?_
    | intro _
    | exact True.intro
    | (show _ ∧ _
       first
        | refine aTT ?_
        | refine aTB ?_
        | refine aT ?_
        | refine aB ?_
        | refine a11 ?_
        | refine a01 ?_
        | refine a00 ?_
        | refine a10 ?_
        | (with_reducible refine And.intro rfl ?_)
        | refine And.intro ?_ ?_)
    | with_reducible exact rfl
    | with_reducible exact HEq.rfl
    | (show (_ : Option Nat) = _; exact rfl)
    | (show (_ : Option Blk) = _; exact rfl)
    | (with_reducible show (nodupB _ && _ && _ && _ && _) = true; exact (Eq.refl true))
    | (with_reducible show (nodupB _ && _ && _ && _) = true; exact (Eq.refl true))
    | (with_reducible show (nodupB _ && _ && _) = true; exact (Eq.refl true))
    | (with_reducible show freeOk _ _ = true; exact (Eq.refl true))
    | (with_reducible show wrOk _ _ _ _ _ = true; exact (Eq.refl true))
    | (show (_ : AV) = _; exact rfl)
    | (show (_ : Heap) = _; exact rfl)
    | (with_reducible show (_ || !_) = true; exact (Eq.refl true))
    | (with_reducible show Nat.beq _ _ = true; exact (Eq.refl true))))
  all_goals (first | (show (_ : Int) = _) | (show (_ : Bool) = _) | (show HEq _ _) | (show ∃ _ : LInv, _) | skip)
  all_goals (try (with_reducible exact rfl))
  all_goals (try dsimp only at *)
  all_goals (try simp only [bneL] at *)
  all_goals (try simp only [Int.toNat_natCast, decide_eq_true_eq, decide_eq_false_iff_not, bne_iff_ne, ne_eq, bne_eq_false_iff_eq, Int.natCast_inj, Bool.not_eq_true', Bool.not_eq_false'] at *)
  all_goals (first
    | omega
    | (symm; refine decide_eq_false fun e => ?_; subst e; first | exact absurd rfl ‹_› | simp_all)
    | exact ⟨Nat.zero_le _, by omega, rfl⟩
    | exact ⟨by omega, hS.len, take_succ_ltr hS.len (by omega) hS.eq (by assumption)⟩
    | exact wrap_succ (by omega)
    | (symm; refine decide_eq_true ?_; have h1 := hS.eq; have h2 := hS.len; rw [List.take_of_length_le (by omega), List.take_of_length_le (by omega)] at h1; exact h1)
    | skip)
/-! ### the reference's home -/
structure MS where
  c : Cfg
  n : Int
  m : List Bun
  rows : List RRow12
def mHH (ro : Bool) (c : Cfg) (n : Int) (m : List Bun) (rows : List RRow12) : Heap :=
  ⟨3, [(2, some (.seq ro 92 .rRow12 rows)), (1, some (.obj true [.int .i64 n, .slc 2])), (0, some (.obj ro [.int .i64 c.nodes, .int .i64 c.blocks, .int .i64 c.tokens, .int .i64 c.sets, .int .i64 c.ways, .int .i64 c.cap, .int .i64 c.wait, .int .i64 c.tries, .int .i64 c.policy, .vsl .bun m, .ptr 1 p0]))]⟩
def cNewR : Con where
  X := Cfg
  args := fun c => [ACfg c]
  heap := fun _ => hp0
  pre := fun _ => True
  res := fun _ => pH
  heap' := fun c => ⟨3, [(2, some (.seq false 92 .rRow12 (newM c.blocks))), (1, some (.obj false [.int .i64 (newN c.nodes), .slc 2])), (0, some (.obj false [.int .i64 c.nodes, .int .i64 c.blocks, .int .i64 c.tokens, .int .i64 c.sets, .int .i64 c.ways, .int .i64 c.cap, .int .i64 c.wait, .int .i64 c.tries, .int .i64 c.policy, .vsl .bun (newB c.blocks c.tokens), .ptr 1 p0]))]⟩
  pure := false
  find := fun args H => match args with
    | [.agg [.int _ a, .int _ b, .int _ c, .int _ d, .int _ e, .int _ f, .int _ g, .int _ h, .int _ i]] => some ⟨a, b, c, d, e, f, g, h, i⟩
    | _ => none
set_option maxRecDepth 100000 in
set_option maxHeartbeats 4000000 in
theorem cNewR_ok : cNewR.Ok Try.prog 27 := by
  refine fun_ok (env_ok (Cons.cons crNew_ok (Cons.cons cNewM_ok Cons.nil))) mixedP Try.func27 (by decide) rfl cNewR [(1, 13), (2000001, 10), (2000001, 12), (4000001, 0)] (fun _ => rfl) (fun h => by cases h) (fun _ => Nat.le_of_ble_eq_true rfl) ?_
  rintro (c : Cfg) hp ha hb
  clear hp ha hb
  all_goals (repeat' (first
    | with_reducible refine iTr ?_
    | with_reducible refine iB ?_
    | intro _
    | exact True.intro
    | (show _ ∧ _
       first
        | refine aTT ?_
        | refine aTB ?_
        | refine aT ?_
        | refine aB ?_
        | refine a11 ?_
        | refine a01 ?_
        | refine a00 ?_
        | refine a10 ?_
        | (with_reducible refine And.intro rfl ?_)
        | refine And.intro ?_ ?_)
    | with_reducible exact rfl
    | with_reducible exact HEq.rfl
    | (show (_ : Option Nat) = _; exact rfl)
    | (show (_ : Option Blk) = _; exact rfl)
    | (with_reducible show (nodupB _ && _ && _ && _ && _) = true; exact (Eq.refl true))
    | (with_reducible show (nodupB _ && _ && _ && _) = true; exact (Eq.refl true))
    | (with_reducible show (nodupB _ && _ && _) = true; exact (Eq.refl true))
    | (with_reducible show freeOk _ _ = true; exact (Eq.refl true))
    | (with_reducible show wrOk _ _ _ _ _ = true; exact (Eq.refl true))
    | (show (_ : AV) = _; exact rfl)
    | (show (_ : Heap) = _; exact rfl)
    | (with_reducible show (_ || !_) = true; exact (Eq.refl true))
    | (with_reducible show Nat.beq _ _ = true; exact (Eq.refl true))))
  all_goals (first | (show (_ : Int) = _) | (show (_ : Bool) = _) | (show HEq _ _) | (show ∃ _ : LInv, _) | skip)
  all_goals (try (with_reducible exact rfl))
  all_goals (try dsimp only at *)
  all_goals (first | exact HEq.rfl | skip)
/-! ### the laws' own functions -/
structure MadeOk (c : Cfg) (l : List Act16) : Prop where
  cfg : cfgE c = 0
  len : l.length ≤ 200
instance (c : Cfg) (l : List Act16) : Decidable (MadeOk c l) := decidable_of_iff (cfgE c = 0 ∧ l.length ≤ 200) ⟨fun h => ⟨h.1, h.2⟩, fun h => ⟨h.1, h.2⟩⟩
def slA16 (H : Heap) : AV → Option (List Act16)
  | .vsl .act16 xs => some xs
  | .nils => some []
  | _ => none
def findMade (args : List AV) (H : Heap) : Option (Cfg × List Act16) := match args with
  | [.agg [.int _ a, .int _ b, .int _ c, .int _ d, .int _ e, .int _ f, .int _ g, .int _ h, .int _ i], l] => (slA16 H l).map fun l => (⟨a, b, c, d, e, f, g, h, i⟩, l)
  | _ => none
def cMadeT : Con where
  X := Cfg × List Act16
  args := fun ⟨c, l⟩ => [ACfg c, .vsl .act16 l]
  heap := fun _ => hp0
  pre := fun ⟨c, l⟩ => MadeOk c l
  res := fun _ => .tup [pH, .ptr 5 p0, AB true]
  heap' := fun ⟨c, l⟩ => ⟨8, [(7, some (.seq false 92 .rRow12 (newM c.blocks))), (6, some (.obj false [.int .i64 (newN c.nodes), .slc 7])), (5, some (.obj false [.int .i64 c.nodes, .int .i64 c.blocks, .int .i64 c.tokens, .int .i64 c.sets, .int .i64 c.ways, .int .i64 c.cap, .int .i64 c.wait, .int .i64 c.tries, .int .i64 c.policy, .vsl .bun (newB c.blocks c.tokens), .ptr 6 p0])),
    (4, some (.seq false 124 .row12 (newR c.blocks))), (3, some (.obj false [.int .i64 (newN c.nodes), .slc 4])), (2, some (.seq false 32 .bun (newB c.blocks c.tokens))), (1, some (.obj false [.slc 2])), (0, some (.obj false [.int .i64 c.nodes, .int .i64 c.blocks, .int .i64 c.tokens, .int .i64 c.sets, .int .i64 c.ways, .int .i64 c.cap, .int .i64 c.wait, .int .i64 c.tries, .int .i64 c.policy, .ptr 1 p0, .ptr 3 p0]))]⟩
  pure := false
  find := findMade
theorem made_bad {c : Cfg} {l : List Act16} (h : MadeOk c l) (h1 : (cfgE c != 0) = true) : False := by rw [h.cfg] at h1; cases h1
theorem made_long {c : Cfg} {l : List Act16} (h : MadeOk c l) (h1 : decide ((200 : Int) < (l.length : Int)) = true) : False := by
  have := of_decide_eq_true h1
  have := h.len
  omega
set_option maxRecDepth 100000 in
set_option maxHeartbeats 4000000 in
theorem cMadeT_ok : cMadeT.Ok Try.prog 9 := by
  refine fun_ok (env_ok (Cons.cons cRConfig_ok (Cons.cons cNewH_ok (Cons.cons cNewR_ok Cons.nil)))) mixedP Try.func9 (by decide) rfl cMadeT [] (fun _ => rfl) (fun h => by cases h) (fun _ => Nat.le_of_ble_eq_true rfl) ?_
  rintro ⟨c, l⟩ hp ha hb
  replace hp : MadeOk c l := hp
  clear ha hb
  all_goals (repeat' (first
    | with_reducible refine iTr ?_
    | with_reducible refine iB ?_
    | intro _
    | exact True.intro
    | (show _ ∧ _
       first
        | refine aTT ?_
        | refine aTB ?_
        | refine aT ?_
        | refine aB ?_
        | refine a11 ?_
        | refine a01 ?_
        | refine a00 ?_
        | refine a10 ?_
        | (with_reducible refine And.intro rfl ?_)
        | refine And.intro ?_ ?_)
    | with_reducible exact rfl
    | with_reducible exact HEq.rfl
    | (show (_ : Option Nat) = _; exact rfl)
    | (show (_ : Option Blk) = _; exact rfl)
    | (with_reducible show (nodupB _ && _ && _ && _ && _) = true; exact (Eq.refl true))
    | (with_reducible show (nodupB _ && _ && _ && _) = true; exact (Eq.refl true))
    | (with_reducible show (nodupB _ && _ && _) = true; exact (Eq.refl true))
    | (with_reducible show freeOk _ _ = true; exact (Eq.refl true))
    | (with_reducible show wrOk _ _ _ _ _ = true; exact (Eq.refl true))
    | (show (_ : AV) = _; exact rfl)
    | (show (_ : Heap) = _; exact rfl)
    | (with_reducible show (_ || !_) = true; exact (Eq.refl true))
    | (with_reducible show Nat.beq _ _ = true; exact (Eq.refl true))))
  all_goals (first | (show (_ : Int) = _) | (show (_ : Bool) = _) | (show HEq _ _) | (show ∃ _ : LInv, _) | skip)
  all_goals (try (with_reducible exact rfl))
  all_goals (try dsimp only at *)
  all_goals (first
    | exact HEq.rfl
    | (exfalso; exact made_bad hp (by assumption))
    | (exfalso; exact made_long hp (by assumption))
    | exact ⟨decide_eq_true hp.cfg⟩
    | skip)
def cMadeF : Con where
  X := Cfg × List Act16
  args := fun ⟨c, l⟩ => [ACfg c, .vsl .act16 l]
  heap := fun _ => hp0
  pre := fun ⟨c, l⟩ => ¬ MadeOk c l
  res := fun _ => .tup [.nilp, .nilp, AB false]
  heap' := fun _ => hp0
  pure := true
  find := findMade
theorem made_good {c : Cfg} {l : List Act16} (h : ¬ MadeOk c l) (h1 : (cfgE c != 0) = false) (h2 : decide ((200 : Int) < (l.length : Int)) = false) : False := by
  have := of_decide_eq_false h2
  exact h ⟨bne_eq_false_iff_eq.1 h1, by omega⟩
set_option maxRecDepth 100000 in
set_option maxHeartbeats 4000000 in
theorem cMadeF_ok : cMadeF.Ok Try.prog 9 := by
  refine fun_ok (env_ok (Cons.cons cRConfig_ok (Cons.cons cNewH_ok (Cons.cons cNewR_ok Cons.nil)))) mixedP Try.func9 (by decide) rfl cMadeF [] (fun _ => rfl) (fun _ _ => ⟨rfl, fun id k h => by cases h⟩) (fun _ => Nat.le_of_ble_eq_true rfl) ?_
  rintro ⟨c, l⟩ hp ha hb
  replace hp : ¬ MadeOk c l := hp
  clear ha hb
  all_goals (repeat' (first
    | with_reducible refine iTr ?_
    | with_reducible refine iB ?_
    | intro _
    | exact True.intro
    | (show _ ∧ _
       first
        | refine aTT ?_
        | refine aTB ?_
        | refine aT ?_
        | refine aB ?_
        | refine a11 ?_
        | refine a01 ?_
        | refine a00 ?_
        | refine a10 ?_
        | (with_reducible refine And.intro rfl ?_)
        | refine And.intro ?_ ?_)
    | with_reducible exact rfl
    | with_reducible exact HEq.rfl
    | (show (_ : Option Nat) = _; exact rfl)
    | (show (_ : Option Blk) = _; exact rfl)
    | (with_reducible show (nodupB _ && _ && _ && _ && _) = true; exact (Eq.refl true))
    | (with_reducible show (nodupB _ && _ && _ && _) = true; exact (Eq.refl true))
    | (with_reducible show (nodupB _ && _ && _) = true; exact (Eq.refl true))
    | (with_reducible show freeOk _ _ = true; exact (Eq.refl true))
    | (with_reducible show wrOk _ _ _ _ _ = true; exact (Eq.refl true))
    | (show (_ : AV) = _; exact rfl)
    | (show (_ : Heap) = _; exact rfl)
    | (with_reducible show (_ || !_) = true; exact (Eq.refl true))
    | (with_reducible show Nat.beq _ _ = true; exact (Eq.refl true))))
  all_goals (first | (show (_ : Int) = _) | (show (_ : Bool) = _) | (show HEq _ _) | (show ∃ _ : LInv, _) | skip)
  all_goals (try (with_reducible exact rfl))
  all_goals (try dsimp only at *)
  all_goals (first
    | exact HEq.rfl
    | (exfalso; exact made_good hp (by assumption) (by assumption))
    | skip)
def begunL (l : List Ltr) : List Int := (l.filter fun x => decide (x.kind = 4) && decide (x.to = 0)).map (·.who)
theorem begun_t {l : List Ltr} {i : Nat} {z : Ltr} (hi : i < l.length) (h1 : (l.getD i z).kind = 4) (h2 : (l.getD i z).to = 0) : begunL (l.take (i + 1)) = begunL (l.take i) ++ [(l.getD i z).who] := by
  rw [List.getD_eq_getElem?_getD, List.getElem?_eq_getElem hi] at *
  simp only [Option.getD_some] at h1 h2 ⊢
  unfold begunL
  rw [List.take_add_one, List.getElem?_eq_getElem hi, List.filter_append, List.map_append]
  simp [h1, h2]
theorem begun_f {l : List Ltr} {i : Nat} {z : Ltr} (hi : i < l.length) (h : ¬ ((l.getD i z).kind = 4 ∧ (l.getD i z).to = 0)) : begunL (l.take (i + 1)) = begunL (l.take i) := by
  rw [List.getD_eq_getElem?_getD, List.getElem?_eq_getElem hi] at h
  simp only [Option.getD_some] at h
  unfold begunL
  rw [List.take_add_one, List.getElem?_eq_getElem hi, List.filter_append, List.map_append]
  have : (decide (l[i].kind = 4) && decide (l[i].to = 0)) = false := by
    cases e : (decide (l[i].kind = 4) && decide (l[i].to = 0)) with
    | false => rfl
    | true => simp at e; exact absurd e h
  simp [this]
theorem begun_len (l : List Ltr) : (begunL l).length ≤ l.length := by
  unfold begunL
  rw [List.length_map]
  exact List.length_filter_le _ _
structure SBg (l : List Ltr) (i : Nat) : Prop where
  le : i ≤ l.length
  sm : l.length ≤ 1000000
def cBegun : Con where
  X := List Ltr
  args := fun l => [.vsl .ltr l]
  heap := fun _ => hp0
  pre := fun l => Sm l.length
  res := fun _ => .slc 0
  heap' := fun l => ⟨1, [(0, some (.seq false 3 .int (begunL l)))]⟩
  pure := false
  find := fun args H => match args with
    | [a] => slL H a
    | _ => none
set_option maxRecDepth 100000 in
set_option maxHeartbeats 8000000 in
theorem cBegun_ok : cBegun.Ok Try.prog 16 := by
  refine fun_ok (env_ok Cons.nil) mixedP Try.func16 (by decide) rfl cBegun [] (fun _ => rfl) (fun h => by cases h) (fun _ => Nat.le_of_ble_eq_true rfl) ?_
  rintro (l : List Ltr) hp ha hb
  replace hp : Sm l.length := hp
  clear ha hb
  all_goals (repeat' (first
    | with_reducible refine iTr ?_
    | with_reducible refine iB ?_
    | intro _
    | exact True.intro
    | (show _ ∧ _
       first
        | refine aTT ?_
        | refine aTB ?_
        | refine aT ?_
        | refine aB ?_
        | refine a11 ?_
        | refine a01 ?_
        | refine a00 ?_
        | refine a10 ?_
        | (with_reducible refine And.intro rfl ?_)
        | refine And.intro ?_ ?_)
    | with_reducible exact rfl
    | with_reducible exact HEq.rfl
    | (show (_ : Option Nat) = _; exact rfl)
    | (show (_ : Option Blk) = _; exact rfl)
    | (with_reducible show (nodupB _ && _ && _ && _ && _) = true; exact (Eq.refl true))
    | (with_reducible show (nodupB _ && _ && _ && _) = true; exact (Eq.refl true))
    | (with_reducible show (nodupB _ && _ && _) = true; exact (Eq.refl true))
    | (with_reducible show freeOk _ _ = true; exact (Eq.refl true))
    | (with_reducible show wrOk _ _ _ _ _ = true; exact (Eq.refl true))
    | (show (_ : AV) = _; exact rfl)
    | (show (_ : Heap) = _; exact rfl)
    | (with_reducible show (_ || !_) = true; exact (Eq.refl true))
    | (with_reducible show Nat.beq _ _ = true; exact (Eq.refl true))))
  all_goals (first | (show (_ : Int) = _) | (show (_ : Bool) = _) | (show HEq _ _) | (show ∃ _ : LInv, _) | skip)
  all_goals (try (with_reducible exact rfl))
  all_goals try (refine ⟨⟨{i : Nat // SBg l i}, fun i => [(8, AI i.1), (7, AI l.length), (6, .vsl .ltr l), (3, .slc 0)], fun i => ⟨1, [(0, some (.seq false 3 .int (begunL (l.take i.1))))]⟩, fun i => l.length - i.1⟩, ⟨⟨0, ?_⟩, [(3, 3, .int)], ?_⟩, ?_⟩; rotate_right; rintro ⟨i, hS⟩)
  all_goals (repeat' (first
    | with_reducible refine iTr ?_
    | with_reducible refine iB ?_
    | intro _
    | exact True.intro
    | (show _ ∧ _
       first
        | refine aTT ?_
        | refine aTB ?_
        | refine aT ?_
        | refine aB ?_
        | refine a11 ?_
        | refine a01 ?_
        | refine a00 ?_
        | refine a10 ?_
        | (with_reducible refine And.intro rfl ?_)
        | refine And.intro ?_ ?_)
    | with_reducible exact rfl
    | with_reducible exact HEq.rfl
    | (show (_ : Option Nat) = _; exact rfl)
    | (show (_ : Option Blk) = _; exact rfl)
    | (with_reducible show (nodupB _ && _ && _ && _ && _) = true; exact (Eq.refl true))
    | (with_reducible show (nodupB _ && _ && _ && _) = true; exact (Eq.refl true))
    | (with_reducible show (nodupB _ && _ && _) = true; exact (Eq.refl true))
    | (with_reducible show freeOk _ _ = true; exact (Eq.refl true))
    | (with_reducible show wrOk _ _ _ _ _ = true; exact (Eq.refl true))
    | (show (_ : AV) = _; exact rfl)
    | (show (_ : Heap) = _; exact rfl)
    | (with_reducible show (_ || !_) = true; exact (Eq.refl true))
    | (with_reducible show Nat.beq _ _ = true; exact (Eq.refl true))))
  all_goals (first | (show (_ : Int) = _) | (show (_ : Bool) = _) | (show HEq _ _) | (show ∃ _ : LInv, _) | skip)
  all_goals (try (with_reducible exact rfl))
  all_goals try (refine ⟨⟨i + 1, ?_⟩, ?_, ?_⟩)
  all_goals (repeat' (first
    | with_reducible refine iTr ?_
    | with_reducible refine iB ?_
    | intro _
    | exact True.intro
    | (show _ ∧ _
       first
        | refine aTT ?_
        | refine aTB ?_
        | refine aT ?_
        | refine aB ?_
        | refine a11 ?_
        | refine a01 ?_
        | refine a00 ?_
        | refine a10 ?_
        | (with_reducible refine And.intro rfl ?_)
        | refine And.intro ?_ ?_)
    | with_reducible exact rfl
    | with_reducible exact HEq.rfl
    | (show (_ : Option Nat) = _; exact rfl)
    | (show (_ : Option Blk) = _; exact rfl)
    | (with_reducible show (nodupB _ && _ && _ && _ && _) = true; exact (Eq.refl true))
    | (with_reducible show (nodupB _ && _ && _ && _) = true; exact (Eq.refl true))
    | (with_reducible show (nodupB _ && _ && _) = true; exact (Eq.refl true))
    | (with_reducible show freeOk _ _ = true; exact (Eq.refl true))
    | (with_reducible show wrOk _ _ _ _ _ = true; exact (Eq.refl true))
    | (show (_ : AV) = _; exact rfl)
    | (show (_ : Heap) = _; exact rfl)
    | (with_reducible show (_ || !_) = true; exact (Eq.refl true))
    | (with_reducible show Nat.beq _ _ = true; exact (Eq.refl true))))
  all_goals (first | (show (_ : Int) = _) | (show (_ : Bool) = _) | (show HEq _ _) | (show ∃ _ : LInv, _) | skip)
  all_goals (try (with_reducible exact rfl))
  all_goals (try dsimp only at *)
  all_goals (try simp only [Int.toNat_natCast, decide_eq_true_eq, decide_eq_false_iff_not, beq_iff_eq, cond_true, cond_false] at *)
  all_goals (first
    | omega
    | exact ⟨Nat.zero_le _, hp.le⟩
    | exact ⟨by omega, hS.sm⟩
    | exact wrap_succ (by have := hS.sm; omega)
    | (have h1 := begun_len (l.take i); have h2 := hS.sm; have h3 : (l.take i).length ≤ l.length := (by rw [List.length_take]; omega); show ((begunL (l.take i)).length + 1) * 8 ≤ _; omega)
    | (apply heq_of_eq; exact (begun_t (by omega) (by assumption) (by assumption)).symm)
    | (apply heq_of_eq; refine (begun_f (z := Ty.ltr.dflt) (by omega) fun h => ?_).symm; have h1 := h.1; have h2 := h.2; simp_all; done)
    | (apply heq_of_eq; rw [List.take_of_length_le (by omega)])
    | exact HEq.rfl
    | skip)
end Go.Proofs.Ytipibgamajhgbaa
