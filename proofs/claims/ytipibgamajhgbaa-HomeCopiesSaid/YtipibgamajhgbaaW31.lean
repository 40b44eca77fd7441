/- HomeCopies of layer 16: the contract. No condition. -/
import Derived.Test.YtipibgamajhgbaaW15
import Derived.Test.YtipibgamajhgbaaGY
namespace Go.Proofs.Ytipibgamajhgbaa
open Go.RowKit
set_option linter.unusedVariables false
set_option linter.unusedSimpArgs false
def halfN (n : Nat) : Int := IntKind.i64.wrap ((n : Int).tdiv 2)
theorem half_ok {n : Nat} (h : n ≤ 200) : 0 ≤ halfN n ∧ halfN n ≤ n := by
  have h1 : (n : Int).tdiv 2 = (n : Int) / 2 := Int.tdiv_eq_ediv_of_nonneg (by omega)
  unfold halfN
  rw [h1, wrap_id (by omega) (by omega)]
  omega
abbrev St := List Bun × List Row12
def stepH (c : Cfg) (s : St) (a : Act16) : St := ((takeO (hsC c s.1 s.2) a.l a.d).xs, (takeO (hsC c s.1 s.2) a.l a.d).rows)
def outH (c : Cfg) (s : St) (a : Act16) : List Ltr := (takeO (hsC c s.1 s.2) a.l a.d).out
def runH (c : Cfg) (s : St) (l : List Act16) : St := l.foldl (stepH c) s
def outsH (c : Cfg) (s : St) (l : List Act16) (n : Nat) : List (List Ltr) := (List.range n).map fun j => outH c (runH c s (l.take j)) (l.getD j Ty.act16.dflt)
theorem runH_succ (c : Cfg) (s : St) {l : List Act16} {j : Nat} (h : j < l.length) : runH c s (l.take (j + 1)) = stepH c (runH c s (l.take j)) (l.getD j Ty.act16.dflt) := by
  unfold runH
  rw [List.take_add_one, List.getElem?_eq_getElem h, List.foldl_append, List.getD_eq_getElem?_getD, List.getElem?_eq_getElem h]
  rfl
theorem outsH_succ (c : Cfg) (s : St) (l : List Act16) (j : Nat) : outsH c s l (j + 1) = outsH c s l j ++ [outH c (runH c s (l.take j)) (l.getD j Ty.act16.dflt)] := by
  unfold outsH
  rw [List.range_succ, List.map_append]
  rfl
theorem outsH_len (c : Cfg) (s : St) (l : List Act16) (j : Nat) : (outsH c s l j).length = j := by simp [outsH]
theorem outsH_get (c : Cfg) (s : St) (l : List Act16) {n j : Nat} (h : j < n) (z : List Ltr) : (outsH c s l n).getD j z = outH c (runH c s (l.take j)) (l.getD j Ty.act16.dflt) := by
  unfold outsH
  rw [List.getD_eq_getElem?_getD, List.getElem?_map, List.getElem?_range h]
  rfl
theorem runH_all (c : Cfg) (s : St) {l : List Act16} {j : Nat} (h : ¬ j < l.length) : runH c s (l.take j) = runH c s l := by rw [List.take_of_length_le (by omega)]
structure C1 (c : Cfg) (m i : Nat) (xs : List Bun) (rows : List Row12) : Prop where
  le : i ≤ m
  m200 : m ≤ 200
  ih : IH c i xs rows
structure C2 (n j : Nat) : Prop where
  le : j ≤ n
theorem runH_ih {c : Cfg} {k : Nat} {s : St} (h : IH c k s.1 s.2) : ∀ {l : List Act16}, k + l.length ≤ 1000 → IH c (k + l.length) (runH c s l).1 (runH c s l).2
  | [], _ => h
  | a :: l, hk => by
    rw [List.length_cons] at hk ⊢
    have h1 : IH c (k + 1) (stepH c s a).1 (stepH c s a).2 := ih_take (n := newN c.nodes) h (by omega) a.l a.d
    have := runH_ih h1 (l := l) (by omega)
    rw [show k + (l.length + 1) = k + 1 + l.length from by omega]
    exact this
theorem ih_copy {c : Cfg} {k : Nat} {xs : List Bun} {rows : List Row12} (h : IH c k xs rows) : PCopyH (hsC c xs rows) := by
  have hl := ih_len h
  have hr := h.rl
  refine ⟨hl.2.1, by show rows.length ≤ 64; have := hl.1; omega, fun i hi => ⟨?_⟩⟩
  have := h.q (i : Int)
  have := h.kl
  unfold getR at *
  rw [Int.toNat_natCast] at *
  show (rows.getD i dRow).queue.length ≤ _
  omega
theorem plA' {x y : List Ltr} (h : x = y) (hx : (!decide (x = y)) = true) : False := by subst h; simp at hx
theorem run_pre {c : Cfg} {k : Nat} {xs : List Bun} {rows : List Row12} (h : IH c k xs rows) {l : List Act16} (hk : k + l.length ≤ 1000) (j : Nat) : ∃ n, IH c n (runH c (xs, rows) (l.take j)).1 (runH c (xs, rows) (l.take j)).2 :=
  ⟨_, runH_ih (s := (xs, rows)) h (l := l.take j) (by rw [List.length_take]; omega)⟩
def hm5 (c : Cfg) (xs : List Bun) (rows : List Row12) : Heap := ⟨5, [(4, some (.seq false 124 .row12 rows)), (3, some (.obj false [.int .i64 (newN c.nodes), .slc 4])), (2, some (.seq false 32 .bun xs)), (1, some (.obj false [.slc 2])), (0, some (.obj false [.int .i64 c.nodes, .int .i64 c.blocks, .int .i64 c.tokens, .int .i64 c.sets, .int .i64 c.ways, .int .i64 c.cap, .int .i64 c.wait, .int .i64 c.tries, .int .i64 c.policy, .ptr 1 p0, .ptr 3 p0]))]⟩
def hm11 (c : Cfg) (s k : St) (outs : List (List Ltr)) : Heap :=
  ⟨11, [(10, some (.seq false 39 (.sl .ltr) outs)), (9, some (.seq false 124 .row12 k.2)), (8, some (.obj false [.int .i64 (newN c.nodes), .slc 9])), (7, some (.seq false 32 .bun k.1)), (6, some (.obj false [.slc 7])), (5, some (.obj false [.int .i64 c.nodes, .int .i64 c.blocks, .int .i64 c.tokens, .int .i64 c.sets, .int .i64 c.ways, .int .i64 c.cap, .int .i64 c.wait, .int .i64 c.tries, .int .i64 c.policy, .ptr 6 p0, .ptr 8 p0])),
    (4, some (.seq false 124 .row12 s.2)), (3, some (.obj false [.int .i64 (newN c.nodes), .slc 4])), (2, some (.seq false 32 .bun s.1)), (1, some (.obj false [.slc 2])), (0, some (.obj false [.int .i64 c.nodes, .int .i64 c.blocks, .int .i64 c.tokens, .int .i64 c.sets, .int .i64 c.ways, .int .i64 c.cap, .int .i64 c.wait, .int .i64 c.tries, .int .i64 c.policy, .ptr 1 p0, .ptr 3 p0]))]⟩
def cCpT : Con where
  X := Cfg × List Act16
  args := fun ⟨c, l⟩ => [ACfg c, .vsl .act16 l]
  heap := fun _ => hp0
  pre := fun ⟨c, l⟩ => MadeOk c l
  res := fun _ => AB true
  heap' := fun _ => hp0
  pure := true
  find := fun _ _ => none
set_option maxRecDepth 100000 in
set_option maxHeartbeats 16000000 in
theorem cCpT_ok : cCpT.Ok Try.prog 8 := by
  refine fun_ok (env_ok (Cons.cons cawake_ok (Cons.cons cMadeT_ok (Cons.cons cTakeH_ok (Cons.cons cCopyH_ok (Cons.cons cSameL_ok (Cons.cons cAllH_ok (Cons.cons cSame_ok Cons.nil)))))))) mixedP Try.func8 (by decide) rfl cCpT [(22, 12), (2000022, 5), (3000022, 6), (3000022, 7), (3000022, 8), (3000022, 9)] (fun _ => rfl) (fun _ _ => ⟨rfl, fun id k h => by cases h⟩) (fun _ => Nat.le_of_ble_eq_true rfl) ?_
  rintro ⟨c, l⟩ hp ha hb
  replace hp : MadeOk c l := hp
  clear ha hb
  all_goals (repeat' (first
    | with_reducible refine iTr ?_
    | with_reducible refine iB ?_
    | intro _
    | exact True.intro
    | (show _ ∧ _
       first
        | refine aTT ?_
        | refine aTB ?_
        | refine aT ?_
        | refine aB ?_
        | refine a11 ?_
        | refine a01 ?_
        | refine a00 ?_
        | refine a10 ?_
        | (with_reducible refine And.intro rfl ?_)
        | refine And.intro ?_ ?_)
    | with_reducible exact rfl
    | with_reducible exact HEq.rfl
    | (show (_ : Option Nat) = _; exact rfl)
    | (show (_ : Option Blk) = _; exact rfl)
    | (with_reducible show (nodupB _ && _ && _ && _ && _) = true; exact (Eq.refl true))
    | (with_reducible show (nodupB _ && _ && _ && _) = true; exact (Eq.refl true))
    | (with_reducible show (nodupB _ && _ && _) = true; exact (Eq.refl true))
    | (with_reducible show freeOk _ _ = true; exact (Eq.refl true))
    | (with_reducible show wrOk _ _ _ _ _ = true; exact (Eq.refl true))
    | (show (_ : AV) = _; exact rfl)
    | (show (_ : Heap) = _; exact rfl)
    | (with_reducible show (_ || !_) = true; exact (Eq.refl true))
    | (with_reducible show Nat.beq _ _ = true; exact (Eq.refl true))))
  all_goals (first | (show (_ : Int) = _) | (show (_ : Bool) = _) | (show HEq _ _) | (show ∃ _ : LInv, _) | skip)
  all_goals (try (with_reducible exact rfl))
  all_goals try (refine ⟨⟨{s : Nat × List Bun × List Row12 // C1 c (l.take (halfN l.length).toNat).length s.1 s.2.1 s.2.2}, fun s => [(38, AI s.1.1), (37, AI (l.take (halfN l.length).toNat).length), (36, .vsl .act16 (l.take (halfN l.length).toNat)), (5, .ptr 0 p0), (1, .vsl .act16 l), (8, AI (halfN l.length))], fun s => hm5 c s.1.2.1 s.1.2.2, fun s => (l.take (halfN l.length).toNat).length - s.1.1⟩, ⟨⟨(0, newB c.blocks c.tokens, newR c.blocks), ?_⟩, [], ?_⟩, ?_⟩; rotate_right; rintro ⟨⟨i, xs, rows⟩, hS⟩)
  all_goals (repeat' (first
    | with_reducible refine iTr ?_
    | with_reducible refine iB ?_
    | intro _
    | exact True.intro
    | (show _ ∧ _
       first
        | refine aTT ?_
        | refine aTB ?_
        | refine aT ?_
        | refine aB ?_
        | refine a11 ?_
        | refine a01 ?_
        | refine a00 ?_
        | refine a10 ?_
        | (with_reducible refine And.intro rfl ?_)
        | refine And.intro ?_ ?_)
    | with_reducible exact rfl
    | with_reducible exact HEq.rfl
    | (show (_ : Option Nat) = _; exact rfl)
    | (show (_ : Option Blk) = _; exact rfl)
    | (with_reducible show (nodupB _ && _ && _ && _ && _) = true; exact (Eq.refl true))
    | (with_reducible show (nodupB _ && _ && _ && _) = true; exact (Eq.refl true))
    | (with_reducible show (nodupB _ && _ && _) = true; exact (Eq.refl true))
    | (with_reducible show freeOk _ _ = true; exact (Eq.refl true))
    | (with_reducible show wrOk _ _ _ _ _ = true; exact (Eq.refl true))
    | (show (_ : AV) = _; exact rfl)
    | (show (_ : Heap) = _; exact rfl)
    | (with_reducible show (_ || !_) = true; exact (Eq.refl true))
    | (with_reducible show Nat.beq _ _ = true; exact (Eq.refl true))))
  all_goals (first | (show (_ : Int) = _) | (show (_ : Bool) = _) | (show HEq _ _) | (show ∃ _ : LInv, _) | skip)
  all_goals (try (with_reducible exact rfl))
  all_goals try (refine ⟨⟨((i + 1 : Nat), ?_, ?_), ?_⟩, ?_, ?_⟩)
  all_goals (repeat' (first
    | with_reducible refine iTr ?_
    | with_reducible refine iB ?_
    | intro _
    | exact True.intro
    | (show _ ∧ _
       first
        | refine aTT ?_
        | refine aTB ?_
        | refine aT ?_
        | refine aB ?_
        | refine a11 ?_
        | refine a01 ?_
        | refine a00 ?_
        | refine a10 ?_
        | (with_reducible refine And.intro rfl ?_)
        | refine And.intro ?_ ?_)
    | with_reducible exact rfl
    | with_reducible exact HEq.rfl
    | (show (_ : Option Nat) = _; exact rfl)
    | (show (_ : Option Blk) = _; exact rfl)
    | (with_reducible show (nodupB _ && _ && _ && _ && _) = true; exact (Eq.refl true))
    | (with_reducible show (nodupB _ && _ && _ && _) = true; exact (Eq.refl true))
    | (with_reducible show (nodupB _ && _ && _) = true; exact (Eq.refl true))
    | (with_reducible show freeOk _ _ = true; exact (Eq.refl true))
    | (with_reducible show wrOk _ _ _ _ _ = true; exact (Eq.refl true))
    | (show (_ : AV) = _; exact rfl)
    | (show (_ : Heap) = _; exact rfl)
    | (with_reducible show (_ || !_) = true; exact (Eq.refl true))
    | (with_reducible show Nat.beq _ _ = true; exact (Eq.refl true))))
  all_goals (first | (show (_ : Int) = _) | (show (_ : Bool) = _) | (show HEq _ _) | (show ∃ _ : LInv, _) | skip)
  all_goals (try (with_reducible exact rfl))
  all_goals try (refine ⟨⟨{j : Nat // C2 (l.drop (halfN l.length).toNat).length j}, fun j => [(57, AI j.1), (56, AI (l.drop (halfN l.length).toNat).length), (55, .vsl .act16 (l.drop (halfN l.length).toNat)), (5, .ptr 0 p0), (11, .ptr 5 p0), (12, .slc 10), (1, .vsl .act16 l), (8, AI (halfN l.length))], fun j => hm11 c (runH c (xs, rows) ((l.drop (halfN l.length).toNat).take j.1)) (xs, rows) (outsH c (xs, rows) (l.drop (halfN l.length).toNat) j.1), fun j => (l.drop (halfN l.length).toNat).length - j.1⟩, ⟨⟨0, ?_⟩, [(12, 39, .sl .ltr)], ?_⟩, ?_⟩; rotate_right; rintro ⟨j, hJ⟩)
  all_goals (repeat' (first
    | with_reducible refine iTr ?_
    | with_reducible refine iB ?_
    | intro _
    | exact True.intro
    | (show _ ∧ _
       first
        | refine aTT ?_
        | refine aTB ?_
        | refine aT ?_
        | refine aB ?_
        | refine a11 ?_
        | refine a01 ?_
        | refine a00 ?_
        | refine a10 ?_
        | (with_reducible refine And.intro rfl ?_)
        | refine And.intro ?_ ?_)
    | with_reducible exact rfl
    | with_reducible exact HEq.rfl
    | (show (_ : Option Nat) = _; exact rfl)
    | (show (_ : Option Blk) = _; exact rfl)
    | (with_reducible show (nodupB _ && _ && _ && _ && _) = true; exact (Eq.refl true))
    | (with_reducible show (nodupB _ && _ && _ && _) = true; exact (Eq.refl true))
    | (with_reducible show (nodupB _ && _ && _) = true; exact (Eq.refl true))
    | (with_reducible show freeOk _ _ = true; exact (Eq.refl true))
    | (with_reducible show wrOk _ _ _ _ _ = true; exact (Eq.refl true))
    | (show (_ : AV) = _; exact rfl)
    | (show (_ : Heap) = _; exact rfl)
    | (with_reducible show (_ || !_) = true; exact (Eq.refl true))
    | (with_reducible show Nat.beq _ _ = true; exact (Eq.refl true))))
  all_goals (first | (show (_ : Int) = _) | (show (_ : Bool) = _) | (show HEq _ _) | (show ∃ _ : LInv, _) | skip)
  all_goals (try (with_reducible exact rfl))
  all_goals try (refine ⟨⟨(j + 1 : Nat), ?_⟩, ?_, ?_⟩)
  all_goals (repeat' (first
    | with_reducible refine iTr ?_
    | with_reducible refine iB ?_
    | intro _
    | exact True.intro
    | (show _ ∧ _
       first
        | refine aTT ?_
        | refine aTB ?_
        | refine aT ?_
        | refine aB ?_
        | refine a11 ?_
        | refine a01 ?_
        | refine a00 ?_
        | refine a10 ?_
        | (with_reducible refine And.intro rfl ?_)
        | refine And.intro ?_ ?_)
    | with_reducible exact rfl
    | with_reducible exact HEq.rfl
    | (show (_ : Option Nat) = _; exact rfl)
    | (show (_ : Option Blk) = _; exact rfl)
    | (with_reducible show (nodupB _ && _ && _ && _ && _) = true; exact (Eq.refl true))
    | (with_reducible show (nodupB _ && _ && _ && _) = true; exact (Eq.refl true))
    | (with_reducible show (nodupB _ && _ && _) = true; exact (Eq.refl true))
    | (with_reducible show freeOk _ _ = true; exact (Eq.refl true))
    | (with_reducible show wrOk _ _ _ _ _ = true; exact (Eq.refl true))
    | (show (_ : AV) = _; exact rfl)
    | (show (_ : Heap) = _; exact rfl)
    | (with_reducible show (_ || !_) = true; exact (Eq.refl true))
    | (with_reducible show Nat.beq _ _ = true; exact (Eq.refl true))))
  all_goals (first | (show (_ : Int) = _) | (show (_ : Bool) = _) | (show HEq _ _) | (show ∃ _ : LInv, _) | skip)
  all_goals (try (with_reducible exact rfl))
  all_goals try (refine ⟨⟨{m : Nat // C2 (l.drop (halfN l.length).toNat).length m}, fun m => [(75, AI m.1), (74, AI (l.drop (halfN l.length).toNat).length), (73, .vsl .act16 (l.drop (halfN l.length).toNat)), (5, .ptr 0 p0), (11, .ptr 5 p0), (12, .slc 10)], fun m => hm11 c (runH c (xs, rows) (l.drop (halfN l.length).toNat)) (runH c (xs, rows) ((l.drop (halfN l.length).toNat).take m.1)) (outsH c (xs, rows) (l.drop (halfN l.length).toNat) (l.drop (halfN l.length).toNat).length), fun m => (l.drop (halfN l.length).toNat).length - m.1⟩, ⟨⟨0, ?_⟩, [], ?_⟩, ?_⟩; rotate_right; rintro ⟨m, hM⟩)
  all_goals (repeat' (first
    | with_reducible refine iTr ?_
    | with_reducible refine iB ?_
    | intro _
    | exact True.intro
    | (show _ ∧ _
       first
        | refine aTT ?_
        | refine aTB ?_
        | refine aT ?_
        | refine aB ?_
        | refine a11 ?_
        | refine a01 ?_
        | refine a00 ?_
        | refine a10 ?_
        | (with_reducible refine And.intro rfl ?_)
        | refine And.intro ?_ ?_)
    | with_reducible exact rfl
    | with_reducible exact HEq.rfl
    | (show (_ : Option Nat) = _; exact rfl)
    | (show (_ : Option Blk) = _; exact rfl)
    | (with_reducible show (nodupB _ && _ && _ && _ && _) = true; exact (Eq.refl true))
    | (with_reducible show (nodupB _ && _ && _ && _) = true; exact (Eq.refl true))
    | (with_reducible show (nodupB _ && _ && _) = true; exact (Eq.refl true))
    | (with_reducible show freeOk _ _ = true; exact (Eq.refl true))
    | (with_reducible show wrOk _ _ _ _ _ = true; exact (Eq.refl true))
    | (show (_ : AV) = _; exact rfl)
    | (show (_ : Heap) = _; exact rfl)
    | (with_reducible show (_ || !_) = true; exact (Eq.refl true))
    | (with_reducible show Nat.beq _ _ = true; exact (Eq.refl true))))
  all_goals (first | (show (_ : Int) = _) | (show (_ : Bool) = _) | (show HEq _ _) | (show ∃ _ : LInv, _) | skip)
  all_goals (try (with_reducible exact rfl))
  all_goals try (refine ⟨⟨(m + 1 : Nat), ?_⟩, ?_, ?_⟩)
  all_goals (repeat' (first
    | with_reducible refine iTr ?_
    | with_reducible refine iB ?_
    | intro _
    | exact True.intro
    | (show _ ∧ _
       first
        | refine aTT ?_
        | refine aTB ?_
        | refine aT ?_
        | refine aB ?_
        | refine a11 ?_
        | refine a01 ?_
        | refine a00 ?_
        | refine a10 ?_
        | (with_reducible refine And.intro rfl ?_)
        | refine And.intro ?_ ?_)
    | with_reducible exact rfl
    | with_reducible exact HEq.rfl
    | (show (_ : Option Nat) = _; exact rfl)
    | (show (_ : Option Blk) = _; exact rfl)
    | (with_reducible show (nodupB _ && _ && _ && _ && _) = true; exact (Eq.refl true))
    | (with_reducible show (nodupB _ && _ && _ && _) = true; exact (Eq.refl true))
    | (with_reducible show (nodupB _ && _ && _) = true; exact (Eq.refl true))
    | (with_reducible show freeOk _ _ = true; exact (Eq.refl true))
    | (with_reducible show wrOk _ _ _ _ _ = true; exact (Eq.refl true))
    | (show (_ : AV) = _; exact rfl)
    | (show (_ : Heap) = _; exact rfl)
    | (with_reducible show (_ || !_) = true; exact (Eq.refl true))
    | (with_reducible show Nat.beq _ _ = true; exact (Eq.refl true))))
  all_goals (first | (show (_ : Int) = _) | (show (_ : Bool) = _) | (show HEq _ _) | (show ∃ _ : LInv, _) | skip)
  all_goals (try (with_reducible exact rfl))
  all_goals (try dsimp only at *)
  all_goals (try (with_reducible exact HEq.rfl))
  all_goals (have hh := half_ok hp.len; have hl1 : (l.take (halfN l.length).toNat).length ≤ 200 := (by have := hp.len; rw [List.length_take]; omega); have hl2 : (l.drop (halfN l.length).toNat).length ≤ 200 := (by have := hp.len; rw [List.length_drop]; omega))
  all_goals (first
    | exact hp
    | exact absurd ‹(2 : Int) = 0› (by decide)
    | exact hh.1
    | exact hh.2
    | exact (rfl : (0 : Int) = ((0 : Nat) : Int))
    | exact ⟨Nat.zero_le _, hl1, ih_new hp.cfg⟩
    | exact ⟨Nat.zero_le _⟩
    | skip)
  all_goals (try (replace hS : C1 c (l.take (halfN l.length).toNat).length i xs rows := hS))
  all_goals (first
    | (have hm : m < (l.drop (halfN l.length).toNat).length := Int.ofNat_lt.1 (of_decide_eq_true (by assumption))
       obtain ⟨n, hn⟩ := run_pre hS.ih (l := (l.drop (halfN l.length).toNat)) (by have := hS.le; have := hS.m200; omega) m
       first
       | exact ⟨hm⟩
       | (show PTH _ _; exact ih_pre hn _)
       | exact heq_of_eq (congrArg Prod.fst (runH_succ c (xs, rows) hm)).symm
       | exact heq_of_eq (congrArg Prod.snd (runH_succ c (xs, rows) hm)).symm
       | (exfalso; exact plA' (outsH_get c (xs, rows) (l.drop (halfN l.length).toNat) (n := (l.drop (halfN l.length).toNat).length) (j := m) hm (Ty.sl .ltr).dflt).symm (by assumption))
       | (rw [outsH_len]; omega)
       | exact wrap_succ (by omega)
       | omega
       | exact HEq.rfl)
    | (have hm : ¬ m < (l.drop (halfN l.length).toNat).length := fun h => (of_decide_eq_false ‹decide ((m : Int) < ((l.drop (halfN l.length).toNat).length : Int)) = false›) (Int.ofNat_lt.2 h)
       obtain ⟨n, hn⟩ := run_pre hS.ih (l := (l.drop (halfN l.length).toNat)) (by have := hS.le; have := hS.m200; omega) m
       have hra := runH_all c (xs, rows) hm
       first
       | exact (ih_len hn).2.1
       | (rw [← hra]; exact (ih_len hn).2.1)
       | exact decide_eq_true (congrArg Prod.fst hra.symm))
    | (have hj : j < (l.drop (halfN l.length).toNat).length := Int.ofNat_lt.1 (of_decide_eq_true (by assumption))
       obtain ⟨n, hn⟩ := run_pre hS.ih (l := (l.drop (halfN l.length).toNat)) (by have := hS.le; have := hS.m200; omega) j
       first
       | exact ⟨hj⟩
       | (show PTH _ _; exact ih_pre hn _)
       | exact heq_of_eq (congrArg Prod.fst (runH_succ c (xs, rows) hj)).symm
       | exact heq_of_eq (congrArg Prod.snd (runH_succ c (xs, rows) hj)).symm
       | exact heq_of_eq (outsH_succ c (xs, rows) (l.drop (halfN l.length).toNat) j).symm
       | (rw [outsH_len, List.length_singleton]; omega)
       | exact wrap_succ (by omega)
       | omega
       | exact HEq.rfl)
    | (have hj : ¬ j < (l.drop (halfN l.length).toNat).length := fun h => (of_decide_eq_false ‹decide ((j : Int) < ((l.drop (halfN l.length).toNat).length : Int)) = false›) (Int.ofNat_lt.2 h)
       have hJ2 := hJ.le
       have hra := runH_all c (xs, rows) hj
       first
       | exact heq_of_eq (congrArg Prod.fst hra)
       | exact heq_of_eq (congrArg Prod.snd hra)
       | (apply heq_of_eq; rw [show j = (l.drop (halfN l.length).toNat).length from by omega])
       | exact HEq.rfl)
    | (have hi : i < (l.take (halfN l.length).toNat).length := Int.ofNat_lt.1 (of_decide_eq_true (by assumption))
       have := hS.m200
       first
       | exact ⟨hi, hS.m200, ih_take hS.ih (by omega) _ _⟩
       | (show PTH _ _; exact ih_pre hS.ih _)
       | exact wrap_succ (by omega)
       | omega
       | exact HEq.rfl)
    | exact ih_copy hS.ih
    | exact HEq.rfl
    | exact rfl
    | skip)
end Go.Proofs.Ytipibgamajhgbaa
