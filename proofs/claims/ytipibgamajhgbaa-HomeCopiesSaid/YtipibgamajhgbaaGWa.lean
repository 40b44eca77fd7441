/- Contracts of the plain functions that home reaches. No condition. -/
import Derived.Test.YtipibgamajhgbaaGY
import Derived.Test.YtipibgamajhgbaaGCa
import Derived.Test.YtipibgamajhgbaaC04k
import Derived.Test.YtipibgamajhgbaaGD
import Derived.Test.YtipibgamajhgbaaGQa
namespace Go.Proofs.Ytipibgamajhgbaa
open Go.RowKit
set_option linter.unusedVariables false
set_option linter.unusedSimpArgs false
abbrev ACfg (c : Cfg) : AV := .agg (enc .cfg c)
abbrev ALtr (l : Ltr) : AV := .agg (enc .ltr l)
abbrev AI3 (d : I3) : AV := .agg [.arr 3 .int [d.a, d.b, d.c]]
/-- As con_of_calls; what the arguments are is given. -/
theorem con_of_calls2 {P : Program} {f : FuncId} {fn : Func} {code : Code} (hf : P.funcs[f]? = some fn) (hname : (fn.name == "runtime.NumGoroutine") = false) (hb : fn.body = some code) (c : Con)
    (hh : ∀ x, c.heap x = hp0 ∧ c.heap' x = hp0) (args : c.X → List Value) (ha : ∀ C x vs, RVs C (c.args x) vs → vs = args x) (hr : ∀ x, c.pre x → okAs (c.args x) → plainV (c.res x) = true ∧ okV (c.res x))
    (calls : ∀ x w, c.pre x → okAs (c.args x) → Calls P f (args x).toArray w fun e w' => e = .returned (valV (c.res x)) ∧ Below w.heap.size w w') : c.Ok P f := by
  have hno : ∀ x id k, (c.heap x).get id = some k → False := fun x id k h => by
    rw [(hh x).1] at h
    cases h
  refine ⟨fun args w => Go.MuLone.run_callFunc_enter hf hname hb args w, fun x id k h => (hno x id k h).elim, fun _ x => ⟨by rw [(hh x).1, (hh x).2], fun id k h => (hno x id k h).elim⟩, fun x hpre F φ w vs hR hv => ?_⟩
  have e := ha _ x vs hv
  have ho := okAs_of hv
  subst e
  refine (calls x w hpre ho).mono fun e w' ⟨he, hbl⟩ => ?_
  obtain ⟨g1, g2⟩ := hR.below hbl
  obtain ⟨h1, h2⟩ := hr x hpre ho
  refine ⟨_, he, φ, plain_rv h1 h2, ?_, ?_⟩
  · show Rel F φ (c.heap' x) w'
    rw [(hh x).2, ← (hh x).1]; exact g1
  · show Ext F φ (c.heap x) w φ (c.heap' x) w'
    rw [(hh x).2, ← (hh x).1]; exact g2
theorem rv_I3 {C : Cx} {d : I3} {v : Value} (h : RV1 C (AI3 d) v) : v = .agg #[.int .i64 d.a, .int .i64 d.b, .int .i64 d.c] := by
  obtain ⟨vs, rfl, hr⟩ := h
  cases hr with
  | arr h1 h2 h3 =>
    rename_i us vs'
    have e1 : us = [.int .i64 d.a, .int .i64 d.b, .int .i64 d.c] := by
      have := reps_plain (az := [.int .i64 d.a, .int .i64 d.b, .int .i64 d.c]) h1 rfl
      simpa [val1] using this
    cases h3
    subst e1
    rfl
def cConfig : Con where
  X := Cfg
  args := fun c => [ACfg c]
  heap := fun _ => hp0
  pre := fun _ => True
  res := fun c => AI (cfgE c)
  heap' := fun _ => hp0
  pure := true
  find := fun args _ => match args with
    | [.agg [.int _ a, .int _ b, .int _ c, .int _ d, .int _ e, .int _ f, .int _ g, .int _ h, .int _ i]] => some ⟨a, b, c, d, e, f, g, h, i⟩
    | _ => none
theorem cfgE_ok (c : Cfg) : okI (cfgE c) := by
  unfold cfgE
  repeat' split
  all_goals (unfold okI; omega)
theorem cConfig_ok : cConfig.Ok Try.prog 52 := by
  refine con_of_calls Try.func52 (by decide) rfl cConfig (fun _ => ⟨rfl, rfl⟩) (fun _ => rfl) ?_ ?_
  · rintro (c : Cfg) - -
    exact ⟨rfl, cfgE_ok c, trivial⟩
  · rintro (c : Cfg) w - -
    exact Config_calls c w
theorem bcheck_ok (b : Bun) (t : Int) : okI (bcheck b t) := by
  unfold bcheck
  repeat' split
  all_goals (unfold okI; omega)
theorem lcheck_ok (c : Cfg) (l : Ltr) : okI (lcheck c l) := by
  unfold lcheck lcheckR
  repeat' split
  all_goals first | exact bcheck_ok _ _ | (unfold okI; omega)
def cCheck : Con where
  X := Cfg × Ltr
  args := fun ⟨c, l⟩ => [ACfg c, ALtr l]
  heap := fun _ => hp0
  pre := fun _ => True
  res := fun ⟨c, l⟩ => AI (lcheck c l)
  heap' := fun _ => hp0
  pure := true
  find := fun args _ => match args with
    | [.agg [.int _ a, .int _ b, .int _ c, .int _ d, .int _ e, .int _ f, .int _ g, .int _ h, .int _ i], .agg [.int _ k, .int _ l, .int _ m, .int _ n, .int _ o, .int _ p, .bool q, .int _ r, .bool s, .bool t, .int _ u]] => some (⟨a, b, c, d, e, f, g, h, i⟩, ⟨k, l, m, n, o, p, q, ⟨r, s, t, u⟩⟩)
    | _ => none
theorem cCheck_ok : cCheck.Ok Try.prog 30 := by
  refine con_of_calls Try.func30 (by decide) rfl cCheck (fun _ => ⟨rfl, rfl⟩) (fun _ => rfl) ?_ ?_
  · rintro ⟨c, l⟩ - -
    exact ⟨rfl, lcheck_ok c l, trivial⟩
  · rintro ⟨c, l⟩ w - -
    exact Check_calls c l w
def cTokL : Con where
  X := Int × Int × Int × Bun
  args := fun ⟨f, t, k, b⟩ => [AI f, AI t, AI k, ABun b]
  heap := fun _ => hp0
  pre := fun _ => True
  res := fun ⟨f, t, k, b⟩ => ALtr ⟨1, f, t, k, 0, 0, false, b⟩
  heap' := fun _ => hp0
  pure := true
  find := fun args _ => match args with
    | [.int _ f, .int _ t, .int _ k, .agg [.int _ c, .bool o, .bool h, .int _ d]] => some (f, t, k, ⟨c, o, h, d⟩)
    | _ => none
theorem cTokL_ok : cTokL.Ok Try.prog 83 := by
  refine con_of_calls Try.func83 (by decide) rfl cTokL (fun _ => ⟨rfl, rfl⟩) (fun _ => rfl) ?_ ?_
  · rintro ⟨f, t, k, b⟩ - ⟨h1, h2, h3, h4, -⟩
    have h5 := okABun.1 h4
    exact ⟨rfl, (by constructor <;> omega : okN .i64 1), h1.1, h2.1, h3.1, (by constructor <;> omega : okN .i64 0), (by constructor <;> omega : okN .i64 0), h5.1, h5.2, trivial⟩
  · rintro ⟨f, t, k, b⟩ w - -
    exact Tokens_calls f t k b w
theorem reply_ok {p : Int} {b : Bun} {wr : Bool} {d : I3} (h1 : okI b.c) (h2 : okI d.a) : okI (reply p b wr d).1 := by
  unfold reply
  repeat' split
  all_goals first | exact h2 | exact h1 | (unfold okI; omega)
def cReply : Con where
  X := Int × Bun × Bool × I3
  args := fun ⟨p, b, wr, d⟩ => [AI p, ABun b, AB wr, AI3 d]
  heap := fun _ => hp0
  pre := fun _ => True
  res := fun ⟨p, b, wr, d⟩ => .tup [AI (reply p b wr d).1, AB (reply p b wr d).2.1, AB (reply p b wr d).2.2]
  heap' := fun _ => hp0
  pure := true
  find := fun args _ => match args with
    | [.int _ p, .agg [.int _ c, .bool o, .bool h, .int _ v], .bool wr, .agg [.arr _ .int ds]] => some (p, ⟨c, o, h, v⟩, wr, ⟨ds.getD 0 0, ds.getD 1 0, ds.getD 2 0⟩)
    | _ => none
theorem cReply_ok : cReply.Ok Try.prog 64 := by
  refine con_of_calls2 Try.func64 (by decide) rfl cReply (fun _ => ⟨rfl, rfl⟩) (fun x => match x with | (p, b, wr, d) => [.int .i64 p, .agg #[.int .i64 b.c, .bool b.o, .bool b.h, .int .i64 b.d], .bool wr, .agg #[.int .i64 d.a, .int .i64 d.b, .int .i64 d.c]]) ?_ ?_ ?_
  · rintro C ⟨p, b, wr, d⟩ vs h
    match vs, h with
    | [v1, v2, v3, v4], ⟨h1, h2, h3, h4, _⟩ =>
      have e1 := rv1_plain h1 rfl
      have e2 := rv1_plain h2 rfl
      have e3 := rv1_plain h3 rfl
      have e4 := rv_I3 h4
      subst e1 e2 e3 e4
      rfl
  · rintro ⟨p, b, wr, d⟩ - ⟨h1, h2, h3, h4, -⟩
    refine ⟨rfl, ⟨reply_ok (okABun.1 h2).1 ?_, trivial⟩, trivial, trivial, trivial⟩
    have h5 := h4.1.2 d.a (by simp)
    exact h5.1
  · rintro ⟨p, b, wr, d⟩ w - -
    exact Reply_calls p b wr d w
end Go.Proofs.Ytipibgamajhgbaa

namespace Go.Proofs.Ytipibgamajhgbaa
open Go.RowKit
set_option linter.unusedVariables false
set_option linter.unusedSimpArgs false
def spreadN (n : Int) : Int := if (if 64 < n then 64 else n) < 0 then 0 else if 64 < n then 64 else n
def sprI (kd f b s x : Int) (i : Nat) : List Ltr := (List.range i).map fun (j : Nat) => (⟨kd, f, (j : Int), b, s, x, false, bun0⟩ : Ltr)
def spreadL (kd f b s x n : Int) : List Ltr := sprI kd f b s x (spreadN n).toNat
theorem sprI_succ (kd f b s x : Int) (i : Nat) : sprI kd f b s x (i + 1) = sprI kd f b s x i ++ [⟨kd, f, (i : Int), b, s, x, false, bun0⟩] := by
  unfold sprI
  rw [List.range_succ, List.map_append]
  rfl
theorem sprI_len (kd f b s x : Int) (i : Nat) : (sprI kd f b s x i).length = i := by simp [sprI]
theorem spreadN_le (n : Int) : 0 ≤ spreadN n ∧ spreadN n ≤ 64 := by unfold spreadN; repeat' split <;> omega
structure SS (n : Int) (i : Nat) : Prop where
  le : (i : Int) ≤ spreadN n
def cSpread : Con where
  X := Int × Int × Int × Int × Int × Int
  args := fun ⟨kd, f, b, s, x, n⟩ => [AI kd, AI f, AI b, AI s, AI x, AI n]
  heap := fun _ => hp0
  pre := fun _ => True
  res := fun _ => .slc 0
  heap' := fun ⟨kd, f, b, s, x, n⟩ => ⟨1, [(0, some (.seq false 34 .ltr (spreadL kd f b s x n)))]⟩
  pure := false
  find := fun args H => match args with
    | [.int _ kd, .int _ f, .int _ b, .int _ s, .int _ x, .int _ n] => some (kd, f, b, s, x, n)
    | _ => none
set_option maxRecDepth 100000 in
set_option maxHeartbeats 8000000 in
theorem cSpread_ok : cSpread.Ok Try.prog 70 := by
  refine fun_ok (env_ok Cons.nil) mixedP Try.func70 (by decide) rfl cSpread [] (fun _ => rfl) (fun h => by cases h) (fun _ => Nat.le_of_ble_eq_true rfl) ?_
  rintro ⟨kd, f, b, s, x, n⟩ hp ha hb
  clear hp ha hb
  all_goals (repeat' (first
    | with_reducible refine iTr ?_
    | with_reducible refine iB ?_
    | intro _
    | exact True.intro
    | (show _ ∧ _
       first
        | refine aTT ?_
        | refine aTB ?_
        | refine aT ?_
        | refine aB ?_
        | refine a11 ?_
        | refine a01 ?_
        | refine a00 ?_
        | refine a10 ?_
        | (with_reducible refine And.intro rfl ?_)
        | refine And.intro ?_ ?_)
    | with_reducible exact rfl
    | with_reducible exact HEq.rfl
    | (show (_ : Option Nat) = _; exact rfl)
    | (show (_ : Option Blk) = _; exact rfl)
    | (with_reducible show (nodupB _ && _ && _ && _ && _) = true; exact (Eq.refl true))
    | (with_reducible show (nodupB _ && _ && _ && _) = true; exact (Eq.refl true))
    | (with_reducible show (nodupB _ && _ && _) = true; exact (Eq.refl true))
    | (with_reducible show freeOk _ _ = true; exact (Eq.refl true))
    | (with_reducible show wrOk _ _ _ _ _ = true; exact (Eq.refl true))
    | (show (_ : AV) = _; exact rfl)
    | (show (_ : Heap) = _; exact rfl)
    | (with_reducible show (_ || !_) = true; exact (Eq.refl true))
    | (with_reducible show Nat.beq _ _ = true; exact (Eq.refl true))))
  all_goals (first | (show (_ : Int) = _) | (show (_ : Bool) = _) | (show HEq _ _) | (show ∃ _ : LInv, _) | skip)
  all_goals (try (with_reducible exact rfl))
  all_goals try (refine ⟨⟨{i : Nat // SS n i}, fun i => [(18, AI i.1), (17, AI (spreadN n)), (13, .slc 0), (0, AI kd), (1, AI f), (2, AI b), (3, AI s), (4, AI x)], fun i => ⟨1, [(0, some (.seq false 34 .ltr (sprI kd f b s x i.1)))]⟩, fun i => (spreadN n).toNat - i.1⟩, ⟨⟨0, ?_⟩, [(13, 34, .ltr)], ?_⟩, ?_⟩; rotate_right; rintro ⟨i, hS⟩)
  all_goals (repeat' (first
    | with_reducible refine iTr ?_
    | with_reducible refine iB ?_
    | intro _
    | exact True.intro
    | (show _ ∧ _
       first
        | refine aTT ?_
        | refine aTB ?_
        | refine aT ?_
        | refine aB ?_
        | refine a11 ?_
        | refine a01 ?_
        | refine a00 ?_
        | refine a10 ?_
        | (with_reducible refine And.intro rfl ?_)
        | refine And.intro ?_ ?_)
    | with_reducible exact rfl
    | with_reducible exact HEq.rfl
    | (show (_ : Option Nat) = _; exact rfl)
    | (show (_ : Option Blk) = _; exact rfl)
    | (with_reducible show (nodupB _ && _ && _ && _ && _) = true; exact (Eq.refl true))
    | (with_reducible show (nodupB _ && _ && _ && _) = true; exact (Eq.refl true))
    | (with_reducible show (nodupB _ && _ && _) = true; exact (Eq.refl true))
    | (with_reducible show freeOk _ _ = true; exact (Eq.refl true))
    | (with_reducible show wrOk _ _ _ _ _ = true; exact (Eq.refl true))
    | (show (_ : AV) = _; exact rfl)
    | (show (_ : Heap) = _; exact rfl)
    | (with_reducible show (_ || !_) = true; exact (Eq.refl true))
    | (with_reducible show Nat.beq _ _ = true; exact (Eq.refl true))))
  all_goals (first | (show (_ : Int) = _) | (show (_ : Bool) = _) | (show HEq _ _) | (show ∃ _ : LInv, _) | skip)
  all_goals (try (with_reducible exact rfl))
  all_goals try (refine ⟨⟨i + 1, ?_⟩, ?_, ?_⟩)
  all_goals (repeat' (first
    | with_reducible refine iTr ?_
    | with_reducible refine iB ?_
    | intro _
    | exact True.intro
    | (show _ ∧ _
       first
        | refine aTT ?_
        | refine aTB ?_
        | refine aT ?_
        | refine aB ?_
        | refine a11 ?_
        | refine a01 ?_
        | refine a00 ?_
        | refine a10 ?_
        | (with_reducible refine And.intro rfl ?_)
        | refine And.intro ?_ ?_)
    | with_reducible exact rfl
    | with_reducible exact HEq.rfl
    | (show (_ : Option Nat) = _; exact rfl)
    | (show (_ : Option Blk) = _; exact rfl)
    | (with_reducible show (nodupB _ && _ && _ && _ && _) = true; exact (Eq.refl true))
    | (with_reducible show (nodupB _ && _ && _ && _) = true; exact (Eq.refl true))
    | (with_reducible show (nodupB _ && _ && _) = true; exact (Eq.refl true))
    | (with_reducible show freeOk _ _ = true; exact (Eq.refl true))
    | (with_reducible show wrOk _ _ _ _ _ = true; exact (Eq.refl true))
    | (show (_ : AV) = _; exact rfl)
    | (show (_ : Heap) = _; exact rfl)
    | (with_reducible show (_ || !_) = true; exact (Eq.refl true))
    | (with_reducible show Nat.beq _ _ = true; exact (Eq.refl true))))
  all_goals (first | (show (_ : Int) = _) | (show (_ : Bool) = _) | (show HEq _ _) | (show ∃ _ : LInv, _) | skip)
  all_goals (try (with_reducible exact rfl))
  all_goals (try dsimp only at *)
  all_goals (have hsp := spreadN_le n)
  all_goals (first
    | rfl
    | (show SS n 0; exact ⟨hsp.1⟩)
    | (have hi : (i : Int) < spreadN n := of_decide_eq_true ‹decide ((i : Int) < spreadN n) = true›; first | omega | (show ((sprI kd f b s x i).length + 1) * 80 ≤ _; rw [sprI_len]; omega) | (show SS n (i + 1); exact ⟨by omega⟩) | exact wrap_succ (by omega) | (apply heq_of_eq; rw [sprI_succ]; rfl))
    | (have hi : ¬ (i : Int) < spreadN n := of_decide_eq_false ‹decide ((i : Int) < spreadN n) = false›; have hle := hS.le; have e : (spreadN n).toNat = i := (by omega); apply heq_of_eq; unfold spreadL; rw [e])
    | (apply heq_of_eq; rfl)
    | skip)
end Go.Proofs.Ytipibgamajhgbaa

namespace Go.Proofs.Ytipibgamajhgbaa
open Go.RowKit
set_option linter.unusedVariables false
set_option linter.unusedSimpArgs false
abbrev p0 : Path := ⟨0, 0, 0, none⟩
/-- Home: its object, its memory's and its arbiter's. -/
def hH (ro : Bool) (c : Cfg) (n : Int) (xs : List Bun) (rows : List Row12) : Heap :=
  ⟨5, [(4, some (.seq ro 124 .row12 rows)), (3, some (.obj true [.int .i64 n, .slc 4])), (2, some (.seq ro 32 .bun xs)), (1, some (.obj true [.slc 2])), (0, some (.obj true [.int .i64 c.nodes, .int .i64 c.blocks, .int .i64 c.tokens, .int .i64 c.sets, .int .i64 c.ways, .int .i64 c.cap, .int .i64 c.wait, .int .i64 c.tries, .int .i64 c.policy, .ptr 1 p0, .ptr 3 p0]))]⟩
def hHL (ro : Bool) (c : Cfg) (n : Int) (xs : List Bun) (rows : List Row12) (out : List Ltr) : Heap :=
  ⟨6, [(5, some (.seq false 34 .ltr out)), (4, some (.seq ro 124 .row12 rows)), (3, some (.obj true [.int .i64 n, .slc 4])), (2, some (.seq ro 32 .bun xs)), (1, some (.obj true [.slc 2])), (0, some (.obj true [.int .i64 c.nodes, .int .i64 c.blocks, .int .i64 c.tokens, .int .i64 c.sets, .int .i64 c.ways, .int .i64 c.cap, .int .i64 c.wait, .int .i64 c.tries, .int .i64 c.policy, .ptr 1 p0, .ptr 3 p0]))]⟩
abbrev pH : AV := .ptr 0 p0
structure HS where
  c : Cfg
  n : Int
  xs : List Bun
  rows : List Row12
def findH (id : Nat) (H : Heap) : Option HS := match H.get id with
  | some (.obj _ [.int _ a, .int _ b, .int _ c, .int _ d, .int _ e, .int _ f, .int _ g, .int _ h, .int _ i, .ptr m _, .ptr q _]) => match findM m H with
    | some xs => match findA q H with
      | some (n, rows) => some ⟨⟨a, b, c, d, e, f, g, h, i⟩, n, xs, rows⟩
      | none => none
    | none => none
  | _ => none
def tokL (c : Cfg) (dst block : Int) (b : Bun) : List Ltr := if b.c < 1 then [] else [⟨1, c.nodes, dst, block, 0, 0, false, b⟩]
theorem tokL_len (c : Cfg) (dst block : Int) (b : Bun) : (tokL c dst block b).length ≤ 1 := by unfold tokL; split <;> simp
def cHTok : Con where
  X := HS × Int × Int × Bun
  args := fun ⟨h, dst, k, b⟩ => [pH, AI dst, AI k, ABun b]
  heap := fun ⟨h, dst, k, b⟩ => hH true h.c h.n h.xs h.rows
  pre := fun _ => True
  res := fun _ => .slc 5
  heap' := fun ⟨h, dst, k, b⟩ => hHL true h.c h.n h.xs h.rows (tokL h.c dst k b)
  pure := false
  find := fun args H => match args with
    | [.ptr id _, .int _ dst, .int _ k, .agg [.int _ c, .bool o, .bool h, .int _ d]] => (findH id H).map fun s => (s, dst, k, ⟨c, o, h, d⟩)
    | _ => none
set_option maxRecDepth 100000 in
set_option maxHeartbeats 8000000 in
theorem cHTok_ok : cHTok.Ok Try.prog 62 := by
  refine fun_ok (env_ok (Cons.cons cTokL_ok Cons.nil)) mixedP Try.func62 (by decide) rfl cHTok [(3, 10), (2000003, 9)] (fun _ => rfl) (fun h => by cases h) (fun _ => Nat.le_of_ble_eq_true rfl) ?_
  rintro ⟨⟨c, n, xs, rows⟩, dst, k, b⟩ hp ha hb
  clear hp ha hb
  all_goals (repeat' (first
    | with_reducible refine iTr ?_
    | with_reducible refine iB ?_
    | intro _
    | exact True.intro
    | (show _ ∧ _
       first
        | refine aTT ?_
        | refine aTB ?_
        | refine aT ?_
        | refine aB ?_
        | refine a11 ?_
        | refine a01 ?_
        | refine a00 ?_
        | refine a10 ?_
        | (with_reducible refine And.intro rfl ?_)
        | refine And.intro ?_ ?_)
    | with_reducible exact rfl
    | with_reducible exact HEq.rfl
    | (show (_ : Option Nat) = _; exact rfl)
    | (show (_ : Option Blk) = _; exact rfl)
    | (with_reducible show (nodupB _ && _ && _ && _ && _) = true; exact (Eq.refl true))
    | (with_reducible show (nodupB _ && _ && _ && _) = true; exact (Eq.refl true))
    | (with_reducible show (nodupB _ && _ && _) = true; exact (Eq.refl true))
    | (with_reducible show freeOk _ _ = true; exact (Eq.refl true))
    | (with_reducible show wrOk _ _ _ _ _ = true; exact (Eq.refl true))
    | (show (_ : AV) = _; exact rfl)
    | (show (_ : Heap) = _; exact rfl)
    | (with_reducible show (_ || !_) = true; exact (Eq.refl true))
    | (with_reducible show Nat.beq _ _ = true; exact (Eq.refl true))))
  all_goals (first | (show (_ : Int) = _) | (show (_ : Bool) = _) | (show HEq _ _) | (show ∃ _ : LInv, _) | skip)
  all_goals (try (with_reducible exact rfl))
  all_goals (try dsimp only at *)
  all_goals (try simp only [decide_eq_true_eq, decide_eq_false_iff_not] at *)
  all_goals (apply heq_of_eq; unfold tokL; first | (rw [if_pos (by assumption)]; done) | (rw [if_neg (by assumption)]; done) | skip)
def begT (c : Cfg) (xs : List Bun) (a : Atv) : Bun × List Bun := takeB xs a.block (getB xs a.block).c true true
def begL (c : Cfg) (xs : List Bun) (a : Atv) : List Ltr := spreadL 4 c.nodes a.block a.seq a.node c.nodes ++ tokL c a.node a.block (begT c xs a).1
def cHBegin : Con where
  X := HS × Atv × Bool
  args := fun ⟨h, a, ok⟩ => [pH, AAtv a, AB ok]
  heap := fun ⟨h, a, ok⟩ => hH false h.c h.n h.xs h.rows
  pre := fun ⟨h, a, ok⟩ => 0 ≤ (getB h.xs a.block).c
  res := fun _ => .slc 5
  heap' := fun ⟨h, a, ok⟩ => hHL false h.c h.n (if ok then (begT h.c h.xs a).2 else h.xs) h.rows (if ok then begL h.c h.xs a else [])
  pure := false
  find := fun args H => match args with
    | [.ptr id _, .agg [.int _ b, .int _ nd, .int _ s], .bool ok] => (findH id H).map fun h => (h, ⟨b, nd, s⟩, ok)
    | _ => none
set_option maxRecDepth 100000 in
set_option maxHeartbeats 8000000 in
theorem cHBegin_ok : cHBegin.Ok Try.prog 67 := by
  refine fun_ok (env_ok (Cons.cons cSpread_ok (Cons.cons cGet_ok (Cons.cons cTake_ok (Cons.cons cHTok_ok Cons.nil))))) mixedP Try.func67 (by decide) rfl cHBegin [(3, 17), (4, 23), (2000003, 16), (2000004, 20), (2000004, 21), (2000004, 22), (4000004, 0), (5000004, 0), (4000004, 1), (4000004, 2), (4000004, 3), (4000004, 4), (4000004, 5)] (fun _ => rfl) (fun h => by cases h) (fun _ => Nat.le_of_ble_eq_true rfl) ?_
  rintro ⟨⟨c, n, xs, rows⟩, ⟨ab, an, sq⟩, ok⟩ hp ha hb
  replace hp : 0 ≤ (getB xs ab).c := hp
  clear ha hb
  all_goals (repeat' (first
    | with_reducible refine iTr ?_
    | with_reducible refine iB ?_
    | intro _
    | exact True.intro
    | (show _ ∧ _
       first
        | refine aTT ?_
        | refine aTB ?_
        | refine aT ?_
        | refine aB ?_
        | refine a11 ?_
        | refine a01 ?_
        | refine a00 ?_
        | refine a10 ?_
        | (with_reducible refine And.intro rfl ?_)
        | refine And.intro ?_ ?_)
    | with_reducible exact rfl
    | with_reducible exact HEq.rfl
    | (show (_ : Option Nat) = _; exact rfl)
    | (show (_ : Option Blk) = _; exact rfl)
    | (with_reducible show (nodupB _ && _ && _ && _ && _) = true; exact (Eq.refl true))
    | (with_reducible show (nodupB _ && _ && _ && _) = true; exact (Eq.refl true))
    | (with_reducible show (nodupB _ && _ && _) = true; exact (Eq.refl true))
    | (with_reducible show freeOk _ _ = true; exact (Eq.refl true))
    | (with_reducible show wrOk _ _ _ _ _ = true; exact (Eq.refl true))
    | (show (_ : AV) = _; exact rfl)
    | (show (_ : Heap) = _; exact rfl)
    | (with_reducible show (_ || !_) = true; exact (Eq.refl true))
    | (with_reducible show Nat.beq _ _ = true; exact (Eq.refl true))))
  all_goals (first | (show (_ : Int) = _) | (show (_ : Bool) = _) | (show HEq _ _) | (show ∃ _ : LInv, _) | skip)
  all_goals (try (with_reducible exact rfl))
  all_goals (try dsimp only at *)
  all_goals (first
    | exact hp
    | (have ho : ok = false := (by simpa using ‹(!ok) = true›); subst ho; exact HEq.rfl)
    | (have hl := tokL_len c an ab (takeB xs ab (getB xs ab).c true true).1; have hs : (spreadL 4 c.nodes ab sq an c.nodes).length ≤ 64 := (by unfold spreadL; rw [sprI_len]; have := spreadN_le c.nodes; omega); show ((spreadL 4 c.nodes ab sq an c.nodes).length + (tokL c an ab (takeB xs ab (getB xs ab).c true true).1).length) * 80 ≤ _; omega)
    | (have ho : ok = true := (by simpa using ‹(!ok) = false›); subst ho; exact HEq.rfl)
    | skip)
end Go.Proofs.Ytipibgamajhgbaa
