/- The contracts of the plain functions that the memory reaches. No condition. -/
import Derived.Test.YtipibgamajhgbaaGEd
import Derived.Test.YtipibgamajhgbaaGB
namespace Go.Proofs.Ytipibgamajhgbaa
open Go.RowKit
set_option linter.unusedVariables false
set_option linter.unusedSimpArgs false
abbrev AI (n : Int) : AV := .int .i64 n
abbrev AB (b : Bool) : AV := .bool b
abbrev ABun (b : Bun) : AV := .agg [.int .i64 b.c, .bool b.o, .bool b.h, .int .i64 b.d]
theorem wrap_i64 (n : Int) : IntKind.i64.wrap n = wrap64 n := by
  simp only [IntKind.wrap, IntKind.bits, IntKind.signed, wrap64]
  simp
  omega
theorem wrap_succ {i : Nat} (h : i < 9223372036854775807) : IntKind.i64.wrap (↑i + 1) = ↑(i + 1) := by
  rw [wrap_i64]
  unfold wrap64
  omega
theorem wrap64_okI (n : Int) : okI (wrap64 n) := by unfold okI wrap64; omega
theorem okABun {b : Bun} : okA (ABun b) ↔ okI b.c ∧ okI b.d := by simp [okA, okLs, okN]
theorem full_ok {t d : Int} (h1 : okI t) (h2 : okI d) : okI (full t d).c ∧ okI (full t d).d := by
  unfold full
  split
  · simp [bun0, okI]
  · exact ⟨h1, h2⟩
theorem valued_ok' {c : Int} {o h : Bool} {d : Int} (h1 : okI c) (h2 : okI d) : okI (valued c o h d).c ∧ okI (valued c o h d).d := by
  refine ⟨h1, ?_⟩
  unfold valued
  cases h <;> simp [okI, h2] <;> exact h2
theorem clamp_ok {n lo hi : Int} (h1 : okI n) (h2 : okI lo) (h3 : okI hi) : okI (clamp n lo hi) := by
  unfold clamp okI at *
  omega
theorem split_ok {b : Bun} (h1 : okI b.c) (h2 : okI b.d) {n : Int} (hn : okI n) (o d : Bool) : (okI (split b n o d).1.c ∧ okI (split b n o d).1.d) ∧ okI (split b n o d).2.c ∧ okI (split b n o d).2.d := by
  have hc : okI (clamp n 0 (max b.c 0)) := clamp_ok hn (by simp [okI]) (by unfold okI at *; omega)
  have hw := wrap64_okI (b.c - 1)
  have h0 : okI bun0.c ∧ okI bun0.d := by simp [bun0, okI]
  unfold split splitW
  simp only []
  generalize hnn : (if (b.o && !(o && b.o && decide (0 < clamp n 0 (max b.c 0)))) = true then min (clamp n 0 (max b.c 0)) (wrap64 (b.c - 1)) else clamp n 0 (max b.c 0)) = nn
  have hk : okI nn := by
    rw [← hnn]
    split
    · unfold okI at *; omega
    · exact hc
  split
  · exact ⟨h0, h1, h2⟩
  · refine ⟨valued_ok' hk h2, ?_⟩
    split
    · exact valued_ok' (wrap64_okI _) h2
    · exact h0
theorem join_ok {a b : Bun} (h1 : okI a.c ∧ okI a.d) (h2 : okI b.c ∧ okI b.d) : okI (join a b).c ∧ okI (join a b).d := by
  refine valued_ok' (wrap64_okI _) ?_
  split
  · exact h2.2
  · exact h1.2
theorem rjoin_ok {a b : Bun} (h1 : okI a.c ∧ okI a.d) (h2 : okI b.c ∧ okI b.d) : okI (rjoin a b).c ∧ okI (rjoin a b).d := by
  refine ⟨wrap64_okI _, ?_⟩
  unfold rjoin
  simp only []
  split
  · exact h2.2
  · exact h1.2
theorem rsplit_ok {b : Bun} (h1 : okI b.c) (h2 : okI b.d) {n : Int} (hn : okI n) (o d : Bool) : (okI (rsplit b n o d).1.c ∧ okI (rsplit b n o d).1.d) ∧ okI (rsplit b n o d).2.c ∧ okI (rsplit b n o d).2.d := by
  have h0 : okI bun0.c ∧ okI bun0.d := by simp [bun0, okI]
  have hw := wrap64_okI
  have hk : okI (rsplitN b n o).1 := by
    unfold rsplitN
    simp only []
    have := hw ((if b.c < (if n < 0 then 0 else n) then b.c else (if n < 0 then 0 else n)) - 1)
    repeat' split
    all_goals first | exact this | exact hw _ | (unfold okI at *; simp only []; omega)
  unfold rsplit
  simp only []
  split
  · exact ⟨h0, h1, h2⟩
  · refine ⟨⟨hk, ?_⟩, ?_⟩
    · simp only []
      split
      · exact h2
      · simp [okI]
    · simp only []
      by_cases hx : (rsplitN b n o).fst = b.c
      · rw [if_pos hx]; exact h0
      · rw [if_neg hx]; exact ⟨hw _, h2⟩
def cClamp : Con where
  X := Int × Int × Int
  args := fun ⟨n, lo, hi⟩ => [AI n, AI lo, AI hi]
  heap := fun _ => hp0
  pre := fun _ => True
  res := fun ⟨n, lo, hi⟩ => AI (clamp n lo hi)
  heap' := fun _ => hp0
  pure := true
  find := fun args _ => match args with
    | [.int _ n, .int _ lo, .int _ hi] => some (n, lo, hi)
    | _ => none
theorem cClamp_ok : cClamp.Ok Try.prog 80 := by
  refine con_of_calls Try.func80 (by decide) rfl cClamp (fun _ => ⟨rfl, rfl⟩) (fun _ => rfl) ?_ ?_
  · rintro ⟨n, lo, hi⟩ - ⟨h1, h2, h3, -⟩
    exact ⟨rfl, clamp_ok h1.1 h2.1 h3.1, trivial⟩
  · rintro ⟨n, lo, hi⟩ w - -
    exact Clamp_calls n lo hi w
def cFull : Con where
  X := Int × Int
  args := fun ⟨t, d⟩ => [AI t, AI d]
  heap := fun _ => hp0
  pre := fun _ => True
  res := fun ⟨t, d⟩ => ABun (full t d)
  heap' := fun _ => hp0
  pure := true
  find := fun args _ => match args with
    | [.int _ t, .int _ d] => some (t, d)
    | _ => none
theorem cFull_ok : cFull.Ok Try.prog 81 := by
  refine con_of_calls Try.func81 (by decide) rfl cFull (fun _ => ⟨rfl, rfl⟩) (fun _ => rfl) ?_ ?_
  · rintro ⟨t, d⟩ - ⟨h1, h2, -⟩
    exact ⟨rfl, okABun.2 (full_ok h1.1 h2.1)⟩
  · rintro ⟨t, d⟩ w - -
    exact Full_calls t d w
def cSplit : Con where
  X := Bun × Int × Bool × Bool
  args := fun ⟨b, n, o, d⟩ => [ABun b, AI n, AB o, AB d]
  heap := fun _ => hp0
  pre := fun ⟨b, _⟩ => 0 ≤ b.c
  res := fun ⟨b, n, o, d⟩ => .tup [ABun (split b n o d).1, ABun (split b n o d).2]
  heap' := fun _ => hp0
  pure := true
  find := fun args _ => match args with
    | [.agg [.int _ c, .bool o', .bool h, .int _ d'], .int _ n, .bool o, .bool d] => some (⟨c, o', h, d'⟩, n, o, d)
    | _ => none
theorem cSplit_ok : cSplit.Ok Try.prog 87 := by
  refine con_of_calls Try.func87 (by decide) rfl cSplit (fun _ => ⟨rfl, rfl⟩) (fun _ => rfl) ?_ ?_
  · rintro ⟨b, n, o, d⟩ - ⟨h1, h2, -⟩
    have := split_ok (okABun.1 h1).1 (okABun.1 h1).2 h2.1 o d
    exact ⟨rfl, okABun.2 this.1, okABun.2 this.2, trivial⟩
  · rintro ⟨b, n, o, d⟩ w h -
    exact Split_calls b n o d h w
def cJoin : Con where
  X := Bun × Bun
  args := fun ⟨a, b⟩ => [ABun a, ABun b]
  heap := fun _ => hp0
  pre := fun _ => True
  res := fun ⟨a, b⟩ => ABun (join a b)
  heap' := fun _ => hp0
  pure := true
  find := fun args _ => match args with
    | [.agg [.int _ c, .bool o, .bool h, .int _ d], .agg [.int _ c', .bool o', .bool h', .int _ d']] => some (⟨c, o, h, d⟩, ⟨c', o', h', d'⟩)
    | _ => none
theorem cJoin_ok : cJoin.Ok Try.prog 85 := by
  refine con_of_calls Try.func85 (by decide) rfl cJoin (fun _ => ⟨rfl, rfl⟩) (fun _ => rfl) ?_ ?_
  · rintro ⟨a, b⟩ - ⟨h1, h2, -⟩
    exact ⟨rfl, okABun.2 (join_ok (okABun.1 h1) (okABun.1 h2))⟩
  · rintro ⟨a, b⟩ w - -
    exact Join_calls a b w
def crJoin : Con where
  X := Bun × Bun
  args := fun ⟨a, b⟩ => [ABun a, ABun b]
  heap := fun _ => hp0
  pre := fun _ => True
  res := fun ⟨a, b⟩ => ABun (rjoin a b)
  heap' := fun _ => hp0
  pure := true
  find := fun args _ => match args with
    | [.agg [.int _ c, .bool o, .bool h, .int _ d], .agg [.int _ c', .bool o', .bool h', .int _ d']] => some (⟨c, o, h, d⟩, ⟨c', o', h', d'⟩)
    | _ => none
theorem crJoin_ok : crJoin.Ok Try.prog 73 := by
  refine con_of_calls Try.func73 (by decide) rfl crJoin (fun _ => ⟨rfl, rfl⟩) (fun _ => rfl) ?_ ?_
  · rintro ⟨a, b⟩ - ⟨h1, h2, -⟩
    exact ⟨rfl, okABun.2 (rjoin_ok (okABun.1 h1) (okABun.1 h2))⟩
  · rintro ⟨a, b⟩ w - -
    exact rJoin_calls a b w
def crSplit : Con where
  X := Bun × Int × Bool × Bool
  args := fun ⟨b, n, o, d⟩ => [ABun b, AI n, AB o, AB d]
  heap := fun _ => hp0
  pre := fun _ => True
  res := fun ⟨b, n, o, d⟩ => .tup [ABun (rsplit b n o d).1, ABun (rsplit b n o d).2]
  heap' := fun _ => hp0
  pure := true
  find := fun args _ => match args with
    | [.agg [.int _ c, .bool o', .bool h, .int _ d'], .int _ n, .bool o, .bool d] => some (⟨c, o', h, d'⟩, n, o, d)
    | _ => none
theorem crSplit_ok : crSplit.Ok Try.prog 75 := by
  refine con_of_calls Try.func75 (by decide) rfl crSplit (fun _ => ⟨rfl, rfl⟩) (fun _ => rfl) ?_ ?_
  · rintro ⟨b, n, o, d⟩ - ⟨h1, h2, -⟩
    have := rsplit_ok (okABun.1 h1).1 (okABun.1 h1).2 h2.1 o d
    exact ⟨rfl, okABun.2 this.1, okABun.2 this.2, trivial⟩
  · rintro ⟨b, n, o, d⟩ w - -
    exact rSplit_calls b n o d w
end Go.Proofs.Ytipibgamajhgbaa

namespace Go.Proofs.Ytipibgamajhgbaa
open Go.RowKit
set_option linter.unusedVariables false
set_option linter.unusedSimpArgs false
def crClamp : Con where
  X := Int × Int × Int
  args := fun ⟨n, lo, hi⟩ => [AI n, AI lo, AI hi]
  heap := fun _ => hp0
  pre := fun _ => True
  res := fun ⟨n, lo, hi⟩ => AI (clamp n lo hi)
  heap' := fun _ => hp0
  pure := true
  find := fun args _ => match args with
    | [.int _ n, .int _ lo, .int _ hi] => some (n, lo, hi)
    | _ => none
theorem crClamp_ok : crClamp.Ok Try.prog 82 := by
  refine fun_ok (env_ok Cons.nil) mixedP Try.func82 (by decide) rfl crClamp [] (fun _ => rfl) (fun _ _ => ⟨rfl, fun id k h => by cases h⟩) (fun _ => Nat.le_of_ble_eq_true rfl) ?_
  rintro ⟨n, lo, hi⟩ - ha -
  all_goals (repeat' (first
    | with_reducible refine iTr ?_
    | with_reducible refine iB ?_
    | intro _
    | exact True.intro
    | (show _ ∧ _
       first
        | refine aTT ?_
        | refine aTB ?_
        | refine aT ?_
        | refine aB ?_
        | refine a11 ?_
        | refine a01 ?_
        | refine a00 ?_
        | refine a10 ?_
        | (with_reducible refine And.intro rfl ?_)
        | refine And.intro ?_ ?_)
    | with_reducible exact rfl
    | with_reducible exact HEq.rfl
    | (show (_ : Option Nat) = _; exact rfl)
    | (show (_ : Option Blk) = _; exact rfl)
    | (show (_ : Nat) = _; exact rfl)
    | (show (_ : Bool) = true; exact (Eq.refl true))))
  all_goals (first | (show (_ : Int) = _) | (show (_ : Bool) = _) | (show HEq _ _) | (show ∃ _ : LInv, _) | skip)
  all_goals (try (with_reducible exact rfl))
  all_goals (simp_all [clamp]; omega)
/-- The memory: an object, and the slice of its blocks. -/
def mH (ro : Bool) (xs : List Bun) : Heap := ⟨2, [(1, some (.seq ro 32 .bun xs)), (0, some (.obj true [.slc 1]))]⟩
def pM : AV := .ptr 0 ⟨0, 0, 0, none⟩
def seqB (H : Heap) (id : Nat) : Option (List Bun) := match H.get id with
  | some (.seq _ _ .bun xs) => some xs
  | _ => none
def findM (id : Nat) (H : Heap) : Option (List Bun) := match H.get id with
  | some (.obj _ [.slc s]) => seqB H s
  | _ => none
theorem mH_ro (xs : List Bun) : ∀ id k, (mH true xs).get id = some k → k.ro = true
  | 0, k, h => by cases h; rfl
  | 1, k, h => by cases h; rfl
  | _ + 2, k, h => by cases h
def inB (xs : List Bun) (i : Int) : Bool := decide (0 ≤ i) && decide (i < xs.length)
def getB (xs : List Bun) (i : Int) : Bun := if inB xs i then xs.getD i.toNat bun0 else bun0
def newB (b t : Int) : List Bun := List.replicate (clamp b 0 64).toNat (full t 0)
def putB (xs : List Bun) (i : Int) (b : Bun) : List Bun := if inB xs i then xs.set i.toNat (join (getB xs i) b) else xs
def takeB (xs : List Bun) (i n : Int) (o d : Bool) : Bun × List Bun := if inB xs i then ((split (getB xs i) n o d).1, xs.set i.toNat (split (getB xs i) n o d).2) else (bun0, xs)
def rputB (xs : List Bun) (i : Int) (b : Bun) : List Bun := if inB xs i then xs.set i.toNat (rjoin (getB xs i) b) else xs
def rtakeB (xs : List Bun) (i n : Int) (o d : Bool) : Bun × List Bun := if inB xs i then ((rsplit (getB xs i) n o d).1, xs.set i.toNat (rsplit (getB xs i) n o d).2) else (bun0, xs)
def slB (H : Heap) : AV → Option (List Bun)
  | .vsl .bun xs => some xs
  | .nils => some []
  | .slc id => seqB H id
  | _ => none
end Go.Proofs.Ytipibgamajhgbaa

namespace Go.Proofs.Ytipibgamajhgbaa
open Go.RowKit
set_option linter.unusedVariables false
set_option linter.unusedSimpArgs false
def cis : Con where
  X := List Bun × Int
  args := fun ⟨xs, i⟩ => [pM, AI i]
  heap := fun ⟨xs, i⟩ => mH true xs
  pre := fun ⟨xs, i⟩ => True
  res := fun ⟨xs, i⟩ => AB (inB xs i)
  heap' := fun ⟨xs, i⟩ => mH true xs
  pure := true
  find := fun args H => match args with
    | [.ptr id _, .int _ i] => (findM id H).map fun xs => (xs, i)
    | _ => none
set_option maxHeartbeats 4000000 in
theorem cis_ok : cis.Ok Try.prog 84 := by
  refine fun_ok (env_ok Cons.nil) mixedP Try.func84 (by decide) rfl cis [] (fun _ => rfl) (fun _ x => ⟨rfl, mH_ro x.1⟩) (fun _ => Nat.le_of_ble_eq_true rfl) ?_
  rintro ⟨xs, i⟩ hp ha hb
  all_goals (repeat' (first
    | with_reducible refine iTr ?_
    | with_reducible refine iB ?_
    | intro _
    | exact True.intro
    | (show _ ∧ _
       first
        | refine aTT ?_
        | refine aTB ?_
        | refine aT ?_
        | refine aB ?_
        | refine a11 ?_
        | refine a01 ?_
        | refine a00 ?_
        | refine a10 ?_
        | (with_reducible refine And.intro rfl ?_)
        | refine And.intro ?_ ?_)
    | with_reducible exact rfl
    | with_reducible exact HEq.rfl
    | (show (_ : Option Nat) = _; exact rfl)
    | (show (_ : Option Blk) = _; exact rfl)
    | (show (_ : Nat) = _; exact rfl)
    | (show (_ : Bool) = true; exact (Eq.refl true))))
  all_goals (first | (show (_ : Int) = _) | (show (_ : Bool) = _) | (show HEq _ _) | (show ∃ _ : LInv, _) | skip)
  all_goals (try (with_reducible exact rfl))
  all_goals (try apply heq_of_eq)
  all_goals (have hd : Ty.bun.dflt = bun0 := rfl)
  all_goals (first | (simp_all [inB, getB, putB, takeB, cis]; done) | (simp_all [inB, getB, putB, takeB, cis]; omega) | (have hx : inB xs i = false := (by simpa using ‹(!inB xs i) = true›); simp [getB, takeB, putB, hx, bun0]; done) | (have hx : inB xs i = true := (by simpa using ‹(!inB xs i) = false›); have hp2 : 0 ≤ (getB xs i).c := hp; show 0 ≤ (xs.getD i.toNat bun0).c; simpa [getB, hx] using hp2))
def cGet : Con where
  X := List Bun × Int
  args := fun ⟨xs, i⟩ => [pM, AI i]
  heap := fun ⟨xs, i⟩ => mH true xs
  pre := fun ⟨xs, i⟩ => True
  res := fun ⟨xs, i⟩ => ABun (getB xs i)
  heap' := fun ⟨xs, i⟩ => mH true xs
  pure := true
  find := fun args H => match args with
    | [.ptr id _, .int _ i] => (findM id H).map fun xs => (xs, i)
    | _ => none
set_option maxHeartbeats 4000000 in
theorem cGet_ok : cGet.Ok Try.prog 65 := by
  refine fun_ok (env_ok (Cons.cons cis_ok Cons.nil)) mixedP Try.func65 (by decide) rfl cGet [] (fun _ => rfl) (fun _ x => ⟨rfl, mH_ro x.1⟩) (fun _ => Nat.le_of_ble_eq_true rfl) ?_
  rintro ⟨xs, i⟩ hp ha hb
  all_goals (repeat' (first
    | with_reducible refine iTr ?_
    | with_reducible refine iB ?_
    | intro _
    | exact True.intro
    | (show _ ∧ _
       first
        | refine aTT ?_
        | refine aTB ?_
        | refine aT ?_
        | refine aB ?_
        | refine a11 ?_
        | refine a01 ?_
        | refine a00 ?_
        | refine a10 ?_
        | (with_reducible refine And.intro rfl ?_)
        | refine And.intro ?_ ?_)
    | with_reducible exact rfl
    | with_reducible exact HEq.rfl
    | (show (_ : Option Nat) = _; exact rfl)
    | (show (_ : Option Blk) = _; exact rfl)
    | (show (_ : Nat) = _; exact rfl)
    | (show (_ : Bool) = true; exact (Eq.refl true))))
  all_goals (first | (show (_ : Int) = _) | (show (_ : Bool) = _) | (show HEq _ _) | (show ∃ _ : LInv, _) | skip)
  all_goals (try (with_reducible exact rfl))
  all_goals (try apply heq_of_eq)
  all_goals (have hd : Ty.bun.dflt = bun0 := rfl)
  all_goals (first | (simp_all [inB, getB, putB, takeB, cGet]; done) | (simp_all [inB, getB, putB, takeB, cGet]; omega) | (have hx : inB xs i = false := (by simpa using ‹(!inB xs i) = true›); simp [getB, takeB, putB, hx, bun0]; done) | (have hx : inB xs i = true := (by simpa using ‹(!inB xs i) = false›); have hp2 : 0 ≤ (getB xs i).c := hp; show 0 ≤ (xs.getD i.toNat bun0).c; simpa [getB, hx] using hp2))
def cPut : Con where
  X := List Bun × Int × Bun
  args := fun ⟨xs, i, b⟩ => [pM, AI i, ABun b]
  heap := fun ⟨xs, i, b⟩ => mH false xs
  pre := fun ⟨xs, i, b⟩ => True
  res := fun ⟨xs, i, b⟩ => AB (inB xs i)
  heap' := fun ⟨xs, i, b⟩ => mH false (putB xs i b)
  pure := false
  find := fun args H => match args with
    | [.ptr id _, .int _ i, .agg [.int _ c, .bool o, .bool h, .int _ d]] => (findM id H).map fun xs => (xs, i, ⟨c, o, h, d⟩)
    | _ => none
set_option maxHeartbeats 4000000 in
theorem cPut_ok : cPut.Ok Try.prog 63 := by
  refine fun_ok (env_ok (Cons.cons cis_ok (Cons.cons cJoin_ok Cons.nil))) mixedP Try.func63 (by decide) rfl cPut [(3, 14)] (fun _ => rfl) (fun h => by cases h) (fun _ => Nat.le_of_ble_eq_true rfl) ?_
  rintro ⟨xs, i, b⟩ hp ha hb
  all_goals (repeat' (first
    | with_reducible refine iTr ?_
    | with_reducible refine iB ?_
    | intro _
    | exact True.intro
    | (show _ ∧ _
       first
        | refine aTT ?_
        | refine aTB ?_
        | refine aT ?_
        | refine aB ?_
        | refine a11 ?_
        | refine a01 ?_
        | refine a00 ?_
        | refine a10 ?_
        | (with_reducible refine And.intro rfl ?_)
        | refine And.intro ?_ ?_)
    | with_reducible exact rfl
    | with_reducible exact HEq.rfl
    | (show (_ : Option Nat) = _; exact rfl)
    | (show (_ : Option Blk) = _; exact rfl)
    | (show (_ : Nat) = _; exact rfl)
    | (show (_ : Bool) = true; exact (Eq.refl true))))
  all_goals (first | (show (_ : Int) = _) | (show (_ : Bool) = _) | (show HEq _ _) | (show ∃ _ : LInv, _) | skip)
  all_goals (try (with_reducible exact rfl))
  all_goals (try apply heq_of_eq)
  all_goals (have hd : Ty.bun.dflt = bun0 := rfl)
  all_goals (first | (simp_all [inB, getB, putB, takeB, cPut]; done) | (simp_all [inB, getB, putB, takeB, cPut]; omega) | (have hx : inB xs i = false := (by simpa using ‹(!inB xs i) = true›); simp [getB, takeB, putB, hx, bun0]; done) | (have hx : inB xs i = true := (by simpa using ‹(!inB xs i) = false›); have hp2 : 0 ≤ (getB xs i).c := hp; show 0 ≤ (xs.getD i.toNat bun0).c; simpa [getB, hx] using hp2))
def cTake : Con where
  X := List Bun × Int × Int × Bool × Bool
  args := fun ⟨xs, i, n, o, d⟩ => [pM, AI i, AI n, AB o, AB d]
  heap := fun ⟨xs, i, n, o, d⟩ => mH false xs
  pre := fun ⟨xs, i, n, o, d⟩ => 0 ≤ (getB xs i).c
  res := fun ⟨xs, i, n, o, d⟩ => ABun (takeB xs i n o d).1
  heap' := fun ⟨xs, i, n, o, d⟩ => mH false (takeB xs i n o d).2
  pure := false
  find := fun args H => match args with
    | [.ptr id _, .int _ i, .int _ n, .bool o, .bool d] => (findM id H).map fun xs => (xs, i, n, o, d)
    | _ => none
set_option maxHeartbeats 4000000 in
theorem cTake_ok : cTake.Ok Try.prog 66 := by
  refine fun_ok (env_ok (Cons.cons cis_ok (Cons.cons cSplit_ok Cons.nil))) mixedP Try.func66 (by decide) rfl cTake [(4, 6)] (fun _ => rfl) (fun h => by cases h) (fun _ => Nat.le_of_ble_eq_true rfl) ?_
  rintro ⟨xs, i, n, o, d⟩ hp ha hb
  all_goals (repeat' (first
    | with_reducible refine iTr ?_
    | with_reducible refine iB ?_
    | intro _
    | exact True.intro
    | (show _ ∧ _
       first
        | refine aTT ?_
        | refine aTB ?_
        | refine aT ?_
        | refine aB ?_
        | refine a11 ?_
        | refine a01 ?_
        | refine a00 ?_
        | refine a10 ?_
        | (with_reducible refine And.intro rfl ?_)
        | refine And.intro ?_ ?_)
    | with_reducible exact rfl
    | with_reducible exact HEq.rfl
    | (show (_ : Option Nat) = _; exact rfl)
    | (show (_ : Option Blk) = _; exact rfl)
    | (show (_ : Nat) = _; exact rfl)
    | (show (_ : Bool) = true; exact (Eq.refl true))))
  all_goals (first | (show (_ : Int) = _) | (show (_ : Bool) = _) | (show HEq _ _) | (show ∃ _ : LInv, _) | skip)
  all_goals (try (with_reducible exact rfl))
  all_goals (try apply heq_of_eq)
  all_goals (have hd : Ty.bun.dflt = bun0 := rfl)
  all_goals (first | (simp_all [inB, getB, putB, takeB, cTake]; done) | (simp_all [inB, getB, putB, takeB, cTake]; omega) | (have hx : inB xs i = false := (by simpa using ‹(!inB xs i) = true›); simp [getB, takeB, putB, hx, bun0]; done) | (have hx : inB xs i = true := (by simpa using ‹(!inB xs i) = false›); have hp2 : 0 ≤ (getB xs i).c := hp; show 0 ≤ (xs.getD i.toNat bun0).c; simpa [getB, hx] using hp2))
end Go.Proofs.Ytipibgamajhgbaa

namespace Go.Proofs.Ytipibgamajhgbaa
open Go.RowKit
set_option linter.unusedVariables false
set_option linter.unusedSimpArgs false
theorem rep_set {α : Type} {a z : α} {i n : Nat} (h : i < n) : (List.replicate i a ++ List.replicate (n - i) z).set i a = List.replicate (i + 1) a ++ List.replicate (n - (i + 1)) z := by
  rw [List.set_append_right _ _ (by simp), List.length_replicate, Nat.sub_self, show n - i = (n - (i + 1)) + 1 from by omega, List.replicate_succ, List.set_cons_zero, List.replicate_succ']
  simp
def cAll : Con where
  X := List Bun
  args := fun xs => [pM]
  heap := fun xs => mH true xs
  pre := fun xs => xs.length ≤ 64
  res := fun xs => .slc 2
  heap' := fun xs => ⟨3, [(2, some (.seq false 32 .bun xs)), (1, some (.seq true 32 .bun xs)), (0, some (.obj true [.slc 1]))]⟩
  pure := false
  find := fun args H => match args with
    | [.ptr id _] => findM id H
    | _ => none
set_option maxHeartbeats 4000000 in
theorem cAll_ok : cAll.Ok Try.prog 36 := by
  refine fun_ok (env_ok Cons.nil) mixedP Try.func36 (by decide) rfl cAll [] (fun _ => rfl) (fun h => by cases h) (fun _ => Nat.le_of_ble_eq_true rfl) ?_
  rintro (xs : List Bun) hp ha hb
  replace hp : xs.length ≤ 64 := hp
  all_goals (repeat' (first
    | with_reducible refine iTr ?_
    | with_reducible refine iB ?_
    | intro _
    | exact True.intro
    | (show _ ∧ _
       first
        | refine aTT ?_
        | refine aTB ?_
        | refine aT ?_
        | refine aB ?_
        | refine a11 ?_
        | refine a01 ?_
        | refine a00 ?_
        | refine a10 ?_
        | (with_reducible refine And.intro rfl ?_)
        | refine And.intro ?_ ?_)
    | with_reducible exact rfl
    | with_reducible exact HEq.rfl
    | (show (_ : Option Nat) = _; exact rfl)
    | (show (_ : Option Blk) = _; exact rfl)
    | (show (_ : Nat) = _; exact rfl)
    | (show (_ : Bool) = true; exact (Eq.refl true))))
  all_goals (first | (show (_ : Int) = _) | (show (_ : Bool) = _) | (show HEq _ _) | (show ∃ _ : LInv, _) | skip)
  all_goals (try (with_reducible exact rfl))
  all_goals (try exact HEq.refl xs)
  all_goals (try apply heq_of_eq)
  all_goals (first | exact hp | (simp; done) | (simp; omega) | omega)
def cCopy : Con where
  X := List Bun
  args := fun xs => [pM]
  heap := fun xs => mH true xs
  pre := fun xs => xs.length ≤ 64
  res := fun xs => .ptr 2 ⟨0, 0, 0, none⟩
  heap' := fun xs => ⟨4, [(3, some (.seq false 32 .bun xs)), (2, some (.obj false [.slc 3])), (1, some (.seq true 32 .bun xs)), (0, some (.obj true [.slc 1]))]⟩
  pure := false
  find := fun args H => match args with
    | [.ptr id _] => findM id H
    | _ => none
set_option maxHeartbeats 4000000 in
theorem cCopy_ok : cCopy.Ok Try.prog 50 := by
  refine fun_ok (env_ok (Cons.cons cAll_ok Cons.nil)) mixedP Try.func50 (by decide) rfl cCopy [] (fun _ => rfl) (fun h => by cases h) (fun _ => Nat.le_of_ble_eq_true rfl) ?_
  rintro (xs : List Bun) hp ha hb
  replace hp : xs.length ≤ 64 := hp
  all_goals (repeat' (first
    | with_reducible refine iTr ?_
    | with_reducible refine iB ?_
    | intro _
    | exact True.intro
    | (show _ ∧ _
       first
        | refine aTT ?_
        | refine aTB ?_
        | refine aT ?_
        | refine aB ?_
        | refine a11 ?_
        | refine a01 ?_
        | refine a00 ?_
        | refine a10 ?_
        | (with_reducible refine And.intro rfl ?_)
        | refine And.intro ?_ ?_)
    | with_reducible exact rfl
    | with_reducible exact HEq.rfl
    | (show (_ : Option Nat) = _; exact rfl)
    | (show (_ : Option Blk) = _; exact rfl)
    | (show (_ : Nat) = _; exact rfl)
    | (show (_ : Bool) = true; exact (Eq.refl true))))
  all_goals (first | (show (_ : Int) = _) | (show (_ : Bool) = _) | (show HEq _ _) | (show ∃ _ : LInv, _) | skip)
  all_goals (try (with_reducible exact rfl))
  all_goals (try exact HEq.refl xs)
  all_goals (try apply heq_of_eq)
  all_goals (first | exact hp | (simp; done) | (simp; omega) | omega)
def cNew : Con where
  X := Int × Int
  args := fun ⟨b, t⟩ => [AI b, AI t]
  heap := fun ⟨b, t⟩ => hp0
  pre := fun ⟨b, t⟩ => True
  res := fun ⟨b, t⟩ => pM
  heap' := fun ⟨b, t⟩ => ⟨2, [(1, some (.seq false 32 .bun (newB b t))), (0, some (.obj false [.slc 1]))]⟩
  pure := false
  find := fun args H => match args with
    | [.int _ b, .int _ t] => some (b, t)
    | _ => none
set_option maxHeartbeats 4000000 in
theorem cNew_ok : cNew.Ok Try.prog 53 := by
  refine fun_ok (env_ok (Cons.cons cClamp_ok (Cons.cons cFull_ok Cons.nil))) mixedP Try.func53 (by decide) rfl cNew [(5, 7)] (fun _ => rfl) (fun h => by cases h) (fun _ => Nat.le_of_ble_eq_true rfl) ?_
  rintro ⟨b, t⟩ hp ha hb
  obtain ⟨n, hn⟩ : ∃ n, n = (clamp b 0 64).toNat := ⟨_, rfl⟩
  have hc : 0 ≤ clamp b 0 64 ∧ clamp b 0 64 ≤ 64 := by unfold clamp; omega
  all_goals (repeat' (first
    | with_reducible refine iTr ?_
    | with_reducible refine iB ?_
    | intro _
    | exact True.intro
    | (show _ ∧ _
       first
        | refine aTT ?_
        | refine aTB ?_
        | refine aT ?_
        | refine aB ?_
        | refine a11 ?_
        | refine a01 ?_
        | refine a00 ?_
        | refine a10 ?_
        | (with_reducible refine And.intro rfl ?_)
        | refine And.intro ?_ ?_)
    | with_reducible exact rfl
    | with_reducible exact HEq.rfl
    | (show (_ : Option Nat) = _; exact rfl)
    | (show (_ : Option Blk) = _; exact rfl)
    | (show (_ : Nat) = _; exact rfl)
    | (show (_ : Bool) = true; exact (Eq.refl true))))
  all_goals (first | (show (_ : Int) = _) | (show (_ : Bool) = _) | (show HEq _ _) | (show ∃ _ : LInv, _) | skip)
  all_goals (try (with_reducible exact rfl))
  all_goals try (refine ⟨⟨{i : Nat // i ≤ n}, fun i => [(17, AI i.1), (16, AI n), (5, .ptr 1 ⟨0,0,0,none⟩), (1, AI t)], fun i => ⟨2, [(1, some (.obj false [.slc 0])), (0, some (.seq false 32 .bun (List.replicate i.1 (full t 0) ++ List.replicate (n - i.1) bun0)))]⟩, fun i => n - i.1⟩, ⟨⟨0, Nat.zero_le _⟩, [], ?_⟩, ?_⟩; rotate_right; rintro ⟨i, hi⟩)
  all_goals (repeat' (first
    | with_reducible refine iTr ?_
    | with_reducible refine iB ?_
    | intro _
    | exact True.intro
    | (show _ ∧ _
       first
        | refine aTT ?_
        | refine aTB ?_
        | refine aT ?_
        | refine aB ?_
        | refine a11 ?_
        | refine a01 ?_
        | refine a00 ?_
        | refine a10 ?_
        | (with_reducible refine And.intro rfl ?_)
        | refine And.intro ?_ ?_)
    | with_reducible exact rfl
    | with_reducible exact HEq.rfl
    | (show (_ : Option Nat) = _; exact rfl)
    | (show (_ : Option Blk) = _; exact rfl)
    | (show (_ : Nat) = _; exact rfl)
    | (show (_ : Bool) = true; exact (Eq.refl true))))
  all_goals (first | (show (_ : Int) = _) | (show (_ : Bool) = _) | (show HEq _ _) | (show ∃ _ : LInv, _) | skip)
  all_goals (try (with_reducible exact rfl))
  all_goals try (refine ⟨⟨i + 1, ?_⟩, ?_, ?_⟩)
  all_goals (repeat' (first
    | with_reducible refine iTr ?_
    | with_reducible refine iB ?_
    | intro _
    | exact True.intro
    | (show _ ∧ _
       first
        | refine aTT ?_
        | refine aTB ?_
        | refine aT ?_
        | refine aB ?_
        | refine a11 ?_
        | refine a01 ?_
        | refine a00 ?_
        | refine a10 ?_
        | (with_reducible refine And.intro rfl ?_)
        | refine And.intro ?_ ?_)
    | with_reducible exact rfl
    | with_reducible exact HEq.rfl
    | (show (_ : Option Nat) = _; exact rfl)
    | (show (_ : Option Blk) = _; exact rfl)
    | (show (_ : Nat) = _; exact rfl)
    | (show (_ : Bool) = true; exact (Eq.refl true))))
  all_goals (first | (show (_ : Int) = _) | (show (_ : Bool) = _) | (show HEq _ _) | (show ∃ _ : LInv, _) | skip)
  all_goals (try (with_reducible exact rfl))
  all_goals (try apply heq_of_eq)
  all_goals (try simp only [List.length_append, List.length_replicate, decide_eq_true_eq, decide_eq_false_iff_not] at *)
  all_goals (first | omega | exact hc.1 | (subst hn; rfl) | (subst hn; simp; done) | (subst hn; simp; omega) | (simp_all; omega) | (have h2 : i < n := (by first | omega | (simp_all; omega) | (simp_all; done)); rw [Int.toNat_natCast]; exact rep_set h2) | (have h2 : i < n := (by first | omega | (simp_all; omega) | (simp_all; done)); exact wrap_succ (by omega)) | (have h2 : i = n := (by omega); subst h2; unfold newB; rw [← hn, Nat.sub_self]; simp))
end Go.Proofs.Ytipibgamajhgbaa

namespace Go.Proofs.Ytipibgamajhgbaa
open Go.RowKit
set_option linter.unusedVariables false
set_option linter.unusedSimpArgs false
theorem bneB (a b : Bun) : (!(a.c == b.c && (a.o == b.o && (a.h == b.h && (a.d == b.d && true))))) = !decide (a = b) := by
  obtain ⟨c, o, h, d⟩ := a
  obtain ⟨c', o', h', d'⟩ := b
  simp only [Bun.mk.injEq, Bool.decide_and, Bool.and_true]
  rfl
theorem take_succ_eq {xs ys : List Bun} {i : Nat} {z : Bun} (hl : xs.length = ys.length) (hi : i < xs.length) (ht : xs.take i = ys.take i) (he : xs.getD i z = ys.getD i z) : xs.take (i + 1) = ys.take (i + 1) := by
  rw [List.take_add_one, List.take_add_one, ht, List.getElem?_eq_getElem hi, List.getElem?_eq_getElem (by omega)]
  rw [List.getD_eq_getElem?_getD, List.getD_eq_getElem?_getD, List.getElem?_eq_getElem hi, List.getElem?_eq_getElem (by omega)] at he
  simp at he
  simp [he]
def cSame : Con where
  X := List Bun × List Bun
  args := fun ⟨xs, ys⟩ => [.vsl .bun xs, .vsl .bun ys]
  heap := fun ⟨xs, ys⟩ => hp0
  pre := fun ⟨xs, ys⟩ => True
  res := fun ⟨xs, ys⟩ => AB (decide (xs = ys))
  heap' := fun ⟨xs, ys⟩ => hp0
  pure := true
  find := fun args H => match args with
    | [a, b] => (slB H a).bind fun xs => (slB H b).map fun ys => (xs, ys)
    | _ => none
set_option maxHeartbeats 4000000 in
theorem cSame_ok : cSame.Ok Try.prog 20 := by
  refine fun_ok (env_ok Cons.nil) mixedP Try.func20 (by decide) rfl cSame [(6, 8)] (fun _ => rfl) (fun _ _ => ⟨rfl, fun id k h => by cases h⟩) (fun _ => Nat.le_of_ble_eq_true rfl) ?_
  rintro ⟨xs, ys⟩ hp ha hb
  all_goals (repeat' (first
    | with_reducible refine iTr ?_
    | with_reducible refine iB ?_
    | intro _
    | exact True.intro
    | (show _ ∧ _
       first
        | refine aTT ?_
        | refine aTB ?_
        | refine aT ?_
        | refine aB ?_
        | refine a11 ?_
        | refine a01 ?_
        | refine a00 ?_
        | refine a10 ?_
        | (with_reducible refine And.intro rfl ?_)
        | refine And.intro ?_ ?_)
    | with_reducible exact rfl
    | with_reducible exact HEq.rfl
    | (show (_ : Option Nat) = _; exact rfl)
    | (show (_ : Option Blk) = _; exact rfl)
    | (show (_ : Nat) = _; exact rfl)
    | (show (_ : Bool) = true; exact (Eq.refl true))))
  all_goals (first | (show (_ : Int) = _) | (show (_ : Bool) = _) | (show HEq _ _) | (show ∃ _ : LInv, _) | skip)
  all_goals (try (with_reducible exact rfl))
  all_goals try (refine ⟨⟨{i : Nat // i ≤ xs.length ∧ xs.length = ys.length ∧ xs.take i = ys.take i}, fun i => [(5, AI i.1), (0, .vsl .bun xs), (1, .vsl .bun ys)], fun i => ⟨0, []⟩, fun i => xs.length - i.1⟩, ⟨⟨0, Nat.zero_le _, by simp_all; omega, rfl⟩, [], ?_⟩, ?_⟩; rotate_right; rintro ⟨i, hi, hl, ht⟩)
  all_goals (repeat' (first
    | with_reducible refine iTr ?_
    | with_reducible refine iB ?_
    | intro _
    | exact True.intro
    | (show _ ∧ _
       first
        | refine aTT ?_
        | refine aTB ?_
        | refine aT ?_
        | refine aB ?_
        | refine a11 ?_
        | refine a01 ?_
        | refine a00 ?_
        | refine a10 ?_
        | (with_reducible refine And.intro rfl ?_)
        | refine And.intro ?_ ?_)
    | with_reducible exact rfl
    | with_reducible exact HEq.rfl
    | (show (_ : Option Nat) = _; exact rfl)
    | (show (_ : Option Blk) = _; exact rfl)
    | (show (_ : Nat) = _; exact rfl)
    | (show (_ : Bool) = true; exact (Eq.refl true))))
  all_goals (first | (show (_ : Int) = _) | (show (_ : Bool) = _) | (show HEq _ _) | (show ∃ _ : LInv, _) | skip)
  all_goals (try (with_reducible exact rfl))
  all_goals try (refine ⟨⟨i + 1, ?_⟩, ?_, ?_⟩)
  all_goals (repeat' (first
    | with_reducible refine iTr ?_
    | with_reducible refine iB ?_
    | intro _
    | exact True.intro
    | (show _ ∧ _
       first
        | refine aTT ?_
        | refine aTB ?_
        | refine aT ?_
        | refine aB ?_
        | refine a11 ?_
        | refine a01 ?_
        | refine a00 ?_
        | refine a10 ?_
        | (with_reducible refine And.intro rfl ?_)
        | refine And.intro ?_ ?_)
    | with_reducible exact rfl
    | with_reducible exact HEq.rfl
    | (show (_ : Option Nat) = _; exact rfl)
    | (show (_ : Option Blk) = _; exact rfl)
    | (show (_ : Nat) = _; exact rfl)
    | (show (_ : Bool) = true; exact (Eq.refl true))))
  all_goals (first | (show (_ : Int) = _) | (show (_ : Bool) = _) | (show HEq _ _) | (show ∃ _ : LInv, _) | skip)
  all_goals (try (with_reducible exact rfl))
  all_goals (try simp only [bneB] at *)
  all_goals (try dsimp only at *)
  all_goals (try simp only [Int.toNat_natCast, decide_eq_true_eq, decide_eq_false_iff_not, bne_iff_ne, ne_eq, bne_eq_false_iff_eq, Int.natCast_inj, Bool.not_eq_true', Bool.not_eq_false'] at *)
  all_goals (first | omega | (refine (decide_eq_false (fun e => ?_)).symm; subst e; simp_all; done) | exact take_succ_eq (by omega) (by omega) (by assumption) (by assumption) | exact wrap_succ (by omega) | (refine (decide_eq_true ?_).symm; rw [List.take_of_length_le (by omega), List.take_of_length_le (by omega)] at ht; exact ht))
def crSet : Con where
  X := List Bun × Int × Bun
  args := fun ⟨xs, i, b⟩ => [.vsl .bun xs, AI i, ABun b]
  heap := fun ⟨xs, i, b⟩ => hp0
  pre := fun ⟨xs, i, b⟩ => inB xs i = true ∧ xs.length ≤ 64
  res := fun ⟨xs, i, b⟩ => .vsl .bun (xs.set i.toNat b)
  heap' := fun ⟨xs, i, b⟩ => hp0
  pure := true
  find := fun args H => match args with
    | [a, .int _ i, .agg [.int _ c, .bool o, .bool h, .int _ d]] => (slB H a).map fun xs => (xs, i, ⟨c, o, h, d⟩)
    | _ => none
set_option maxHeartbeats 4000000 in
theorem crSet_ok : crSet.Ok Try.prog 72 := by
  refine fun_ok (env_ok Cons.nil) mixedP Try.func72 (by decide) rfl crSet [] (fun _ => rfl) (fun _ _ => ⟨rfl, fun id k h => by cases h⟩) (fun _ => Nat.le_of_ble_eq_true rfl) ?_
  rintro ⟨xs, i, b⟩ hp ha hb
  all_goals (repeat' (first
    | with_reducible refine iTr ?_
    | with_reducible refine iB ?_
    | intro _
    | exact True.intro
    | (show _ ∧ _
       first
        | refine aTT ?_
        | refine aTB ?_
        | refine aT ?_
        | refine aB ?_
        | refine a11 ?_
        | refine a01 ?_
        | refine a00 ?_
        | refine a10 ?_
        | (with_reducible refine And.intro rfl ?_)
        | refine And.intro ?_ ?_)
    | with_reducible exact rfl
    | with_reducible exact HEq.rfl
    | (show (_ : Option Nat) = _; exact rfl)
    | (show (_ : Option Blk) = _; exact rfl)
    | (show (_ : Nat) = _; exact rfl)
    | (show (_ : Bool) = true; exact (Eq.refl true))))
  all_goals (first | (show (_ : Int) = _) | (show (_ : Bool) = _) | (show HEq _ _) | (show ∃ _ : LInv, _) | skip)
  all_goals (try (with_reducible exact rfl))
  all_goals (try apply heq_of_eq)
  all_goals (have hp2 : inB xs i = true ∧ xs.length ≤ 64 := hp)
  all_goals (clear hp ha hb)
  all_goals (first | (simp [inB] at hp2 ⊢; done) | (simp [inB] at hp2 ⊢; omega))
def crNew : Con where
  X := Int × Int
  args := fun ⟨b, t⟩ => [AI b, AI t]
  heap := fun ⟨b, t⟩ => hp0
  pre := fun ⟨b, t⟩ => True
  res := fun ⟨b, t⟩ => .vsl .bun (newB b t)
  heap' := fun ⟨b, t⟩ => hp0
  pure := true
  find := fun args H => match args with
    | [.int _ b, .int _ t] => some (b, t)
    | _ => none
set_option maxHeartbeats 4000000 in
theorem crNew_ok : crNew.Ok Try.prog 55 := by
  refine fun_ok (env_ok (Cons.cons crClamp_ok Cons.nil)) mixedP Try.func55 (by decide) rfl crNew [] (fun _ => rfl) (fun _ _ => ⟨rfl, fun id k h => by cases h⟩) (fun _ => Nat.le_of_ble_eq_true rfl) ?_
  rintro ⟨b, t⟩ hp ha hb
  obtain ⟨n, hn⟩ : ∃ n, n = (clamp b 0 64).toNat := ⟨_, rfl⟩
  have hc : 0 ≤ clamp b 0 64 ∧ clamp b 0 64 ≤ 64 := by unfold clamp; omega
  all_goals (repeat' (first
    | with_reducible refine iTr ?_
    | with_reducible refine iB ?_
    | intro _
    | exact True.intro
    | (show _ ∧ _
       first
        | refine aTT ?_
        | refine aTB ?_
        | refine aT ?_
        | refine aB ?_
        | refine a11 ?_
        | refine a01 ?_
        | refine a00 ?_
        | refine a10 ?_
        | (with_reducible refine And.intro rfl ?_)
        | refine And.intro ?_ ?_)
    | with_reducible exact rfl
    | with_reducible exact HEq.rfl
    | (show (_ : Option Nat) = _; exact rfl)
    | (show (_ : Option Blk) = _; exact rfl)
    | (show (_ : Nat) = _; exact rfl)
    | (show (_ : Bool) = true; exact (Eq.refl true))))
  all_goals (first | (show (_ : Int) = _) | (show (_ : Bool) = _) | (show HEq _ _) | (show ∃ _ : LInv, _) | skip)
  all_goals (try (with_reducible exact rfl))
  all_goals try (refine ⟨⟨{i : Nat // i ≤ n}, fun i => [(6, AI i.1), (0, AI b), (5, .slc 0), (1, AI t)], fun i => ⟨1, [(0, some (.seq false 32 .bun (List.replicate i.1 (full t 0))))]⟩, fun i => n - i.1⟩, ⟨⟨0, Nat.zero_le _⟩, [], ?_⟩, ?_⟩; rotate_right; rintro ⟨i, hi⟩)
  all_goals (repeat' (first
    | with_reducible refine iTr ?_
    | with_reducible refine iB ?_
    | intro _
    | exact True.intro
    | (show _ ∧ _
       first
        | refine aTT ?_
        | refine aTB ?_
        | refine aT ?_
        | refine aB ?_
        | refine a11 ?_
        | refine a01 ?_
        | refine a00 ?_
        | refine a10 ?_
        | (with_reducible refine And.intro rfl ?_)
        | refine And.intro ?_ ?_)
    | with_reducible exact rfl
    | with_reducible exact HEq.rfl
    | (show (_ : Option Nat) = _; exact rfl)
    | (show (_ : Option Blk) = _; exact rfl)
    | (show (_ : Nat) = _; exact rfl)
    | (show (_ : Bool) = true; exact (Eq.refl true))))
  all_goals (first | (show (_ : Int) = _) | (show (_ : Bool) = _) | (show HEq _ _) | (show ∃ _ : LInv, _) | skip)
  all_goals (try (with_reducible exact rfl))
  all_goals try (refine ⟨⟨i + 1, ?_⟩, ?_, ?_⟩)
  all_goals (repeat' (first
    | with_reducible refine iTr ?_
    | with_reducible refine iB ?_
    | intro _
    | exact True.intro
    | (show _ ∧ _
       first
        | refine aTT ?_
        | refine aTB ?_
        | refine aT ?_
        | refine aB ?_
        | refine a11 ?_
        | refine a01 ?_
        | refine a00 ?_
        | refine a10 ?_
        | (with_reducible refine And.intro rfl ?_)
        | refine And.intro ?_ ?_)
    | with_reducible exact rfl
    | with_reducible exact HEq.rfl
    | (show (_ : Option Nat) = _; exact rfl)
    | (show (_ : Option Blk) = _; exact rfl)
    | (show (_ : Nat) = _; exact rfl)
    | (show (_ : Bool) = true; exact (Eq.refl true))))
  all_goals (first | (show (_ : Int) = _) | (show (_ : Bool) = _) | (show HEq _ _) | (show ∃ _ : LInv, _) | skip)
  all_goals (try (with_reducible exact rfl))
  all_goals (try apply heq_of_eq)
  all_goals (try dsimp only at *)
  all_goals (try simp only [decide_eq_true_eq, decide_eq_false_iff_not] at *)
  all_goals (first | omega | exact hc.1 | exact wrap_succ (by omega) | (simp; omega) | (simp; done) | (rw [List.replicate_succ']; simp_all [full, bun0]; done) | (have h2 : i = n := (by omega); subst h2; unfold newB; rw [← hn]))
end Go.Proofs.Ytipibgamajhgbaa

namespace Go.Proofs.Ytipibgamajhgbaa
open Go.RowKit
set_option linter.unusedVariables false
set_option linter.unusedSimpArgs false
def crTake : Con where
  X := List Bun × Int × Int × Bool × Bool
  args := fun ⟨xs, i, n, o, d⟩ => [.vsl .bun xs, AI i, AI n, AB o, AB d]
  heap := fun ⟨xs, i, n, o, d⟩ => hp0
  pre := fun ⟨xs, i, n, o, d⟩ => xs.length ≤ 64
  res := fun ⟨xs, i, n, o, d⟩ => .tup [ABun (rtakeB xs i n o d).1, .vsl .bun (rtakeB xs i n o d).2]
  heap' := fun ⟨xs, i, n, o, d⟩ => hp0
  pure := true
  find := fun args H => match args with
    | [a, .int _ i, .int _ n, .bool o, .bool d] => (slB H a).map fun xs => (xs, i, n, o, d)
    | _ => none
set_option maxHeartbeats 4000000 in
theorem crTake_ok : crTake.Ok Try.prog 41 := by
  refine fun_ok (env_ok (Cons.cons crSet_ok (Cons.cons crSplit_ok Cons.nil))) mixedP Try.func41 (by decide) rfl crTake [(4, 5)] (fun _ => rfl) (fun _ _ => ⟨rfl, fun id k h => by cases h⟩) (fun _ => Nat.le_of_ble_eq_true rfl) ?_
  rintro ⟨xs, i, n, o, d⟩ hp ha hb
  all_goals (repeat' (first
    | with_reducible refine iTr ?_
    | with_reducible refine iB ?_
    | intro _
    | exact True.intro
    | (show _ ∧ _
       first
        | refine aTT ?_
        | refine aTB ?_
        | refine aT ?_
        | refine aB ?_
        | refine a11 ?_
        | refine a01 ?_
        | refine a00 ?_
        | refine a10 ?_
        | (with_reducible refine And.intro rfl ?_)
        | refine And.intro ?_ ?_)
    | with_reducible exact rfl
    | with_reducible exact HEq.rfl
    | (show (_ : Option Nat) = _; exact rfl)
    | (show (_ : Option Blk) = _; exact rfl)
    | (show (_ : Nat) = _; exact rfl)
    | (show (_ : Bool) = true; exact (Eq.refl true))))
  all_goals (first | (show (_ : Int) = _) | (show (_ : Bool) = _) | (show HEq _ _) | (show ∃ _ : LInv, _) | skip)
  all_goals (try (with_reducible exact rfl))
  all_goals (first | (have hp2 : xs.length ≤ 64 := hp) | skip)
  all_goals (clear hp ha hb)
  all_goals (try apply heq_of_eq)
  all_goals (have hd : Ty.bun.dflt = bun0 := rfl)
  all_goals (first | (simp_all [inB, getB, rputB, rtakeB, crTake, crSet]; done) | (simp_all [inB, getB, rputB, rtakeB, crTake, crSet]; omega) | (have hx : inB xs i = false := (by first | (unfold inB; simp_all; omega) | (unfold inB; simp_all; done)); simp [rtakeB, rputB, hx, bun0]; done))
def crPut : Con where
  X := List Bun × Int × Bun
  args := fun ⟨xs, i, b⟩ => [.vsl .bun xs, AI i, ABun b]
  heap := fun ⟨xs, i, b⟩ => hp0
  pre := fun ⟨xs, i, b⟩ => xs.length ≤ 64
  res := fun ⟨xs, i, b⟩ => .tup [.vsl .bun (rputB xs i b), AB (inB xs i)]
  heap' := fun ⟨xs, i, b⟩ => hp0
  pure := true
  find := fun args H => match args with
    | [a, .int _ i, .agg [.int _ c, .bool o, .bool h, .int _ d]] => (slB H a).map fun xs => (xs, i, ⟨c, o, h, d⟩)
    | _ => none
set_option maxHeartbeats 4000000 in
theorem crPut_ok : crPut.Ok Try.prog 39 := by
  refine fun_ok (env_ok (Cons.cons crSet_ok (Cons.cons crJoin_ok Cons.nil))) mixedP Try.func39 (by decide) rfl crPut [(3, 9)] (fun _ => rfl) (fun _ _ => ⟨rfl, fun id k h => by cases h⟩) (fun _ => Nat.le_of_ble_eq_true rfl) ?_
  rintro ⟨xs, i, b⟩ hp ha hb
  all_goals (repeat' (first
    | with_reducible refine iTr ?_
    | with_reducible refine iB ?_
    | intro _
    | exact True.intro
    | (show _ ∧ _
       first
        | refine aTT ?_
        | refine aTB ?_
        | refine aT ?_
        | refine aB ?_
        | refine a11 ?_
        | refine a01 ?_
        | refine a00 ?_
        | refine a10 ?_
        | (with_reducible refine And.intro rfl ?_)
        | refine And.intro ?_ ?_)
    | with_reducible exact rfl
    | with_reducible exact HEq.rfl
    | (show (_ : Option Nat) = _; exact rfl)
    | (show (_ : Option Blk) = _; exact rfl)
    | (show (_ : Nat) = _; exact rfl)
    | (show (_ : Bool) = true; exact (Eq.refl true))))
  all_goals (first | (show (_ : Int) = _) | (show (_ : Bool) = _) | (show HEq _ _) | (show ∃ _ : LInv, _) | skip)
  all_goals (try (with_reducible exact rfl))
  all_goals (first | (have hp2 : xs.length ≤ 64 := hp) | skip)
  all_goals (clear hp ha hb)
  all_goals (try apply heq_of_eq)
  all_goals (have hd : Ty.bun.dflt = bun0 := rfl)
  all_goals (first | (simp_all [inB, getB, rputB, rtakeB, crPut, crSet]; done) | (simp_all [inB, getB, rputB, rtakeB, crPut, crSet]; omega) | (have hx : inB xs i = false := (by first | (unfold inB; simp_all; omega) | (unfold inB; simp_all; done)); simp [rtakeB, rputB, hx, bun0]; done))
end Go.Proofs.Ytipibgamajhgbaa

namespace Go.Proofs.Ytipibgamajhgbaa
open Go.RowKit
set_option linter.unusedVariables false
set_option linter.unusedSimpArgs false
theorem bneB' (a b : Bun) : (a.c == b.c && (a.o == b.o && (a.h == b.h && (a.d == b.d && true)))) = decide (a = b) := by
  obtain ⟨c, o, h, d⟩ := a
  obtain ⟨c', o', h', d'⟩ := b
  simp only [Bun.mk.injEq, Bool.decide_and, Bool.and_true]
  rfl
theorem inB_iff {xs : List Bun} {i : Int} : inB xs i = true ↔ 0 ≤ i ∧ i < xs.length := by simp [inB]
theorem len_put (xs : List Bun) (i : Int) (b : Bun) : (putB xs i b).length = xs.length := by unfold putB; split <;> simp
theorem len_take (xs : List Bun) (i n : Int) (o d : Bool) : (takeB xs i n o d).2.length = xs.length := by unfold takeB; split <;> simp
theorem len_new (s t : Int) : (newB s t).length = (clamp s 0 64).toNat := by simp [newB]
theorem len_new64 (s t : Int) : (newB s t).length ≤ 64 := by rw [len_new]; unfold clamp; omega
theorem inB_put (xs : List Bun) (i : Int) (b : Bun) (j : Int) : inB (putB xs i b) j = inB xs j := by unfold inB; rw [len_put]
theorem inB_take (xs : List Bun) (i n : Int) (o d : Bool) (j : Int) : inB (takeB xs i n o d).2 j = inB xs j := by unfold inB; rw [len_take]
theorem take_out {xs : List Bun} {i : Int} (h : inB xs i = false) (n : Int) (o d : Bool) : takeB xs i n o d = (bun0, xs) := by simp [takeB, h]
theorem put_out {xs : List Bun} {i : Int} (h : inB xs i = false) (b : Bun) : putB xs i b = xs := by simp [putB, h]
theorem get_out {xs : List Bun} {i : Int} (h : inB xs i = false) : getB xs i = bun0 := by simp [getB, h]
theorem get_set {xs : List Bun} {i j : Int} (h : inB xs i = true) (v : Bun) : getB (xs.set i.toNat v) j = if j = i then v else getB xs j := by
  rw [inB_iff] at h
  by_cases hj : inB xs j = true
  · have hj2 : inB (xs.set i.toNat v) j = true := by rw [inB_iff] at hj ⊢; simpa using hj
    rw [inB_iff] at hj
    by_cases e : j = i
    · subst e
      rw [if_pos rfl]
      unfold getB
      rw [if_pos hj2, List.getD_eq_getElem?_getD, List.getElem?_set_self (by omega)]
      rfl
    · rw [if_neg e]
      unfold getB
      rw [if_pos hj2, if_pos (inB_iff.2 hj), List.getD_eq_getElem?_getD, List.getElem?_set_ne (by omega), ← List.getD_eq_getElem?_getD]
  · have hj2 : ¬ inB (xs.set i.toNat v) j = true := by rw [inB_iff] at hj ⊢; simpa using hj
    have : j ≠ i := fun e => hj (by rw [e]; exact inB_iff.2 h)
    rw [if_neg this]
    unfold getB
    rw [if_neg hj2, if_neg hj]
theorem get_put {xs : List Bun} {i j : Int} (b : Bun) : getB (putB xs i b) j = if inB xs i = true ∧ j = i then join (getB xs j) b else getB xs j := by
  unfold putB
  by_cases h : inB xs i = true
  · rw [if_pos h, get_set h]
    by_cases e : j = i
    · subst e; simp [h]
    · simp [e]
  · simp [h]
theorem get_take {xs : List Bun} {i j n : Int} {o d : Bool} : getB (takeB xs i n o d).2 j = if inB xs i = true ∧ j = i then (split (getB xs j) n o d).2 else getB xs j := by
  unfold takeB
  by_cases h : inB xs i = true
  · rw [if_pos h]
    simp only []
    rw [get_set h]
    by_cases e : j = i
    · subst e; simp [h]
    · simp [e]
  · simp [h]
theorem get_new {s t i : Int} : getB (newB s t) i = if inB (newB s t) i = true then full t 0 else bun0 := by
  unfold getB
  by_cases h : inB (newB s t) i = true
  · rw [if_pos h, if_pos h]
    have h2 := inB_iff.1 h
    rw [len_new] at h2
    unfold newB
    rw [List.getD_eq_getElem?_getD, List.getElem?_replicate, if_pos (by omega)]
    rfl
  · rw [if_neg h, if_neg h]
theorem full_nn (t d : Int) : 0 ≤ (full t d).c := by
  unfold full
  split
  · simp [bun0]
  · show 0 ≤ t
    omega
theorem new_nn (s t i : Int) : 0 ≤ (getB (newB s t) i).c := by
  rw [get_new]
  split
  · exact full_nn t 0
  · simp [bun0]
theorem split_cnt {b : Bun} (h0 : 0 ≤ b.c) (h1 : b.c ≤ 1099511627776) (n : Int) (o d : Bool) : (split b n o d).1.c + (split b n o d).2.c = b.c ∧ 0 ≤ (split b n o d).1.c ∧ 0 ≤ (split b n o d).2.c := by
  have hc : 0 ≤ clamp n 0 (max b.c 0) ∧ clamp n 0 (max b.c 0) ≤ b.c := by unfold clamp; omega
  unfold split splitW
  simp only []
  generalize hnn : (if (b.o && !(o && b.o && decide (0 < clamp n 0 (max b.c 0)))) = true then min (clamp n 0 (max b.c 0)) (wrap64 (b.c - 1)) else clamp n 0 (max b.c 0)) = nn
  have hk : nn ≤ b.c := by
    rw [← hnn]
    split <;> omega
  split
  · exact ⟨by simp [bun0], by simp [bun0], h0⟩
  · rename_i hx
    by_cases hy : nn < b.c
    · rw [if_pos hy]
      have : wrap64 (b.c - nn) = b.c - nn := by unfold wrap64; omega
      simp only [valued, this]
      omega
    · rw [if_neg hy]
      simp only [valued, bun0]
      omega
/-- What stays true of the memory's list. -/
def inv (L : Nat) (k : Nat) (xs : List Bun) : Prop := xs.length = L ∧ L ≤ 64 ∧ ∀ j, 0 ≤ (getB xs j).c ∧ (getB xs j).c ≤ (k + 1) * 1048576
theorem inv_new {s t : Int} (ht : t ≤ 1048576) : inv (newB s t).length 0 (newB s t) := by
  refine ⟨rfl, len_new64 s t, fun j => ⟨new_nn s t j, ?_⟩⟩
  rw [get_new]
  split
  · unfold full
    split
    · simp [bun0]
    · simpa using ht
  · simp [bun0]
theorem inv_put {L k : Nat} {xs : List Bun} (h : inv L k xs) (hk : k ≤ 1000) {b : Bun} (h0 : 0 ≤ b.c) (h1 : b.c ≤ 1048576) (i : Int) : inv L (k + 1) (putB xs i b) ∧ ∀ j, (getB (putB xs i b) j).c = (getB xs j).c + if inB xs i = true ∧ j = i then b.c else 0 := by
  have hc : ∀ j, (getB (putB xs i b) j).c = (getB xs j).c + if inB xs i = true ∧ j = i then b.c else 0 := fun j => by
    rw [get_put]
    by_cases e : inB xs i = true ∧ j = i
    · rw [if_pos e, if_pos e]
      have := h.2.2 j
      show wrap64 ((getB xs j).c + b.c) = _
      unfold wrap64
      omega
    · rw [if_neg e, if_neg e]; omega
  refine ⟨⟨by rw [len_put]; exact h.1, h.2.1, fun j => ?_⟩, hc⟩
  rw [hc]
  have := h.2.2 j
  split <;> (push_cast; omega)
theorem inv_take {L k : Nat} {xs : List Bun} (h : inv L k xs) (hk : k ≤ 1000) (i n : Int) (o d : Bool) : inv L k (takeB xs i n o d).2 ∧ (∀ j, (getB (takeB xs i n o d).2 j).c = (getB xs j).c - if j = i then (takeB xs i n o d).1.c else 0) ∧ 0 ≤ (takeB xs i n o d).1.c ∧ (takeB xs i n o d).1.c ≤ (k + 1) * 1048576 := by
  have hi := h.2.2 i
  have hs := split_cnt hi.1 (by omega) n o d
  have h1 : (takeB xs i n o d).1.c = if inB xs i = true then (split (getB xs i) n o d).1.c else 0 := by
    unfold takeB
    split <;> simp [bun0, *]
  have hc : ∀ j, (getB (takeB xs i n o d).2 j).c = (getB xs j).c - if j = i then (takeB xs i n o d).1.c else 0 := fun j => by
    rw [get_take, h1]
    by_cases e : j = i
    · subst e
      by_cases hx : inB xs j = true
      · simp only [hx, and_self, if_true]; omega
      · simp [hx]
    · simp [e]
  have h2 : 0 ≤ (takeB xs i n o d).1.c ∧ (takeB xs i n o d).1.c ≤ (getB xs i).c := by
    rw [h1]
    split
    · omega
    · exact ⟨by omega, hi.1⟩
  refine ⟨⟨by rw [len_take]; exact h.1, h.2.1, fun j => ?_⟩, hc, h2.1, by omega⟩
  rw [hc]
  have := h.2.2 j
  by_cases e : j = i
  · subst e; simp only [if_true]; omega
  · rw [if_neg e]; omega
theorem right_cnt {b : Bun} {t : Int} (h : bcheck b t = 0) : 0 ≤ b.c ∧ b.c ≤ t := by
  obtain ⟨c, o, hs, d⟩ := b
  exact ((right_iff c o hs d t).1 h).1
abbrev F5 : Bun := ⟨5, true, true, 0⟩
theorem split5 (n : Int) (o d : Bool) : ∃ n0, split F5 n o d = splitW F5 n0 o d ∧ (n0 = 0 ∨ n0 = 1 ∨ n0 = 2 ∨ n0 = 3 ∨ n0 = 4 ∨ n0 = 5) := ⟨clamp n 0 5, rfl, by unfold clamp; omega⟩
theorem join5 (n : Int) (o d : Bool) : join (split F5 n o d).2 (split F5 n o d).1 = F5 := by
  obtain ⟨n0, e, h⟩ := split5 n o d
  rw [e]
  rcases h with rfl | rfl | rfl | rfl | rfl | rfl <;> cases o <;> cases d <;> decide +kernel
theorem rsplit5 (n : Int) (o d : Bool) : rsplit F5 n o d = split F5 n o d := rsplit_split (by decide) (by decide) n o d
theorem back_put (b c : Int) (p q : Bool) : putB (takeB (newB 3 5) b c p q).2 b (takeB (newB 3 5) b c p q).1 = newB 3 5 := by
  by_cases h : inB (newB 3 5) b = true
  · have h3 : b = 0 ∨ b = 1 ∨ b = 2 := by
      rw [inB_iff] at h
      have : (newB 3 5).length = 3 := by decide
      omega
    have hj := join5 c p q
    rcases h3 with rfl | rfl | rfl
    · show [join (split F5 c p q).2 (split F5 c p q).1, F5, F5] = [F5, F5, F5]
      rw [hj]
    · show [F5, join (split F5 c p q).2 (split F5 c p q).1, F5] = [F5, F5, F5]
      rw [hj]
    · show [F5, F5, join (split F5 c p q).2 (split F5 c p q).1] = [F5, F5, F5]
      rw [hj]
  · have h' : inB (newB 3 5) b = false := by simpa using h
    rw [take_out h', put_out h']
theorem in35 (b : Int) : inB (newB 3 5) b = (decide (0 ≤ b) && decide (b < 3)) := by
  unfold inB
  rw [show (newB 3 5).length = 3 from by decide]
  rfl
theorem in45 (b : Int) : inB (newB 4 5) b = (decide (0 ≤ b) && decide (b < 4)) := by
  unfold inB
  rw [show (newB 4 5).length = 4 from by decide]
  rfl
theorem get45 {y : Int} (h0 : 0 ≤ y) (h1 : y ≤ 3) : getB (newB 4 5) y = F5 := by
  rw [get_new, if_pos (by rw [in45]; simp; omega)]
  rfl
theorem takes1 {x c : Int} {p q : Bool} (h0 : 0 ≤ x) (h1 : x ≤ 3) : (takeB (newB 4 5) x c p q).1 = (rsplit F5 c p q).1 ∧ getB (takeB (newB 4 5) x c p q).2 x = (rsplit F5 c p q).2 := by
  have hin : inB (newB 4 5) x = true := by rw [in45]; simp; omega
  refine ⟨?_, ?_⟩
  · unfold takeB
    rw [if_pos hin, get45 h0 h1, rsplit5]
  · rw [get_take, if_pos ⟨hin, rfl⟩, get45 h0 h1, rsplit5]
theorem takes2 {x y c : Int} {p q : Bool} (h : y ≠ x) (h0 : 0 ≤ y) (h1 : y ≤ 3) : getB (takeB (newB 4 5) x c p q).2 y = F5 := by
  rw [get_take, if_neg (fun e => h e.2), get45 h0 h1]
theorem takes0 {x c : Int} {p q : Bool} (h : x < 0 ∨ 3 < x) : (takeB (newB 4 5) x c p q).1 = bun0 := by
  rw [take_out (by rw [in45]; simp; omega)]
end Go.Proofs.Ytipibgamajhgbaa
