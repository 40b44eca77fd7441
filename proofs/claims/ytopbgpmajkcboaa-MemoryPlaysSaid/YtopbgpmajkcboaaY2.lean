/- The contracts of the plain functions that the memory reaches. No condition. -/
import Derived.Test.YtopbgpmajkcboaaY1
import Derived.Test.YtopbgpmajkcboaaC02r
import Derived.Test.YtopbgpmajkcboaaC02j
import Derived.Test.YtopbgpmajkcboaaP02
namespace Go.Proofs.Ytopbgpmajkcboaa
open Go.RowKit
set_option linter.unusedVariables false
set_option linter.unusedSimpArgs false
abbrev AI (n : Int) : AV := .int .i64 n
abbrev AB (b : Bool) : AV := .bool b
abbrev ABun (b : Bun) : AV := .agg [.int .i64 b.c, .bool b.o, .bool b.h, .int .i64 b.d]
theorem wrap_i64 (n : Int) : IntKind.i64.wrap n = wrap64 n := by
  simp only [IntKind.wrap, IntKind.bits, IntKind.signed, wrap64]
  simp
  omega
theorem wrap_succ {i : Nat} (h : i < 9223372036854775807) : IntKind.i64.wrap (↑i + 1) = ↑(i + 1) := by
  rw [wrap_i64]
  unfold wrap64
  omega
theorem wrap64_okI (n : Int) : okI (wrap64 n) := by unfold okI wrap64; omega
theorem okABun {b : Bun} : okA (ABun b) ↔ okI b.c ∧ okI b.d := by simp [okA, okLs, okN]
theorem full_ok {t d : Int} (h1 : okI t) (h2 : okI d) : okI (full t d).c ∧ okI (full t d).d := by
  unfold full
  split
  · simp [bun0, okI]
  · exact ⟨h1, h2⟩
theorem valued_ok' {c : Int} {o h : Bool} {d : Int} (h1 : okI c) (h2 : okI d) : okI (valued c o h d).c ∧ okI (valued c o h d).d := by
  refine ⟨h1, ?_⟩
  unfold valued
  cases h <;> simp [okI, h2] <;> exact h2
theorem clamp_ok {n lo hi : Int} (h1 : okI n) (h2 : okI lo) (h3 : okI hi) : okI (clamp n lo hi) := by
  unfold clamp okI at *
  omega
theorem split_ok {b : Bun} (h1 : okI b.c) (h2 : okI b.d) {n : Int} (hn : okI n) (o d : Bool) : (okI (split b n o d).1.c ∧ okI (split b n o d).1.d) ∧ okI (split b n o d).2.c ∧ okI (split b n o d).2.d := by
  have hc : okI (clamp n 0 (max b.c 0)) := clamp_ok hn (by simp [okI]) (by unfold okI at *; omega)
  have hw := wrap64_okI (b.c - 1)
  have h0 : okI bun0.c ∧ okI bun0.d := by simp [bun0, okI]
  unfold split splitW
  simp only []
  generalize hnn : (if (b.o && !(o && b.o && decide (0 < clamp n 0 (max b.c 0)))) = true then min (clamp n 0 (max b.c 0)) (wrap64 (b.c - 1)) else clamp n 0 (max b.c 0)) = nn
  have hk : okI nn := by
    rw [← hnn]
    split
    · unfold okI at *; omega
    · exact hc
  split
  · exact ⟨h0, h1, h2⟩
  · refine ⟨valued_ok' hk h2, ?_⟩
    split
    · exact valued_ok' (wrap64_okI _) h2
    · exact h0
theorem join_ok {a b : Bun} (h1 : okI a.c ∧ okI a.d) (h2 : okI b.c ∧ okI b.d) : okI (join a b).c ∧ okI (join a b).d := by
  refine valued_ok' (wrap64_okI _) ?_
  split
  · exact h2.2
  · exact h1.2
theorem rjoin_ok {a b : Bun} (h1 : okI a.c ∧ okI a.d) (h2 : okI b.c ∧ okI b.d) : okI (rjoin a b).c ∧ okI (rjoin a b).d := by
  refine ⟨wrap64_okI _, ?_⟩
  unfold rjoin
  simp only []
  split
  · exact h2.2
  · exact h1.2
theorem rsplit_ok {b : Bun} (h1 : okI b.c) (h2 : okI b.d) {n : Int} (hn : okI n) (o d : Bool) : (okI (rsplit b n o d).1.c ∧ okI (rsplit b n o d).1.d) ∧ okI (rsplit b n o d).2.c ∧ okI (rsplit b n o d).2.d := by
  have h0 : okI bun0.c ∧ okI bun0.d := by simp [bun0, okI]
  have hw := wrap64_okI
  have hk : okI (rsplitN b n o).1 := by
    unfold rsplitN
    simp only []
    have := hw ((if b.c < (if n < 0 then 0 else n) then b.c else (if n < 0 then 0 else n)) - 1)
    repeat' split
    all_goals first | exact this | exact hw _ | (unfold okI at *; simp only []; omega)
  unfold rsplit
  simp only []
  split
  · exact ⟨h0, h1, h2⟩
  · refine ⟨⟨hk, ?_⟩, ?_⟩
    · simp only []
      split
      · exact h2
      · simp [okI]
    · simp only []
      by_cases hx : (rsplitN b n o).fst = b.c
      · rw [if_pos hx]; exact h0
      · rw [if_neg hx]; exact ⟨hw _, h2⟩
def cClamp : Con where
  X := Int × Int × Int
  args := fun ⟨n, lo, hi⟩ => [AI n, AI lo, AI hi]
  heap := fun _ => hp0
  pre := fun _ => True
  res := fun ⟨n, lo, hi⟩ => AI (clamp n lo hi)
  heap' := fun _ => hp0
  pure := true
  find := fun args _ => match args with
    | [.int _ n, .int _ lo, .int _ hi] => some (n, lo, hi)
    | _ => none
theorem cClamp_ok : cClamp.Ok Try.prog 22 := by
  refine con_of_calls Try.func22 (by decide) rfl cClamp (fun _ => ⟨rfl, rfl⟩) (fun _ => rfl) ?_ ?_
  · rintro ⟨n, lo, hi⟩ - ⟨h1, h2, h3, -⟩
    exact ⟨rfl, clamp_ok h1.1 h2.1 h3.1, trivial⟩
  · rintro ⟨n, lo, hi⟩ w - -
    exact Clamp_calls n lo hi w
def cFull : Con where
  X := Int × Int
  args := fun ⟨t, d⟩ => [AI t, AI d]
  heap := fun _ => hp0
  pre := fun _ => True
  res := fun ⟨t, d⟩ => ABun (full t d)
  heap' := fun _ => hp0
  pure := true
  find := fun args _ => match args with
    | [.int _ t, .int _ d] => some (t, d)
    | _ => none
theorem cFull_ok : cFull.Ok Try.prog 23 := by
  refine con_of_calls Try.func23 (by decide) rfl cFull (fun _ => ⟨rfl, rfl⟩) (fun _ => rfl) ?_ ?_
  · rintro ⟨t, d⟩ - ⟨h1, h2, -⟩
    exact ⟨rfl, okABun.2 (full_ok h1.1 h2.1)⟩
  · rintro ⟨t, d⟩ w - -
    exact Full_calls t d w
def cSplit : Con where
  X := Bun × Int × Bool × Bool
  args := fun ⟨b, n, o, d⟩ => [ABun b, AI n, AB o, AB d]
  heap := fun _ => hp0
  pre := fun ⟨b, _⟩ => 0 ≤ b.c
  res := fun ⟨b, n, o, d⟩ => .tup [ABun (split b n o d).1, ABun (split b n o d).2]
  heap' := fun _ => hp0
  pure := true
  find := fun args _ => match args with
    | [.agg [.int _ c, .bool o', .bool h, .int _ d'], .int _ n, .bool o, .bool d] => some (⟨c, o', h, d'⟩, n, o, d)
    | _ => none
theorem cSplit_ok : cSplit.Ok Try.prog 29 := by
  refine con_of_calls Try.func29 (by decide) rfl cSplit (fun _ => ⟨rfl, rfl⟩) (fun _ => rfl) ?_ ?_
  · rintro ⟨b, n, o, d⟩ - ⟨h1, h2, -⟩
    have := split_ok (okABun.1 h1).1 (okABun.1 h1).2 h2.1 o d
    exact ⟨rfl, okABun.2 this.1, okABun.2 this.2, trivial⟩
  · rintro ⟨b, n, o, d⟩ w h -
    exact Split_calls b n o d h w
def cJoin : Con where
  X := Bun × Bun
  args := fun ⟨a, b⟩ => [ABun a, ABun b]
  heap := fun _ => hp0
  pre := fun _ => True
  res := fun ⟨a, b⟩ => ABun (join a b)
  heap' := fun _ => hp0
  pure := true
  find := fun args _ => match args with
    | [.agg [.int _ c, .bool o, .bool h, .int _ d], .agg [.int _ c', .bool o', .bool h', .int _ d']] => some (⟨c, o, h, d⟩, ⟨c', o', h', d'⟩)
    | _ => none
theorem cJoin_ok : cJoin.Ok Try.prog 28 := by
  refine con_of_calls Try.func28 (by decide) rfl cJoin (fun _ => ⟨rfl, rfl⟩) (fun _ => rfl) ?_ ?_
  · rintro ⟨a, b⟩ - ⟨h1, h2, -⟩
    exact ⟨rfl, okABun.2 (join_ok (okABun.1 h1) (okABun.1 h2))⟩
  · rintro ⟨a, b⟩ w - -
    exact Join_calls a b w
def crJoin : Con where
  X := Bun × Bun
  args := fun ⟨a, b⟩ => [ABun a, ABun b]
  heap := fun _ => hp0
  pre := fun _ => True
  res := fun ⟨a, b⟩ => ABun (rjoin a b)
  heap' := fun _ => hp0
  pure := true
  find := fun args _ => match args with
    | [.agg [.int _ c, .bool o, .bool h, .int _ d], .agg [.int _ c', .bool o', .bool h', .int _ d']] => some (⟨c, o, h, d⟩, ⟨c', o', h', d'⟩)
    | _ => none
theorem crJoin_ok : crJoin.Ok Try.prog 26 := by
  refine con_of_calls Try.func26 (by decide) rfl crJoin (fun _ => ⟨rfl, rfl⟩) (fun _ => rfl) ?_ ?_
  · rintro ⟨a, b⟩ - ⟨h1, h2, -⟩
    exact ⟨rfl, okABun.2 (rjoin_ok (okABun.1 h1) (okABun.1 h2))⟩
  · rintro ⟨a, b⟩ w - -
    exact rJoin_calls a b w
def crSplit : Con where
  X := Bun × Int × Bool × Bool
  args := fun ⟨b, n, o, d⟩ => [ABun b, AI n, AB o, AB d]
  heap := fun _ => hp0
  pre := fun _ => True
  res := fun ⟨b, n, o, d⟩ => .tup [ABun (rsplit b n o d).1, ABun (rsplit b n o d).2]
  heap' := fun _ => hp0
  pure := true
  find := fun args _ => match args with
    | [.agg [.int _ c, .bool o', .bool h, .int _ d'], .int _ n, .bool o, .bool d] => some (⟨c, o', h, d'⟩, n, o, d)
    | _ => none
theorem crSplit_ok : crSplit.Ok Try.prog 19 := by
  refine con_of_calls Try.func19 (by decide) rfl crSplit (fun _ => ⟨rfl, rfl⟩) (fun _ => rfl) ?_ ?_
  · rintro ⟨b, n, o, d⟩ - ⟨h1, h2, -⟩
    have := rsplit_ok (okABun.1 h1).1 (okABun.1 h1).2 h2.1 o d
    exact ⟨rfl, okABun.2 this.1, okABun.2 this.2, trivial⟩
  · rintro ⟨b, n, o, d⟩ w - -
    exact rSplit_calls b n o d w
def crRight : Con where
  X := Bun × Int
  args := fun ⟨b, n⟩ => [ABun b, AI n]
  heap := fun _ => hp0
  pre := fun _ => True
  res := fun ⟨b, n⟩ => AB (decide (bcheck b n = 0))
  heap' := fun _ => hp0
  pure := true
  find := fun args _ => match args with
    | [.agg [.int _ c, .bool o', .bool h, .int _ d'], .int _ n] => some (⟨c, o', h, d'⟩, n)
    | _ => none
theorem crRight_ok : crRight.Ok Try.prog 21 := by
  refine con_of_calls Try.func21 (by decide) rfl crRight (fun _ => ⟨rfl, rfl⟩) (fun _ => rfl) ?_ ?_
  · rintro ⟨b, n⟩ - -
    exact ⟨rfl, trivial⟩
  · rintro ⟨b, n⟩ w - -
    exact rRight_calls b n w
end Go.Proofs.Ytopbgpmajkcboaa
