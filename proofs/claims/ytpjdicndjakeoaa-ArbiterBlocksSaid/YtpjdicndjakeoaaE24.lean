/- The engine at this seat: its types. No condition. -/
import Derived.Test.YtpjdicndjakeoaaProg
import Derived.Test.YtpjdicndjakeoaaE23
namespace Go.Proofs.Ytpjdicndjakeoaa
open Go.RowKit
set_option linter.unusedVariables false
set_option linter.unusedSimpArgs false
def lookTI : List (Nat × TI) → Nat → Option TI
  | [], _ => none
  | (i, a) :: r, k => bif Nat.beq i k then some a else lookTI r k
def lookQ : List (Nat × List FK) → Nat → Option (List FK)
  | [], _ => none
  | (i, a) :: r, k => bif Nat.beq i k then some a else lookQ r k
def lookC : List (Nat × Con) → Nat → Option Con
  | [], _ => none
  | (i, a) :: r, k => bif Nat.beq i k then some a else lookC r k
def tblFits (P : Program) : List (Nat × TI) → Bool
  | [] => true
  | (t, i) :: r => tiFits P t i && tblFits P r
def qFits (P : Program) : List (Nat × List FK) → Bool
  | [] => true
  | (t, ks) :: r => (decide (flatK P 40 t = some ks) && P.keyTypeAt 40 t && !P.eqGuardType P.depth t) && qFits P r
theorem tblFits_ok {P : Program} : ∀ {l : List (Nat × TI)} {t : Nat} {i : TI}, tblFits P l = true → lookTI l t = some i → TIok P t i
  | (j, b) :: l, t, i, h, hl => by
    simp only [tblFits, Bool.and_eq_true] at h
    rw [lookTI, Bool.cond_eq_ite] at hl
    split at hl
    · rename_i e
      cases hl
      rw [← Nat.eq_of_beq_eq_true e]
      exact tiFits_ok h.1
    · exact tblFits_ok h.2 hl
theorem qFits_ok {P : Program} : ∀ {l : List (Nat × List FK)} {t : Nat} {ks : List FK}, qFits P l = true → lookQ l t = some ks → flatK P 40 t = some ks ∧ P.keyTypeAt 40 t = true ∧ P.eqGuardType P.depth t = false
  | (j, b) :: l, t, i, h, hl => by
    simp only [qFits, Bool.and_eq_true, decide_eq_true_eq, Bool.not_eq_true'] at h
    rw [lookQ, Bool.cond_eq_ite] at hl
    split at hl
    · rename_i e
      cases hl
      rw [← Nat.eq_of_beq_eq_true e]
      exact ⟨h.1.1.1, h.1.1.2, h.1.2⟩
    · exact qFits_ok h.2 hl
def tbl : List (Nat × TI) := [
  (2, ⟨1, 8, [.int .i64 0], (.int .i64), some .int⟩),
  (3, ⟨1, 8, [.int .i64 0], (.int .i64), some .int⟩),
  (4, ⟨1, 1, [.bool false], .bool, some .bool⟩),
  (5, ⟨1, 1, [.int .u8 0], (.int .u8), none⟩),
  (7, ⟨4, 24, [.int .i64 0, .int .i64 0, .bool false, .int .u8 0], (.struct [(0, 2), (1, 3), (2, 4), (3, 6)]), none⟩),
  (9, ⟨1, 16, [.str ByteArray.empty], .str, some .str⟩),
  (12, ⟨1, 8, [.int .u64 0], (.int .u64), none⟩),
  (13, ⟨2, 24, [.str ByteArray.empty, .int .u64 0], (.struct [(0, 9), (1, 12)]), none⟩),
  (15, ⟨1, 8, [.nilp], (.ptr 68), none⟩),
  (16, ⟨1, 8, [.nilp], (.ptr 71), none⟩),
  (17, ⟨1, 8, [.nilp], (.ptr 81), none⟩),
  (18, ⟨1, 8, [.nilp], (.struct [(0, 17)]), none⟩),
  (21, ⟨1, 4, [.int .i32 0], (.int .i32), none⟩),
  (22, ⟨1, 24, [.nils], (.slice 3), some (.sl .int)⟩),
  (24, ⟨1, 8, [.nilp], (.ptr 55), none⟩),
  (26, ⟨3, 24, [.int .i64 0, .int .i64 0, .int .i64 0], (.struct [(0, 3), (1, 3), (2, 3)]), none⟩),
  (27, ⟨3, 24, [.int .i64 0, .int .i64 0, .int .i64 0], (.struct [(0, 3), (1, 3), (2, 3)]), some .atv⟩),
  (36, ⟨1, 24, [.nils], (.slice 38), some (.sl .act12)⟩),
  (37, ⟨4, 32, [.int .i64 0, .int .i64 0, .int .i64 0, .int .i64 0], (.struct [(0, 3), (1, 3), (2, 3), (3, 3)]), none⟩),
  (38, ⟨4, 32, [.int .i64 0, .int .i64 0, .int .i64 0, .int .i64 0], (.struct [(0, 3), (1, 3), (2, 3), (3, 3)]), some .act12⟩),
  (40, ⟨2, 16, [.arr 2 .int (List.replicate 2 (0 : Int))], (.array 2 3), none⟩),
  (42, ⟨1, 24, [.nils], (.slice 24), none⟩),
  (44, ⟨1, 8, [.nilp], (.ptr 49), none⟩),
  (47, ⟨1, 24, [.nils], (.slice 63), some (.sl .rRow12)⟩),
  (48, ⟨2, 32, [.int .i64 0, .nils], (.struct [(0, 3), (1, 47)]), none⟩),
  (49, ⟨2, 32, [.int .i64 0, .nils], (.struct [(0, 3), (1, 47)]), none⟩),
  (53, ⟨1, 24, [.nils], (.slice 59), some (.sl .row12)⟩),
  (54, ⟨2, 32, [.int .i64 0, .nils], (.struct [(0, 3), (1, 53)]), none⟩),
  (55, ⟨2, 32, [.int .i64 0, .nils], (.struct [(0, 3), (1, 53)]), none⟩),
  (56, ⟨1, 8, [.nilp], (.ptr 59), none⟩),
  (57, ⟨64, 64, [.arr 64 .bool (List.replicate 64 false)], (.array 64 4), none⟩),
  (58, ⟨71, 128, [.int .i64 0, .int .i64 0, .int .i64 0, .int .i64 0, .bool false, .bool false, .arr 64 .bool (List.replicate 64 false), .nils], (.struct [(0, 3), (1, 27), (4, 4), (5, 4), (6, 57), (70, 22)]), none⟩),
  (59, ⟨71, 128, [.int .i64 0, .int .i64 0, .int .i64 0, .int .i64 0, .bool false, .bool false, .arr 64 .bool (List.replicate 64 false), .nils], (.struct [(0, 3), (1, 27), (4, 4), (5, 4), (6, 57), (70, 22)]), some .row12⟩),
  (62, ⟨4, 64, [.nils, .int .i64 0, .int .i64 0, .nils], (.struct [(0, 22), (1, 3), (2, 3), (3, 22)]), none⟩),
  (63, ⟨4, 64, [.nils, .int .i64 0, .int .i64 0, .nils], (.struct [(0, 22), (1, 3), (2, 3), (3, 22)]), some .rRow12⟩),
  (67, ⟨4, 40, [.nilp, .nilp, .nilp, .str ByteArray.empty], (.struct [(0, 17), (1, 17), (2, 17), (3, 9)]), none⟩),
  (73, ⟨1, 4, [.int .u32 0], (.int .u32), none⟩),
  (77, ⟨1, 8, [.nilp], (.ptr 5), none⟩)]
def qtbl : List (Nat × List FK) := [
  (27, [(.i .i64), (.i .i64), (.i .i64)]),
  (38, [(.i .i64), (.i .i64), (.i .i64), (.i .i64)]),
  (40, [(.i .i64), (.i .i64)]),
  (57, [.b, .b, .b, .b, .b, .b, .b, .b, .b, .b, .b, .b, .b, .b, .b, .b, .b, .b, .b, .b, .b, .b, .b, .b, .b, .b, .b, .b, .b, .b, .b, .b, .b, .b, .b, .b, .b, .b, .b, .b, .b, .b, .b, .b, .b, .b, .b, .b, .b, .b, .b, .b, .b, .b, .b, .b, .b, .b, .b, .b, .b, .b, .b, .b])]
theorem tbl_fits : tblFits Try.prog tbl = true := by kernel_rfl
theorem qtbl_fits : qFits Try.prog qtbl = true := by kernel_rfl
theorem mixedP : Try.prog.follows .mixedOrders = true := by kernel_rfl
def env (cs : List (Nat × Con)) : Env := ⟨lookTI tbl, lookQ qtbl, fun f args H => match lookC cs f with
  | some c => conD c args H
  | none => none, false⟩
/-- .. where a part of a slice of its own memory is but a view, or the slice itself, cut. -/
def envV (cs : List (Nat × Con)) : Env := { env cs with V := true }
/-- All these contracts hold. -/
def Cons (cs : List (Nat × Con)) : Prop := ∀ f c, lookC cs f = some c → c.Ok Try.prog f
theorem Cons.nil : Cons [] := fun f c h => by cases h
theorem Cons.cons {f : Nat} {c : Con} {cs : List (Nat × Con)} (h : c.Ok Try.prog f) (hs : Cons cs) : Cons ((f, c) :: cs) := fun g d hl => by
  rw [lookC, Bool.cond_eq_ite] at hl
  split at hl
  · rename_i e
    cases hl
    rw [← Nat.eq_of_beq_eq_true e]
    exact h
  · exact hs g d hl
theorem env_ok {cs : List (Nat × Con)} (h : Cons cs) : (env cs).Ok Try.prog := by
  refine ⟨fun t i hi => tblFits_ok tbl_fits hi, fun t ks hk => qFits_ok qtbl_fits hk, fun f args H r hr hn F φ w vs hR hv => ?_⟩
  have hr' : (match lookC cs f with | some c => conD c args H | none => none) = some r := hr
  split at hr'
  · rename_i c hc
    exact con_ok (h f c hc) (h f c hc).lt hr' hn hR hv
  · cases hr'
theorem envV_ok {cs : List (Nat × Con)} (h : Cons cs) : (envV cs).Ok Try.prog := ⟨(env_ok h).T, (env_ok h).Q, (env_ok h).K⟩
end Go.Proofs.Ytpjdicndjakeoaa
