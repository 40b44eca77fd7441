/- The engine at this seat: its types. No condition. -/
import Derived.Test.YtipibgamajhgbaaProg
import Derived.Test.YtipibgamajhgbaaGEc
namespace Go.Proofs.Ytipibgamajhgbaa
open Go.RowKit
set_option linter.unusedVariables false
set_option linter.unusedSimpArgs false
def lookTI : List (Nat × TI) → Nat → Option TI
  | [], _ => none
  | (i, a) :: r, k => bif Nat.beq i k then some a else lookTI r k
def lookQ : List (Nat × List FK) → Nat → Option (List FK)
  | [], _ => none
  | (i, a) :: r, k => bif Nat.beq i k then some a else lookQ r k
def lookC : List (Nat × Con) → Nat → Option Con
  | [], _ => none
  | (i, a) :: r, k => bif Nat.beq i k then some a else lookC r k
def tblFits (P : Program) : List (Nat × TI) → Bool
  | [] => true
  | (t, i) :: r => tiFits P t i && tblFits P r
def qFits (P : Program) : List (Nat × List FK) → Bool
  | [] => true
  | (t, ks) :: r => (decide (flatK P 40 t = some ks) && P.keyTypeAt 40 t && !P.eqGuardType P.depth t) && qFits P r
theorem tblFits_ok {P : Program} : ∀ {l : List (Nat × TI)} {t : Nat} {i : TI}, tblFits P l = true → lookTI l t = some i → TIok P t i
  | (j, b) :: l, t, i, h, hl => by
    simp only [tblFits, Bool.and_eq_true] at h
    rw [lookTI, Bool.cond_eq_ite] at hl
    split at hl
    · rename_i e
      cases hl
      rw [← Nat.eq_of_beq_eq_true e]
      exact tiFits_ok h.1
    · exact tblFits_ok h.2 hl
theorem qFits_ok {P : Program} : ∀ {l : List (Nat × List FK)} {t : Nat} {ks : List FK}, qFits P l = true → lookQ l t = some ks → flatK P 40 t = some ks ∧ P.keyTypeAt 40 t = true ∧ P.eqGuardType P.depth t = false
  | (j, b) :: l, t, i, h, hl => by
    simp only [qFits, Bool.and_eq_true, decide_eq_true_eq, Bool.not_eq_true'] at h
    rw [lookQ, Bool.cond_eq_ite] at hl
    split at hl
    · rename_i e
      cases hl
      rw [← Nat.eq_of_beq_eq_true e]
      exact ⟨h.1.1.1, h.1.1.2, h.1.2⟩
    · exact qFits_ok h.2 hl
def tbl : List (Nat × TI) := [
  (2, ⟨1, 8, [.int .i64 0], (.int .i64), some .int⟩),
  (3, ⟨1, 8, [.int .i64 0], (.int .i64), some .int⟩),
  (4, ⟨1, 1, [.bool false], .bool, some .bool⟩),
  (5, ⟨1, 1, [.int .u8 0], (.int .u8), none⟩),
  (7, ⟨4, 24, [.int .i64 0, .int .i64 0, .bool false, .int .u8 0], (.struct [(0, 2), (1, 3), (2, 4), (3, 6)]), none⟩),
  (9, ⟨1, 16, [.str ByteArray.empty], .str, some .str⟩),
  (12, ⟨1, 8, [.int .u64 0], (.int .u64), none⟩),
  (13, ⟨2, 24, [.str ByteArray.empty, .int .u64 0], (.struct [(0, 9), (1, 12)]), none⟩),
  (15, ⟨1, 8, [.nilp], (.ptr 143), none⟩),
  (16, ⟨1, 8, [.nilp], (.ptr 146), none⟩),
  (17, ⟨1, 8, [.nilp], (.ptr 156), none⟩),
  (18, ⟨1, 8, [.nilp], (.struct [(0, 17)]), none⟩),
  (21, ⟨1, 4, [.int .i32 0], (.int .i32), none⟩),
  (22, ⟨9, 72, [.int .i64 0, .int .i64 0, .int .i64 0, .int .i64 0, .int .i64 0, .int .i64 0, .int .i64 0, .int .i64 0, .int .i64 0], (.struct [(0, 3), (1, 3), (2, 3), (3, 3), (4, 3), (5, 3), (6, 3), (7, 3), (8, 3)]), none⟩),
  (23, ⟨9, 72, [.int .i64 0, .int .i64 0, .int .i64 0, .int .i64 0, .int .i64 0, .int .i64 0, .int .i64 0, .int .i64 0, .int .i64 0], (.struct [(0, 3), (1, 3), (2, 3), (3, 3), (4, 3), (5, 3), (6, 3), (7, 3), (8, 3)]), some .cfg⟩),
  (24, ⟨1, 24, [.nils], (.slice 37), some (.sl .act16)⟩),
  (25, ⟨1, 8, [.nilp], (.ptr 75), none⟩),
  (26, ⟨1, 8, [.nilp], (.ptr 59), none⟩),
  (30, ⟨1, 24, [.nils], (.slice 3), some (.sl .int)⟩),
  (31, ⟨4, 24, [.int .i64 0, .bool false, .bool false, .int .i64 0], (.struct [(0, 3), (1, 4), (2, 4), (3, 2)]), none⟩),
  (32, ⟨4, 24, [.int .i64 0, .bool false, .bool false, .int .i64 0], (.struct [(0, 3), (1, 4), (2, 4), (3, 2)]), some .bun⟩),
  (33, ⟨11, 80, [.int .i64 0, .int .i64 0, .int .i64 0, .int .i64 0, .int .i64 0, .int .i64 0, .bool false, .int .i64 0, .bool false, .bool false, .int .i64 0], (.struct [(0, 3), (1, 3), (2, 3), (3, 3), (4, 3), (5, 3), (6, 4), (7, 32)]), none⟩),
  (34, ⟨11, 80, [.int .i64 0, .int .i64 0, .int .i64 0, .int .i64 0, .int .i64 0, .int .i64 0, .bool false, .int .i64 0, .bool false, .bool false, .int .i64 0], (.struct [(0, 3), (1, 3), (2, 3), (3, 3), (4, 3), (5, 3), (6, 4), (7, 32)]), some .ltr⟩),
  (35, ⟨3, 24, [.arr 3 .int (List.replicate 3 (0 : Int))], (.array 3 3), none⟩),
  (36, ⟨15, 112, [.int .i64 0, .int .i64 0, .int .i64 0, .int .i64 0, .int .i64 0, .int .i64 0, .bool false, .int .i64 0, .bool false, .bool false, .int .i64 0, .arr 3 .int (List.replicate 3 (0 : Int)), .bool false], (.struct [(0, 34), (11, 35), (14, 4)]), none⟩),
  (37, ⟨15, 112, [.int .i64 0, .int .i64 0, .int .i64 0, .int .i64 0, .int .i64 0, .int .i64 0, .bool false, .int .i64 0, .bool false, .bool false, .int .i64 0, .arr 3 .int (List.replicate 3 (0 : Int)), .bool false], (.struct [(0, 34), (11, 35), (14, 4)]), some .act16⟩),
  (39, ⟨1, 24, [.nils], (.slice 34), some (.sl .ltr)⟩),
  (41, ⟨1, 24, [.nils], (.slice 32), some (.sl .bun)⟩),
  (45, ⟨3, 24, [.arr 3 .int (List.replicate 3 (0 : Int))], (.array 3 3), none⟩),
  (49, ⟨3, 24, [.int .i64 0, .int .i64 0, .int .i64 0], (.struct [(0, 3), (1, 3), (2, 3)]), none⟩),
  (50, ⟨3, 24, [.int .i64 0, .int .i64 0, .int .i64 0], (.struct [(0, 3), (1, 3), (2, 3)]), some .atv⟩),
  (57, ⟨1, 8, [.nilp], (.ptr 95), none⟩),
  (58, ⟨11, 104, [.int .i64 0, .int .i64 0, .int .i64 0, .int .i64 0, .int .i64 0, .int .i64 0, .int .i64 0, .int .i64 0, .int .i64 0, .nils, .nilp], (.struct [(0, 23), (9, 41), (10, 57)]), none⟩),
  (59, ⟨11, 104, [.int .i64 0, .int .i64 0, .int .i64 0, .int .i64 0, .int .i64 0, .int .i64 0, .int .i64 0, .int .i64 0, .int .i64 0, .nils, .nilp], (.struct [(0, 23), (9, 41), (10, 57)]), none⟩),
  (64, ⟨1, 24, [.nils], (.slice 39), some (.sl (.sl .ltr))⟩),
  (65, ⟨1, 8, [.int .i64 0], (.int .i64), some .int⟩),
  (72, ⟨1, 8, [.nilp], (.ptr 118), none⟩),
  (73, ⟨1, 8, [.nilp], (.ptr 121), none⟩),
  (74, ⟨11, 88, [.int .i64 0, .int .i64 0, .int .i64 0, .int .i64 0, .int .i64 0, .int .i64 0, .int .i64 0, .int .i64 0, .int .i64 0, .nilp, .nilp], (.struct [(0, 23), (9, 72), (10, 73)]), none⟩),
  (75, ⟨11, 88, [.int .i64 0, .int .i64 0, .int .i64 0, .int .i64 0, .int .i64 0, .int .i64 0, .int .i64 0, .int .i64 0, .int .i64 0, .nilp, .nilp], (.struct [(0, 23), (9, 72), (10, 73)]), none⟩),
  (91, ⟨4, 64, [.nils, .int .i64 0, .int .i64 0, .nils], (.struct [(0, 30), (1, 3), (2, 3), (3, 30)]), none⟩),
  (92, ⟨4, 64, [.nils, .int .i64 0, .int .i64 0, .nils], (.struct [(0, 30), (1, 3), (2, 3), (3, 30)]), some .rRow12⟩),
  (93, ⟨1, 24, [.nils], (.slice 92), some (.sl .rRow12)⟩),
  (94, ⟨2, 32, [.int .i64 0, .nils], (.struct [(0, 3), (1, 93)]), none⟩),
  (95, ⟨2, 32, [.int .i64 0, .nils], (.struct [(0, 3), (1, 93)]), none⟩),
  (104, ⟨8, 8, [.bool false, .bool false, .bool false, .bool false, .bool false, .bool false, .bool false, .bool false], (.struct [(0, 4), (1, 4), (2, 4), (3, 4), (4, 4), (5, 4), (6, 4), (7, 4)]), none⟩),
  (105, ⟨8, 8, [.bool false, .bool false, .bool false, .bool false, .bool false, .bool false, .bool false, .bool false], (.struct [(0, 4), (1, 4), (2, 4), (3, 4), (4, 4), (5, 4), (6, 4), (7, 4)]), none⟩),
  (117, ⟨1, 24, [.nils], (.struct [(0, 41)]), none⟩),
  (118, ⟨1, 24, [.nils], (.struct [(0, 41)]), none⟩),
  (119, ⟨1, 24, [.nils], (.slice 124), some (.sl .row12)⟩),
  (120, ⟨2, 32, [.int .i64 0, .nils], (.struct [(0, 3), (1, 119)]), none⟩),
  (121, ⟨2, 32, [.int .i64 0, .nils], (.struct [(0, 3), (1, 119)]), none⟩),
  (122, ⟨64, 64, [.arr 64 .bool (List.replicate 64 false)], (.array 64 4), none⟩),
  (123, ⟨71, 128, [.int .i64 0, .int .i64 0, .int .i64 0, .int .i64 0, .bool false, .bool false, .arr 64 .bool (List.replicate 64 false), .nils], (.struct [(0, 3), (1, 50), (4, 4), (5, 4), (6, 122), (70, 30)]), none⟩),
  (124, ⟨71, 128, [.int .i64 0, .int .i64 0, .int .i64 0, .int .i64 0, .bool false, .bool false, .arr 64 .bool (List.replicate 64 false), .nils], (.struct [(0, 3), (1, 50), (4, 4), (5, 4), (6, 122), (70, 30)]), some .row12⟩),
  (136, ⟨1, 8, [.nilp], (.ptr 124), none⟩),
  (137, ⟨1, 8, [.int .u64 0], (.int .u64), none⟩),
  (142, ⟨4, 40, [.nilp, .nilp, .nilp, .str ByteArray.empty], (.struct [(0, 17), (1, 17), (2, 17), (3, 9)]), none⟩),
  (148, ⟨1, 4, [.int .u32 0], (.int .u32), none⟩),
  (152, ⟨1, 8, [.nilp], (.ptr 5), none⟩)]
def qtbl : List (Nat × List FK) := [
  (23, [(.i .i64), (.i .i64), (.i .i64), (.i .i64), (.i .i64), (.i .i64), (.i .i64), (.i .i64), (.i .i64)]),
  (32, [(.i .i64), .b, .b, (.i .i64)]),
  (34, [(.i .i64), (.i .i64), (.i .i64), (.i .i64), (.i .i64), (.i .i64), .b, (.i .i64), .b, .b, (.i .i64)]),
  (35, [(.i .i64), (.i .i64), (.i .i64)]),
  (37, [(.i .i64), (.i .i64), (.i .i64), (.i .i64), (.i .i64), (.i .i64), .b, (.i .i64), .b, .b, (.i .i64), (.i .i64), (.i .i64), (.i .i64), .b]),
  (45, [(.i .i64), (.i .i64), (.i .i64)]),
  (50, [(.i .i64), (.i .i64), (.i .i64)]),
  (105, [.b, .b, .b, .b, .b, .b, .b, .b]),
  (122, [.b, .b, .b, .b, .b, .b, .b, .b, .b, .b, .b, .b, .b, .b, .b, .b, .b, .b, .b, .b, .b, .b, .b, .b, .b, .b, .b, .b, .b, .b, .b, .b, .b, .b, .b, .b, .b, .b, .b, .b, .b, .b, .b, .b, .b, .b, .b, .b, .b, .b, .b, .b, .b, .b, .b, .b, .b, .b, .b, .b, .b, .b, .b, .b])]
theorem tbl_fits : tblFits Try.prog tbl = true := by kernel_rfl
theorem qtbl_fits : qFits Try.prog qtbl = true := by kernel_rfl
theorem mixedP : Try.prog.follows .mixedOrders = true := by kernel_rfl
def env (cs : List (Nat × Con)) : Env := ⟨lookTI tbl, lookQ qtbl, fun f args H => match lookC cs f with
  | some c => conD c args H
  | none => none⟩
/-- All these contracts hold. -/
def Cons (cs : List (Nat × Con)) : Prop := ∀ f c, lookC cs f = some c → c.Ok Try.prog f
theorem Cons.nil : Cons [] := fun f c h => by cases h
theorem Cons.cons {f : Nat} {c : Con} {cs : List (Nat × Con)} (h : c.Ok Try.prog f) (hs : Cons cs) : Cons ((f, c) :: cs) := fun g d hl => by
  rw [lookC, Bool.cond_eq_ite] at hl
  split at hl
  · rename_i e
    cases hl
    rw [← Nat.eq_of_beq_eq_true e]
    exact h
  · exact hs g d hl
theorem env_ok {cs : List (Nat × Con)} (h : Cons cs) : (env cs).Ok Try.prog := by
  refine ⟨fun t i hi => tblFits_ok tbl_fits hi, fun t ks hk => qFits_ok qtbl_fits hk, fun f args H r hr hn F φ w vs hR hv => ?_⟩
  have hr' : (match lookC cs f with | some c => conD c args H | none => none) = some r := hr
  split at hr'
  · rename_i c hc
    exact con_ok (h f c hc) (h f c hc).lt hr' hn hR hv
  · cases hr'
end Go.Proofs.Ytipibgamajhgbaa

namespace Go.Proofs.Ytipibgamajhgbaa
open Go.RowKit
set_option linter.unusedVariables false
set_option linter.unusedSimpArgs false
theorem aTT {P : Prop} (h : P) : True ∧ (True → P) := ⟨trivial, fun _ => h⟩
theorem aTB {P : Prop} (h : P) : True ∧ (true = true → P) := ⟨trivial, fun _ => h⟩
theorem aT {P : Prop} (h : P) : True ∧ P := ⟨trivial, h⟩
theorem aB {P : Prop} (h : P) : true = true ∧ P := ⟨rfl, h⟩
theorem a11 {P Q : Prop} (h : P) : (true = true → P) ∧ (true = false → Q) := ⟨fun _ => h, fun h => (nomatch h)⟩
theorem a10 {P Q : Prop} (h : Q) : (true = false → P) ∧ (true = true → Q) := ⟨fun h => (nomatch h), fun _ => h⟩
theorem a01 {P Q : Prop} (h : Q) : (false = true → P) ∧ (false = false → Q) := ⟨fun h => (nomatch h), fun _ => h⟩
theorem a00 {P Q : Prop} (h : P) : (false = false → P) ∧ (false = true → Q) := ⟨fun _ => h, fun h => (nomatch h)⟩
theorem iTr {P : Prop} (h : P) : True → P := fun _ => h
theorem iB {P : Prop} (h : P) : true = true → P := fun _ => h
def hp0 : Heap := ⟨0, []⟩
def val1 : AV → Value
  | .int k n => .int k n
  | .bool b => .bool b
  | _ => undef
def valA : AV → Value
  | .agg cs => .agg (cs.map val1).toArray
  | a => val1 a
def valV : AV → Value
  | .tup l => .tuple (l.map valA).toArray
  | a => valA a
def plain1 : AV → Bool
  | .int _ _ => true
  | .bool _ => true
  | _ => false
def plainA : AV → Bool
  | .agg cs => cs.all plain1
  | a => plain1 a
def plainV : AV → Bool
  | .tup l => l.all plainA
  | a => plainA a
def okV : AV → Prop
  | .tup l => okAs l
  | a => okA a
theorem reps_plain {C : Cx} {az : List AV} {vs : List Value} (h : Reps C az vs) (hp : az.all plain1 = true) : vs = az.map val1 := by
  induction h with
  | nil => rfl
  | int a b h ih => simp only [List.all_cons, Bool.and_eq_true] at hp; rw [ih hp.2]; rfl
  | bool h ih => simp only [List.all_cons, Bool.and_eq_true] at hp; rw [ih hp.2]; rfl
  | str a h ih => simp [plain1] at hp
  | nilp h ih => simp [plain1] at hp
  | ptr a h ih => simp [plain1] at hp
  | nils h ih => simp [plain1] at hp
  | slc a h ih => simp [plain1] at hp
  | vsl ws a b c d h ih1 ih2 => simp [plain1] at hp
  | arr a b h ih1 ih2 => simp [plain1] at hp
  | fn h ih => simp [plain1] at hp
  | vptr ws a b c d h ih1 ih2 => simp [plain1] at hp
theorem plain_reps {C : Cx} : ∀ {az : List AV}, az.all plain1 = true → okLs az → Reps C az (az.map val1)
  | [], _, _ => .nil
  | a :: az, hp, ho => by
    simp only [List.all_cons, Bool.and_eq_true] at hp
    cases a with
    | int k n =>
      obtain ⟨h1, h2⟩ := ho
      have := okN_iff.1 h1
      exact .int this.1 this.2 (plain_reps hp.2 h2)
    | bool b => exact .bool (plain_reps hp.2 ho)
    | _ => simp [plain1] at hp
theorem rv1_plain {C : Cx} {a : AV} {v : Value} (h : RV1 C a v) (hp : plainA a = true) : v = valA a := by
  cases a with
  | agg cs =>
    obtain ⟨vs, rfl, hr⟩ := h
    rw [reps_plain hr hp]; rfl
  | int k n => have := reps_plain (az := [.int k n]) h rfl; simpa [val1, valA] using this
  | bool b => have := reps_plain (az := [.bool b]) h rfl; simpa [val1, valA] using this
  | _ => simp [plainA, plain1] at hp
theorem plain_rv1 {C : Cx} {a : AV} (hp : plainA a = true) (ho : okA a) : RV1 C a (valA a) := by
  cases a with
  | agg cs => exact ⟨_, rfl, plain_reps hp ho⟩
  | int k n => exact plain_reps (az := [.int k n]) rfl ho
  | bool b => exact plain_reps (az := [.bool b]) rfl ho
  | _ => simp [plainA, plain1] at hp
theorem rvs_plain {C : Cx} : ∀ {az : List AV} {vs : List Value}, RVs C az vs → az.all plainA = true → vs = az.map valA
  | [], [], _, _ => rfl
  | a :: az, v :: vs, h, hp => by
    simp only [List.all_cons, Bool.and_eq_true] at hp
    rw [rv1_plain h.1 hp.1, rvs_plain h.2 hp.2]; rfl
  | [], _ :: _, h, _ => h.elim
  | _ :: _, [], h, _ => h.elim
theorem plain_rvs {C : Cx} : ∀ {az : List AV}, az.all plainA = true → okAs az → RVs C az (az.map valA)
  | [], _, _ => trivial
  | a :: az, hp, ho => by
    simp only [List.all_cons, Bool.and_eq_true] at hp
    exact ⟨plain_rv1 hp.1 ho.1, plain_rvs hp.2 ho.2⟩
theorem plain_rv {C : Cx} {a : AV} (hp : plainV a = true) (ho : okV a) : RV C a (valV a) := by
  cases a with
  | tup l => exact ⟨_, rfl, plain_rvs hp ho⟩
  | agg cs => exact plain_rv1 (a := .agg cs) hp ho
  | int k n => exact plain_rv1 (a := .int k n) hp ho
  | bool b => exact plain_rv1 (a := .bool b) hp ho
  | _ => simp [plainV, plainA, plain1] at hp
theorem con_of_calls {P : Program} {f : FuncId} {fn : Func} {code : Code} (hf : P.funcs[f]? = some fn) (hname : (fn.name == "runtime.NumGoroutine") = false) (hb : fn.body = some code) (c : Con)
    (hh : ∀ x, c.heap x = hp0 ∧ c.heap' x = hp0) (hpl : ∀ x, (c.args x).all plainA = true) (hr : ∀ x, c.pre x → okAs (c.args x) → plainV (c.res x) = true ∧ okV (c.res x))
    (calls : ∀ x w, c.pre x → okAs (c.args x) → Calls P f ((c.args x).map valA).toArray w fun e w' => e = .returned (valV (c.res x)) ∧ Below w.heap.size w w') : c.Ok P f := by
  have hno : ∀ x id k, (c.heap x).get id = some k → False := fun x id k h => by
    rw [(hh x).1] at h
    cases h
  refine ⟨fun args w => Go.MuLone.run_callFunc_enter hf hname hb args w, fun x id k h => (hno x id k h).elim, fun _ x => ⟨by rw [(hh x).1, (hh x).2], fun id k h => (hno x id k h).elim⟩, fun x hpre F φ w vs hR hv => ?_⟩
  have e := rvs_plain hv (hpl x)
  have ho := okAs_of hv
  subst e
  refine (calls x w hpre ho).mono fun e w' ⟨he, hbl⟩ => ?_
  obtain ⟨g1, g2⟩ := hR.below hbl
  obtain ⟨h1, h2⟩ := hr x hpre ho
  refine ⟨_, he, φ, plain_rv h1 h2, ?_, ?_⟩
  · show Rel F φ (c.heap' x) w'
    rw [(hh x).2, ← (hh x).1]; exact g1
  · show Ext F φ (c.heap x) w φ (c.heap' x) w'
    rw [(hh x).2, ← (hh x).1]; exact g2
end Go.Proofs.Ytipibgamajhgbaa
