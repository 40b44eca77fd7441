/- The engine at this seat: its types. No condition. -/
import Derived.Test.YtpkidbhpfohopaaDoorProg
import Derived.Test.YtpkidbhpfohopaaDoorGEc
noncomputable section
namespace Go.Proofs.YtpkidbhpfohopaaDoor
open Go.RowKit
set_option linter.unusedVariables false
set_option linter.unusedSimpArgs false
def lookTI : List (Nat × TI) → Nat → Option TI
  | [], _ => none
  | (i, a) :: r, k => bif Nat.beq i k then some a else lookTI r k
def lookQ : List (Nat × List FK) → Nat → Option (List FK)
  | [], _ => none
  | (i, a) :: r, k => bif Nat.beq i k then some a else lookQ r k
def lookC : List (Nat × Con) → Nat → Option Con
  | [], _ => none
  | (i, a) :: r, k => bif Nat.beq i k then some a else lookC r k
def tblFits (P : Program) : List (Nat × TI) → Bool
  | [] => true
  | (t, i) :: r => tiFits P t i && tblFits P r
def qFits (P : Program) : List (Nat × List FK) → Bool
  | [] => true
  | (t, ks) :: r => (decide (flatK P 40 t = some ks) && P.keyTypeAt 40 t && !P.eqGuardType P.depth t) && qFits P r
theorem tblFits_ok {P : Program} : ∀ {l : List (Nat × TI)} {t : Nat} {i : TI}, tblFits P l = true → lookTI l t = some i → TIok P t i
  | (j, b) :: l, t, i, h, hl => by
    simp only [tblFits, Bool.and_eq_true] at h
    rw [lookTI, Bool.cond_eq_ite] at hl
    split at hl
    · rename_i e
      cases hl
      rw [← Nat.eq_of_beq_eq_true e]
      exact tiFits_ok h.1
    · exact tblFits_ok h.2 hl
theorem qFits_ok {P : Program} : ∀ {l : List (Nat × List FK)} {t : Nat} {ks : List FK}, qFits P l = true → lookQ l t = some ks → flatK P 40 t = some ks ∧ P.keyTypeAt 40 t = true ∧ P.eqGuardType P.depth t = false
  | (j, b) :: l, t, i, h, hl => by
    simp only [qFits, Bool.and_eq_true, decide_eq_true_eq, Bool.not_eq_true'] at h
    rw [lookQ, Bool.cond_eq_ite] at hl
    split at hl
    · rename_i e
      cases hl
      rw [← Nat.eq_of_beq_eq_true e]
      exact ⟨h.1.1.1, h.1.1.2, h.1.2⟩
    · exact qFits_ok h.2 hl
def tbl : List (Nat × TI) := [
  (2, ⟨1, 8, [.int .i64 0], (.int .i64), some .int⟩),
  (3, ⟨1, 8, [.int .i64 0], (.int .i64), some .int⟩),
  (4, ⟨1, 1, [.bool false], .bool, some .bool⟩),
  (5, ⟨1, 1, [.int .u8 0], (.int .u8), some .u8⟩),
  (7, ⟨4, 24, [.int .i64 0, .int .i64 0, .bool false, .int .u8 0], (.struct [(0, 2), (1, 3), (2, 4), (3, 6)]), none⟩),
  (9, ⟨1, 16, [.str ByteArray.empty], .str, some .str⟩),
  (12, ⟨1, 8, [.int .u64 0], (.int .u64), none⟩),
  (13, ⟨2, 24, [.str ByteArray.empty, .int .u64 0], (.struct [(0, 9), (1, 12)]), none⟩),
  (15, ⟨1, 8, [.nilp], (.ptr 124), none⟩),
  (16, ⟨1, 8, [.nilp], (.ptr 127), none⟩),
  (17, ⟨1, 8, [.nilp], (.ptr 135), none⟩),
  (18, ⟨1, 8, [.nilp], (.struct [(0, 17)]), none⟩),
  (20, ⟨1, 16, [.ifz], .iface, none⟩),
  (21, ⟨1, 4, [.int .i32 0], (.int .i32), none⟩),
  (23, ⟨9, 72, [.int .i64 0, .int .i64 0, .int .i64 0, .int .i64 0, .int .i64 0, .int .i64 0, .int .i64 0, .int .i64 0, .int .i64 0], (.struct [(0, 3), (1, 3), (2, 3), (3, 3), (4, 3), (5, 3), (6, 3), (7, 3), (8, 3)]), none⟩),
  (24, ⟨9, 72, [.int .i64 0, .int .i64 0, .int .i64 0, .int .i64 0, .int .i64 0, .int .i64 0, .int .i64 0, .int .i64 0, .int .i64 0], (.struct [(0, 3), (1, 3), (2, 3), (3, 3), (4, 3), (5, 3), (6, 3), (7, 3), (8, 3)]), some .cfg⟩),
  (25, ⟨1, 24, [.nils], (.slice 40), some (.sl .ent)⟩),
  (34, ⟨1, 24, [.nils], (.slice 44), some (.sl .don)⟩),
  (39, ⟨5, 40, [.int .i64 0, .int .i64 0, .int .i64 0, .int .i64 0, .int .i64 0], (.struct [(0, 3), (1, 3), (2, 3), (3, 3), (4, 3)]), none⟩),
  (40, ⟨5, 40, [.int .i64 0, .int .i64 0, .int .i64 0, .int .i64 0, .int .i64 0], (.struct [(0, 3), (1, 3), (2, 3), (3, 3), (4, 3)]), some .ent⟩),
  (41, ⟨3, 24, [.int .i64 0, .bool false, .int .i64 0], (.struct [(0, 3), (1, 4), (2, 2)]), none⟩),
  (42, ⟨3, 24, [.int .i64 0, .bool false, .int .i64 0], (.struct [(0, 3), (1, 4), (2, 2)]), some .opr⟩),
  (43, ⟨7, 56, [.int .i64 0, .int .i64 0, .int .i64 0, .bool false, .int .i64 0, .int .i64 0, .int .i64 0], (.struct [(0, 3), (1, 3), (2, 42), (5, 2), (6, 3)]), none⟩),
  (44, ⟨7, 56, [.int .i64 0, .int .i64 0, .int .i64 0, .bool false, .int .i64 0, .int .i64 0, .int .i64 0], (.struct [(0, 3), (1, 3), (2, 42), (5, 2), (6, 3)]), some .don⟩),
  (49, ⟨1, 24, [.nils], (.slice 9), some (.sl .str)⟩),
  (54, ⟨1, 24, [.nils], (.slice 3), some (.sl .int)⟩),
  (57, ⟨1, 8, [.nilp], (.ptr 60), none⟩),
  (58, ⟨1, 24, [.nils], (.slice 5), some (.sl .u8)⟩),
  (59, ⟨2, 32, [.nilp, .nils], (.struct [(0, 57), (1, 58)]), none⟩),
  (60, ⟨2, 32, [.nilp, .nils], (.struct [(0, 57), (1, 58)]), none⟩),
  (61, ⟨1, 16, [.ifz], .iface, none⟩),
  (62, ⟨1, 16, [.ifz], .iface, none⟩),
  (73, ⟨1, 8, [.nilp], (.ptr 5), none⟩),
  (76, ⟨1, 8, [.int .u64 0], (.int .u64), none⟩),
  (82, ⟨1, 8, [.int .u64 0], (.int .u64), none⟩),
  (91, ⟨1, 4, [.int .u32 0], (.int .u32), none⟩),
  (103, ⟨1, 8, [.nilp], (.ptr 115), none⟩),
  (107, ⟨2, 2, [.int .u8 0, .int .u8 0], (.struct [(0, 5), (1, 5)]), none⟩),
  (108, ⟨2, 2, [.int .u8 0, .int .u8 0], (.struct [(0, 5), (1, 5)]), none⟩),
  (114, ⟨3, 48, [.str ByteArray.empty, .str ByteArray.empty, .ifz], (.struct [(0, 9), (1, 9), (2, 62)]), none⟩),
  (115, ⟨3, 48, [.str ByteArray.empty, .str ByteArray.empty, .ifz], (.struct [(0, 9), (1, 9), (2, 62)]), none⟩),
  (120, ⟨1, 8, [.nilp], (.ptr 122), none⟩),
  (121, ⟨1, 16, [.str ByteArray.empty], (.struct [(0, 9)]), none⟩),
  (122, ⟨1, 16, [.str ByteArray.empty], (.struct [(0, 9)]), none⟩),
  (123, ⟨4, 40, [.nilp, .nilp, .nilp, .str ByteArray.empty], (.struct [(0, 17), (1, 17), (2, 17), (3, 9)]), none⟩)]
def qtbl : List (Nat × List FK) := [
  (24, [(.i .i64), (.i .i64), (.i .i64), (.i .i64), (.i .i64), (.i .i64), (.i .i64), (.i .i64), (.i .i64)]),
  (40, [(.i .i64), (.i .i64), (.i .i64), (.i .i64), (.i .i64)]),
  (42, [(.i .i64), .b, (.i .i64)]),
  (44, [(.i .i64), (.i .i64), (.i .i64), .b, (.i .i64), (.i .i64), (.i .i64)])]
theorem tbl_fits : tblFits Tryd.prog tbl = true := by kernel_rfl
theorem qtbl_fits : qFits Tryd.prog qtbl = true := by kernel_rfl
theorem mixedP : Tryd.prog.follows .mixedOrders = true := by kernel_rfl
def env (cs : List (Nat × Con)) : Env := ⟨lookTI tbl, lookQ qtbl, fun f args H => match lookC cs f with
  | some c => conD c args H
  | none => none, false⟩
/-- .. where a part of a slice of its own memory is but a view, or the slice itself, cut. -/
def envV (cs : List (Nat × Con)) : Env := { env cs with V := true }
/-- All these contracts hold. -/
def Cons (cs : List (Nat × Con)) : Prop := ∀ f c, lookC cs f = some c → c.Ok Tryd.prog f
theorem Cons.nil : Cons [] := fun f c h => by cases h
theorem Cons.cons {f : Nat} {c : Con} {cs : List (Nat × Con)} (h : c.Ok Tryd.prog f) (hs : Cons cs) : Cons ((f, c) :: cs) := fun g d hl => by
  rw [lookC, Bool.cond_eq_ite] at hl
  split at hl
  · rename_i e
    cases hl
    rw [← Nat.eq_of_beq_eq_true e]
    exact h
  · exact hs g d hl
theorem env_ok {cs : List (Nat × Con)} (h : Cons cs) : (env cs).Ok Tryd.prog := by
  refine ⟨fun t i hi => tblFits_ok tbl_fits hi, fun t ks hk => qFits_ok qtbl_fits hk, fun f args H r hr hn F φ w vs hR hv => ?_⟩
  have hr' : (match lookC cs f with | some c => conD c args H | none => none) = some r := hr
  split at hr'
  · rename_i c hc
    exact con_ok (h f c hc) (h f c hc).lt hr' hn hR hv
  · cases hr'
theorem envV_ok {cs : List (Nat × Con)} (h : Cons cs) : (envV cs).Ok Tryd.prog := ⟨(env_ok h).T, (env_ok h).Q, (env_ok h).K⟩
end Go.Proofs.YtpkidbhpfohopaaDoor

noncomputable section
namespace Go.Proofs.YtpkidbhpfohopaaDoor
open Go.RowKit
set_option linter.unusedVariables false
set_option linter.unusedSimpArgs false
theorem aTT {P : Prop} (h : P) : True ∧ (True → P) := ⟨trivial, fun _ => h⟩
theorem aTB {P : Prop} (h : P) : True ∧ (true = true → P) := ⟨trivial, fun _ => h⟩
theorem aT {P : Prop} (h : P) : True ∧ P := ⟨trivial, h⟩
theorem aB {P : Prop} (h : P) : true = true ∧ P := ⟨rfl, h⟩
theorem a11 {P Q : Prop} (h : P) : (true = true → P) ∧ (true = false → Q) := ⟨fun _ => h, fun h => (nomatch h)⟩
theorem a10 {P Q : Prop} (h : Q) : (true = false → P) ∧ (true = true → Q) := ⟨fun h => (nomatch h), fun _ => h⟩
theorem a01 {P Q : Prop} (h : Q) : (false = true → P) ∧ (false = false → Q) := ⟨fun h => (nomatch h), fun _ => h⟩
theorem a00 {P Q : Prop} (h : P) : (false = false → P) ∧ (false = true → Q) := ⟨fun _ => h, fun h => (nomatch h)⟩
theorem iTr {P : Prop} (h : P) : True → P := fun _ => h
theorem iB {P : Prop} (h : P) : true = true → P := fun _ => h
def hp0 : Heap := ⟨0, []⟩
def val1 : AV → Value
  | .int k n => .int k n
  | .bool b => .bool b
  | _ => undef
def valA : AV → Value
  | .agg cs => .agg (cs.map val1).toArray
  | a => val1 a
def valV : AV → Value
  | .tup l => .tuple (l.map valA).toArray
  | a => valA a
def plain1 : AV → Bool
  | .int _ _ => true
  | .bool _ => true
  | _ => false
def plainA : AV → Bool
  | .agg cs => cs.all plain1
  | a => plain1 a
def plainV : AV → Bool
  | .tup l => l.all plainA
  | a => plainA a
def okV : AV → Prop
  | .tup l => okAs l
  | a => okA a
theorem reps_plain {C : Cx} {az : List AV} {vs : List Value} (h : Reps C az vs) (hp : az.all plain1 = true) : vs = az.map val1 := by
  induction h with
  | nil => rfl
  | int a b h ih => simp only [List.all_cons, Bool.and_eq_true] at hp; rw [ih hp.2]; rfl
  | bool h ih => simp only [List.all_cons, Bool.and_eq_true] at hp; rw [ih hp.2]; rfl
  | str a h ih => simp [plain1] at hp
  | nilp h ih => simp [plain1] at hp
  | ptr a h ih => simp [plain1] at hp
  | nils h ih => simp [plain1] at hp
  | slc a h ih => simp [plain1] at hp
  | nilm h ih => simp [plain1] at hp
  | ifz h ih => simp [plain1] at hp
  | ifn h ih => simp [plain1] at hp
  | hdl a h ih => simp [plain1] at hp
  | vsl ws a b c d h ih1 ih2 => simp [plain1] at hp
  | arr a b h ih1 ih2 => simp [plain1] at hp
  | fn h ih => simp [plain1] at hp
  | vptr ws a b c d h ih1 ih2 => simp [plain1] at hp
theorem plain_reps {C : Cx} : ∀ {az : List AV}, az.all plain1 = true → okLs az → Reps C az (az.map val1)
  | [], _, _ => .nil
  | a :: az, hp, ho => by
    simp only [List.all_cons, Bool.and_eq_true] at hp
    cases a with
    | int k n =>
      obtain ⟨h1, h2⟩ := ho
      have := okN_iff.1 h1
      exact .int this.1 this.2 (plain_reps hp.2 h2)
    | bool b => exact .bool (plain_reps hp.2 ho)
    | _ => simp [plain1] at hp
theorem rv1_plain {C : Cx} {a : AV} {v : Value} (h : RV1 C a v) (hp : plainA a = true) : v = valA a := by
  cases a with
  | agg cs =>
    obtain ⟨vs, rfl, hr⟩ := h
    rw [reps_plain hr hp]; rfl
  | int k n => have := reps_plain (az := [.int k n]) h rfl; simpa [val1, valA] using this
  | bool b => have := reps_plain (az := [.bool b]) h rfl; simpa [val1, valA] using this
  | _ => simp [plainA, plain1] at hp
theorem plain_rv1 {C : Cx} {a : AV} (hp : plainA a = true) (ho : okA a) : RV1 C a (valA a) := by
  cases a with
  | agg cs => exact ⟨_, rfl, plain_reps hp ho⟩
  | int k n => exact plain_reps (az := [.int k n]) rfl ho
  | bool b => exact plain_reps (az := [.bool b]) rfl ho
  | _ => simp [plainA, plain1] at hp
theorem rvs_plain {C : Cx} : ∀ {az : List AV} {vs : List Value}, RVs C az vs → az.all plainA = true → vs = az.map valA
  | [], [], _, _ => rfl
  | a :: az, v :: vs, h, hp => by
    simp only [List.all_cons, Bool.and_eq_true] at hp
    rw [rv1_plain h.1 hp.1, rvs_plain h.2 hp.2]; rfl
  | [], _ :: _, h, _ => h.elim
  | _ :: _, [], h, _ => h.elim
theorem plain_rvs {C : Cx} : ∀ {az : List AV}, az.all plainA = true → okAs az → RVs C az (az.map valA)
  | [], _, _ => trivial
  | a :: az, hp, ho => by
    simp only [List.all_cons, Bool.and_eq_true] at hp
    exact ⟨plain_rv1 hp.1 ho.1, plain_rvs hp.2 ho.2⟩
theorem plain_rv {C : Cx} {a : AV} (hp : plainV a = true) (ho : okV a) : RV C a (valV a) := by
  cases a with
  | tup l => exact ⟨_, rfl, plain_rvs hp ho⟩
  | agg cs => exact plain_rv1 (a := .agg cs) hp ho
  | int k n => exact plain_rv1 (a := .int k n) hp ho
  | bool b => exact plain_rv1 (a := .bool b) hp ho
  | _ => simp [plainV, plainA, plain1] at hp
theorem con_of_calls {P : Program} {f : FuncId} {fn : Func} {code : Code} (hf : P.funcs[f]? = some fn) (hname : (fn.name == "runtime.NumGoroutine") = false) (hb : fn.body = some code) (c : Con)
    (hh : ∀ x, c.heap x = hp0 ∧ c.heap' x = hp0) (hpl : ∀ x, (c.args x).all plainA = true) (hr : ∀ x, c.pre x → okAs (c.args x) → plainV (c.res x) = true ∧ okV (c.res x))
    (calls : ∀ x w, c.pre x → okAs (c.args x) → Calls P f ((c.args x).map valA).toArray w fun e w' => e = .returned (valV (c.res x)) ∧ Below w.heap.size w w') : c.Ok P f := by
  have hno : ∀ x id k, (c.heap x).get id = some k → False := fun x id k h => by
    rw [(hh x).1] at h
    cases h
  refine ⟨fun args w => Go.MuLone.run_callFunc_enter hf hname hb args w, fun x id k h => (hno x id k h).elim, fun _ x => ⟨by rw [(hh x).1, (hh x).2], fun id k h => (hno x id k h).elim⟩, fun x hpre F φ w vs hR hv => ?_⟩
  have e := rvs_plain hv (hpl x)
  have ho := okAs_of hv
  subst e
  refine (calls x w hpre ho).mono fun e w' ⟨he, hbl⟩ => ?_
  obtain ⟨g1, g2⟩ := hR.below hbl
  obtain ⟨h1, h2⟩ := hr x hpre ho
  refine ⟨_, he, φ, plain_rv h1 h2, ?_, ?_⟩
  · show Rel F φ (c.heap' x) w'
    rw [(hh x).2, ← (hh x).1]; exact g1
  · show Ext F φ (c.heap x) w φ (c.heap' x) w'
    rw [(hh x).2, ← (hh x).1]; exact g2
end Go.Proofs.YtpkidbhpfohopaaDoor
