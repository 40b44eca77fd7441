/- The engine: reading and writing places; types. No condition. -/
import Derived.Test.YtpjdicndjakeoaaE3
import Derived.Laws.CopyRow
import Derived.Laws.MakeOwn
namespace Go.Proofs.Ytpjdicndjakeoaa
open Go.RowKit
set_option linter.unusedVariables false
set_option linter.unusedSimpArgs false
inductive TK where
  | int (k : IntKind) | bool | str | ptr (e : Nat) | slice (e : Nat) | map (k e : Nat) | struct (fs : List (Nat × Nat)) | array (n e : Nat) | other
def TK.agg : TK → Bool
  | .struct _ | .array _ _ => true
  | _ => false
structure TI where
  n : Nat
  bytes : Nat
  zero : List AV
  k : TK
  ty : Option Ty
/-- The cells of a plain zero. -/
def zfit : Nat → List AV → List Value → Bool
  | _, [], [] => true
  | d + 1, .int k n :: as, .int k' n' :: vs => decide (k = k' ∧ n = 0 ∧ n' = 0) && zfit d as vs
  | d + 1, .bool b :: as, .bool b' :: vs => decide (b = b') && zfit d as vs
  | d + 1, .str s :: as, .string s' :: vs => decide (s.size = 0 ∧ s'.size = 0) && zfit d as vs
  | d + 1, .nilp :: as, .pointer none :: vs => zfit d as vs
  | d + 1, .nils :: as, .slice none 0 0 :: vs => zfit d as vs
  | d + 1, .nilm :: as, .map none :: vs => zfit d as vs
  | d + 1, .arr n t xs :: as, vs => decide (xs.length = n ∧ n * t.sz ≤ vs.length) && zfit d (xs.flatMap (enc t)) (vs.take (n * t.sz)) && zfit d as (vs.drop (n * t.sz))
  | _, _, _ => false
theorem zfit_ok {C : Cx} : ∀ (d : Nat) (as : List AV) (vs : List Value), zfit d as vs = true → Reps C as vs := by
  intro d as vs
  fun_induction zfit d as vs with
  | case1 => exact fun _ => .nil
  | case2 d k n as k' n' vs ih =>
    intro h
    simp only [Bool.and_eq_true, decide_eq_true_eq] at h
    obtain ⟨⟨rfl, rfl, rfl⟩, h⟩ := h
    exact .int (by cases k <;> decide) (by cases k <;> decide) (ih h)
  | case3 d b as b' vs ih =>
    intro h
    simp only [Bool.and_eq_true, decide_eq_true_eq] at h
    obtain ⟨rfl, h⟩ := h
    exact .bool (ih h)
  | case4 d s as s' vs ih =>
    intro h
    simp only [Bool.and_eq_true, decide_eq_true_eq] at h
    obtain ⟨⟨h1, h2⟩, h⟩ := h
    have : s = s' := by
      obtain ⟨x⟩ := s
      obtain ⟨y⟩ := s'
      simp only [ByteArray.size] at h1 h2
      rw [Array.eq_empty_of_size_eq_zero h1, Array.eq_empty_of_size_eq_zero h2]
    subst this
    exact .str (by rw [h1]; exact Nat.zero_le _) (ih h)
  | case5 d as vs ih => exact fun h => .nilp (ih h)
  | case6 d as vs ih => exact fun h => .nils (ih h)
  | case7 d as vs ih => exact fun h => .nilm (ih h)
  | case8 d n t xs as vs ih1 ih2 =>
    intro h
    simp only [Bool.and_eq_true, decide_eq_true_eq] at h
    obtain ⟨⟨⟨h1, h2⟩, h3⟩, h4⟩ := h
    have := Reps.arr (ih1 h3) h1 (ih2 h4)
    rwa [List.take_append_drop] at this
  | case9 => exact fun h => by cases h
/-- Is it a struct's or an array's value? -/
def aggV : Value → Bool
  | .agg _ => true
  | _ => false
structure TIok (P : Program) (t : Nat) (i : TI) : Prop where
  info : ∃ j z, P.info? t = some j ∧ j.size = i.n ∧ j.bytes = i.bytes ∧ j.zero = some z ∧ z.cells.size = i.n ∧ ∀ C, Reps C i.zero z.cells.toList
  shape : ∀ j z, P.info? t = some j → j.zero = some z → aggV z = i.k.agg
  und : ∃ d, P.underlying t = some d ∧ (match d with | .struct _ | .array _ _ => true | _ => false) = i.k.agg ∧
    (match i.k with
      | .int k => d = .int k
      | .bool => d = .bool
      | .str => d = .string
      | .ptr e => d = .pointer e
      | .slice e => d = .slice e
      | .map k e => d = .map k e
      | .struct fs => ∃ F, d = .struct F ∧ F.toList.map (fun f => (f.offset, f.type)) = fs
      | .array n e => d = .array n e
      | .other => True)
def TK.fit : TK → TypeDesc → Bool
  | .int k, .int k' => decide (k = k')
  | .bool, .bool => true
  | .str, .string => true
  | .ptr e, .pointer e' => Nat.beq e e'
  | .slice e, .slice e' => Nat.beq e e'
  | .map k e, .map k' e' => Nat.beq k k' && Nat.beq e e'
  | .struct fs, .struct F => decide (F.toList.map (fun f => (f.offset, f.type)) = fs)
  | .array n e, .array n' e' => Nat.beq n n' && Nat.beq e e'
  | _, _ => false
def tiFits (P : Program) (t : Nat) (i : TI) : Bool :=
  match P.info? t, P.underlying t with
  | some j, some d => Nat.beq j.size i.n && Nat.beq j.bytes i.bytes && (match j.zero with | some z => Nat.beq z.cells.size i.n && zfit 300 i.zero z.cells.toList && (aggV z == i.k.agg) | none => false) && i.k.fit d
  | _, _ => false
theorem tiFits_ok {P : Program} {t : Nat} {i : TI} (h : tiFits P t i = true) : TIok P t i := by
  unfold tiFits at h
  split at h
  · rename_i j d hj hd
    simp only [Bool.and_eq_true] at h
    obtain ⟨⟨⟨h1, h2⟩, h3⟩, h4⟩ := h
    split at h3
    · rename_i z hz
      simp only [Bool.and_eq_true] at h3
      refine ⟨⟨j, z, hj, Nat.eq_of_beq_eq_true h1, Nat.eq_of_beq_eq_true h2, hz, Nat.eq_of_beq_eq_true h3.1.1, fun C => zfit_ok _ _ _ h3.1.2⟩, fun j' z' hj' hz' => by
        rw [hj] at hj'; injection hj' with hj'; subst hj'; rw [hz] at hz'; injection hz' with hz'; subst hz'; exact eq_of_beq h3.2, ⟨d, hd, ?_, ?_⟩⟩
      · cases hk : i.k <;> cases d <;> rw [hk] at h4 <;> first | rfl | cases h4
      · cases hk : i.k <;> cases d <;> rw [hk] at h4 <;> first
          | (cases h4; done)
          | rfl
          | (simp only [TK.fit, decide_eq_true_eq] at h4; subst h4; rfl)
          | (simp only [TK.fit, decide_eq_true_eq] at h4; exact ⟨_, rfl, h4⟩)
          | (simp only [TK.fit, Bool.and_eq_true] at h4; rw [Nat.eq_of_beq_eq_true h4.1, Nat.eq_of_beq_eq_true h4.2])
          | (simp only [TK.fit] at h4; rw [Nat.eq_of_beq_eq_true h4])
    · cases h3
  · cases h
theorem Reps.one {C : Cx} {as : List AV} {vs : List Value} (h : Reps C as vs) : ∀ v ∈ vs, v.oneCell' = true := by
  induction h with
  | nil => simp
  | arr h hk h2 ih1 ih2 => intro v hv; rcases List.mem_append.1 hv with h | h; exact ih1 v h; exact ih2 v h
  | slc a h ih =>
    intro v hv
    rcases List.mem_cons.1 hv with rfl | h
    · unfold RS.sl; split <;> rfl
    · exact ih v h
  | @hdl k id as vs a h ih =>
    intro v hv
    rcases List.mem_cons.1 hv with rfl | h
    · cases k <;> rfl
    · exact ih v h
  | vsl ws a b c d h ih1 ih2 =>
    intro v hv
    rcases List.mem_cons.1 hv with rfl | h
    · rfl
    · exact ih2 v h
  | vptr ws a b c d h ih1 ih2 =>
    intro v hv
    rcases List.mem_cons.1 hv with rfl | h
    · rfl
    · exact ih2 v h
  | _ =>
    rename_i ih
    intro v hv
    rcases List.mem_cons.1 hv with rfl | h
    · rfl
    · exact ih v h
theorem flat_get {C : Cx} {t : Ty} : ∀ (xs : List t.den) (i : Nat) (us : List Value), i < xs.length → Reps C (xs.flatMap (enc t)) us →
    ∃ ws, Reps C (enc t (xs.getD i t.dflt)) ws ∧ ws.length = t.sz ∧ ws = (us.drop (i * t.sz)).take t.sz ∧ i * t.sz + t.sz ≤ us.length ∧ ∀ j v, ws[j]? = some v → us[i * t.sz + j]? = some v := by
  intro xs
  induction xs with
  | nil => intro i us h; simp at h
  | cons x xs ih =>
    intro i us h hr
    rw [List.flatMap_cons] at hr
    obtain ⟨u1, u2, rfl, h1, h2⟩ := Reps.append_inv hr
    have hl : u1.length = t.sz := by rw [h1.length, enc_cells]
    cases i with
    | zero =>
      refine ⟨u1, by simpa using h1, hl, ?_, by simp; omega, fun j v hv => ?_⟩
      · simp [← hl]
      · rw [Nat.zero_mul, Nat.zero_add, List.getElem?_append_left (List.getElem?_eq_some_iff.1 hv).1]
        exact hv
    | succ i =>
      obtain ⟨ws, h3, h4, h5, h6, h7⟩ := ih i u2 (by simpa using h) h2
      have e : (i + 1) * t.sz = u1.length + i * t.sz := by rw [Nat.succ_mul, hl]; omega
      refine ⟨ws, by simpa using h3, h4, ?_, by rw [List.length_append, e]; omega, fun j v hv => ?_⟩
      · rw [e, List.drop_length_add_append]
        exact h5
      · rw [e, Nat.add_assoc, List.getElem?_append_right (by omega), Nat.add_sub_cancel_left]
        exact h7 j v hv
theorem flat_set {C : Cx} {t : Ty} : ∀ (xs : List t.den) (i : Nat) (y : t.den) (us ws : List Value), i < xs.length → Reps C (xs.flatMap (enc t)) us → Reps C (enc t y) ws →
    Reps C ((xs.set i y).flatMap (enc t)) (spl us (i * t.sz) ws) := by
  have hlw : ∀ {y : t.den} {ws : List Value}, Reps C (enc t y) ws → ws.length = t.sz := fun h => by rw [h.length, enc_cells]
  unfold spl
  intro xs
  induction xs with
  | nil => intro i y us ws h; simp at h
  | cons x xs ih =>
    intro i y us ws h hr hw
    rw [List.flatMap_cons] at hr
    obtain ⟨u1, u2, rfl, h1, h2⟩ := Reps.append_inv hr
    have hl : u1.length = t.sz := by rw [h1.length, enc_cells]
    cases i with
    | zero =>
      simp only [List.set_cons_zero, List.flatMap_cons, Nat.zero_mul, List.take_zero, List.nil_append, Nat.zero_add]
      rw [hlw hw, ← hl, List.drop_left]
      exact Reps.append hw h2
    | succ i =>
      have e : (i + 1) * t.sz = u1.length + i * t.sz := by rw [Nat.succ_mul, hl]; omega
      simp only [List.set_cons_succ, List.flatMap_cons]
      rw [e, List.take_length_add_append, Nat.add_assoc, List.drop_length_add_append, List.append_assoc, List.append_assoc]
      refine Reps.append h1 ?_
      rw [← List.append_assoc]
      exact ih i y u2 ws (by simpa using h) h2 hw
/-! ### reading -/
def readIn (cs : List AV) (p : Path) (n : Nat) (pre : Prop) : Option (Prop × List AV) :=
  match p.j with
  | none => match dropC cs p.k with
    | some ds => match takeC ds n with
      | some es => some (pre, es)
      | none => none
    | none => none
  | some (j, s) => match dropC cs p.k with
    | some (.arr m t ys :: _) => bif Nat.beq n t.sz then (bif Nat.beq s t.sz then some (pre ∧ j < m, enc t (ys.getD j t.dflt)) else none) else none
    | _ => none
def readL (H : Heap) (id : Nat) (p : Path) (n : Nat) : Option (Prop × List AV) :=
  match H.get id with
  | some (.obj _ cs) => bif Nat.beq p.s 0 then readIn cs p n True else none
  | some (.seq _ e t xs) => bif Nat.beq p.s t.sz then readIn (enc t (xs.getD p.i t.dflt)) p n (p.i < xs.length) else none
  | _ => none
theorem readIn_ok {C : Cx} {cs : List AV} {p : Path} {n : Nat} {pre q : Prop} {es : List AV} {us : List Value} (h : readIn cs p n pre = some (q, es)) (hq : q) (hr : Reps C cs us) :
    pre ∧ ∃ vs, Reps C es vs ∧ vs.length = n ∧ p.inn + n ≤ us.length ∧ ∀ j v, vs[j]? = some v → us[p.inn + j]? = some v := by
  unfold readIn at h
  cases hj : p.j with
  | none =>
    simp only [hj] at h
    cases hd : dropC cs p.k with
    | none => simp only [hd, reduceCtorEq] at h
    | some ds =>
      simp only [hd] at h
      cases ht : takeC ds n with
      | none => simp only [ht, reduceCtorEq] at h
      | some es' =>
        simp only [ht, Option.some.injEq, Prod.mk.injEq] at h
        obtain ⟨rfl, rfl⟩ := h
        have h1 := dropC_spec _ _ _ _ hd hr
        obtain ⟨h2, h3, h4⟩ := takeC_spec _ _ _ _ ht h1
        rw [List.length_drop] at h4
        have hkl : p.k ≤ us.length := by rw [hr.length]; exact putC_spec.dropC_le _ _ _ hd
        refine ⟨hq, _, h2, by rw [h2.length, h3], by simp only [Path.inn, Path.jn, hj]; omega, fun j v hv => ?_⟩
        rw [List.getElem?_take] at hv
        split at hv
        · rw [List.getElem?_drop] at hv
          simpa [Path.inn, Path.jn, hj] using hv
        · cases hv
  | some js =>
    obtain ⟨j, s⟩ := js
    simp only [hj] at h
    split at h
    · rename_i m t ys rest hd
      cases e1 : Nat.beq n t.sz with
      | false => rw [e1] at h; cases h
      | true =>
        cases e2 : Nat.beq s t.sz with
        | false => rw [e1, e2] at h; cases h
        | true =>
          rw [e1, e2] at h
          simp only [cond_true, Option.some.injEq, Prod.mk.injEq] at h
          obtain ⟨rfl, rfl⟩ := h
          have en := Nat.eq_of_beq_eq_true e1
          have es := Nat.eq_of_beq_eq_true e2
          subst en es
          have h1 := dropC_spec _ _ _ _ hd hr
          obtain ⟨u1, u2, e3, h2, h3⟩ := h1.cons_inv
          have hkl : p.k ≤ us.length := by rw [hr.length]; exact putC_spec.dropC_le _ _ _ hd
          cases h2 with
          | arr h4 h5 h6 =>
            rename_i us' vs'
            have := h6.nil_inv
            subst this
            rw [List.append_nil] at e3
            obtain ⟨ws, h7, h8, h9, h10, h11⟩ := flat_get ys j us' (by omega) h4
            have hlen := congrArg List.length e3
            rw [List.length_drop, List.length_append] at hlen
            refine ⟨hq.1, ws, h7, h8, by simp only [Path.inn, Path.jn, hj]; omega, fun j' v hv => ?_⟩
            have := h11 j' v hv
            have hlt := (List.getElem?_eq_some_iff.1 this).1
            simp only [Path.inn, Path.jn, hj]
            rw [show p.k + j * t.sz + j' = p.k + (j * t.sz + j') from by omega, ← List.getElem?_drop, e3, List.getElem?_append_left hlt]
            exact this
    · cases h
section
variable {F : Nat → Prop} {φ : Nat → RS} {H : Heap} {w : World}
theorem readL_ok (hR : Rel F φ H w) {id : Nat} {p : Path} {n : Nat} {q : Prop} {es : List AV} (h : readL H id p n = some (q, es)) (hq : q) :
    (φ id).nil = false ∧ ∃ vs, Reps (cx F φ H w) es vs ∧ vs.length = n ∧ ∀ j v, vs[j]? = some v → w.cell? ⟨(φ id).blk, p.off + j, none⟩ = some v := by
  unfold readL at h
  split at h
  · rename_i ro cs hg
    cases e : Nat.beq p.s 0 with
    | false => rw [e] at h; cases h
    | true =>
      rw [e] at h
      obtain ⟨hn, us, el, hb, hr⟩ := hR.blk _ _ hg
      obtain ⟨-, vs, h1, h2, h3, h4⟩ := readIn_ok h hq hr
      have es0 := Nat.eq_of_beq_eq_true e
      refine ⟨hn, vs, h1, h2, fun j v hv => ?_⟩
      have : p.off = p.inn := by simp [Path.off, es0]
      show (cx F φ H w).w.cell? _ = _
      rw [this, blk_cell hb]
      have := h4 j v hv
      simpa using this
  · rename_i ro el t xs hg
    cases e : Nat.beq p.s t.sz with
    | false => rw [e] at h; cases h
    | true =>
      rw [e] at h
      obtain ⟨hl, hn, us, hr, ho⟩ := hR.blk _ _ hg
      have es0 := Nat.eq_of_beq_eq_true e
      by_cases hi : p.i < xs.length
      · obtain ⟨ws, g1, g2, g3, g4, g5⟩ := flat_get xs p.i us hi hr
        obtain ⟨-, vs, h1, h2, h3, h4⟩ := readIn_ok h hq g1
        have hnil : (φ id).nil = false := by
          cases hx : (φ id).nil with
          | false => rfl
          | true => rw [hn hx] at hi; simp at hi
        refine ⟨hnil, vs, h1, h2, fun j v hv => ?_⟩
        have hc := ho.cells (g := (φ id).blk) (by simp [RS.sl, hnil, Value.ownBlock]) _ v (g5 _ v (h4 j v hv))
        have ea : ((⟨(φ id).blk, 0, none⟩ : Addr).add (p.i * t.sz + (p.inn + j))) = ⟨(φ id).blk, p.off + j, none⟩ := by
          have : p.off + j = p.i * t.sz + (p.inn + j) := by simp [Path.off, es0]; omega
          rw [this, Addr.add_lit, Nat.zero_add]
        rwa [ea] at hc
      · exact absurd (readIn_pre h hq) hi
  · cases h
where
  readIn_pre {cs : List AV} {p : Path} {n : Nat} {pre q : Prop} {es : List AV} (h : readIn cs p n pre = some (q, es)) (hq : q) : pre := by
    unfold readIn at h
    split at h
    · split at h
      · split at h
        · simp only [Option.some.injEq, Prod.mk.injEq] at h
          obtain ⟨rfl, -⟩ := h
          exact hq
        · cases h
      · cases h
    · split at h
      · rename_i m t ys r hd
        simp only [Bool.cond_eq_ite] at h
        split at h
        · split at h
          · simp only [Option.some.injEq, Prod.mk.injEq] at h
            obtain ⟨rfl, -⟩ := h
            exact hq.1
          · cases h
        · cases h
      · cases h
end
end Go.Proofs.Ytpjdicndjakeoaa
