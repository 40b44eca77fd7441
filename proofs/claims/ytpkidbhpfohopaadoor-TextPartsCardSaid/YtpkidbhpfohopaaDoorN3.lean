/- Layer 24: contracts of strings.Builder: copyCheck and String by hand, WriteString by the engine. -/
import Derived.Test.YtpkidbhpfohopaaDoorN2
import Derived.Shelf.Strings.BuilderK
noncomputable section
namespace Go.Proofs.YtpkidbhpfohopaaDoor
open Go.RowKit Go.Shelf
set_option linter.unusedVariables false
set_option linter.unusedSimpArgs false
def bstL_ren : Go.Shelf.Ren := ⟨fun | 169 => 27 | n => n, fun | 70 => 57 | 9 => 9 | 0 => 0 | 72 => 60 | 37 => 58 | 127 => 73 | 3 => 3 | 5 => 5 | n => n, fun | n => n⟩
theorem bstL : Go.Proofs.Lays.n169 Tryd.prog bstL_ren := {
  mixed := by kernel_rfl
  f169 := Tryd.func27.trans (congrArg some (by kernel_rfl))
  t0 := Tryd.underlying0
  a0 := Tryd.isAgg0
  z0 := Tryd.sizeOf0
  v0 := Tryd.zeroValue0
  t3 := Tryd.underlying3
  a3 := Tryd.isAgg3
  z3 := Tryd.sizeOf3
  v3 := Tryd.zeroValue3
  t9 := Tryd.underlying9
  a9 := Tryd.isAgg9
  z9 := Tryd.sizeOf9
  v9 := Tryd.zeroValue9
  t37 := Tryd.underlying58
  a37 := Tryd.isAgg58
  z37 := Tryd.sizeOf58
  v37 := Tryd.zeroValue58
  t70 := Tryd.underlying57
  a70 := Tryd.isAgg57
  z70 := Tryd.sizeOf57
  v70 := Tryd.zeroValue57
  t72 := Tryd.underlying60
  a72 := Tryd.isAgg60
  z72 := Tryd.sizeOf60
  v72 := Tryd.zeroValue60
  t127 := Tryd.underlying73
  a127 := Tryd.isAgg73
  z127 := Tryd.sizeOf73
  v127 := Tryd.zeroValue73 }
/-! ### copyCheck -/
theorem bSize : (Tryd.prog.info? 60).map (·.size) = some 2 := by kernel_rfl
theorem bLies : liesAt Tryd.prog Tryd.prog.depth 60 (2 / Tryd.prog.cellsOf 60) 0 60 1 = true := by kernel_rfl
theorem mixedN : Tryd.prog.follows .mixedOrders = true := by kernel_rfl
set_option maxHeartbeats 1000000 in
set_option maxRecDepth 100000 in
theorem cc_used (b : Nat) (w : World) (h0 : w.cell? ⟨b, 0, none⟩ = some (.pointer (some ⟨b, 0, none⟩))) :
    Calls Tryd.prog 36 #[.pointer (some ⟨b, 0, none⟩)] w fun e w' => e = .returned (.tuple #[]) ∧ w' = w := by
  obtain ⟨j, hj, _⟩ := Option.map_eq_some_iff.1 bSize
  have mixed := mixedN
  go_enter Tryd.func36, Tryd.ntmps36
  go_wp2
  rw [Lib.run_neq_ptr_same w _ Tryd.underlying57 hj]
  go_wp2
  go_end0
  exact ⟨rfl, rfl⟩
set_option maxHeartbeats 1000000 in
set_option maxRecDepth 100000 in
theorem cc_fresh (b : Nat) (w : World) (h0 : w.cell? ⟨b, 0, none⟩ = some (.pointer none)) (hsh : w.shape? b = some (60, 2)) (hfz : w.frozen? ⟨b, 0, none⟩ = false) :
    Calls Tryd.prog 36 #[.pointer (some ⟨b, 0, none⟩)] w fun e w' => e = .returned (.tuple #[]) ∧ w' = w.setCell ⟨b, 0, none⟩ (.pointer (some ⟨b, 0, none⟩)) := by
  obtain ⟨j, hj, hjs⟩ := Option.map_eq_some_iff.1 bSize
  have mixed := mixedN
  go_enter Tryd.func36, Tryd.ntmps36
  go_wp2
  rw [Lib.run_to_unsafe w ⟨b, 0, none⟩ Tryd.underlying57 Tryd.underlying77 hj (by rw [hjs]; decide) hsh (Nat.zero_lt_succ 1)]
  simp only [Result.andThen]
  rw [Oper.upon_value]
  go_wp2
  rw [run_callFunc_extern Tryd.func43 (by kernel_rfl) (by kernel_rfl) (by kernel_rfl) (e := Extern.AbiNoEscape.same) (by kernel_rfl)]
  rw [Lib.run_noEscape]
  simp only [Result.andThen]
  rw [Oper.upon_value]
  go_wp2
  rw [Lib.run_from_unsafe w ⟨b, 0, none⟩ Tryd.underlying77 Tryd.underlying57 hj hsh bLies]
  simp only [Result.andThen]
  rw [Oper.upon_value]
  go_wp2
  go_end0
  exact ⟨rfl, rfl⟩
/-! ### String, with the world written out -/
section
variable {P : Program} {ρ : Ren}
set_option maxHeartbeats 1000000 in
set_option maxRecDepth 100000 in
theorem bst_row (L : Lays.n169 P ρ) (hc : P.cellsOf (ρ.t 5) = 1) {b g cap : Nat} {p : Value} {cur : Array Value} {l : List UInt8} (w : World) (h0 : l ≠ []) (hb : w.heap[b]? = some (.cells #[p, .slice (some ⟨g, 0, none⟩) l.length cap] (ρ.t 72) (0, 0))) (hg : w.heap[g]? = some (.cells cur (ρ.t 5) (0, 0)))
    (hcap : l.length ≤ cap) (hcur : cur.size = cap) (hm : cap ≤ maxLen) (hcell : ∀ (j : Nat) (x : UInt8), l[j]? = some x → w.cell? ((⟨g, 0, none⟩ : Addr).add j) = some (.int .u8 x.toNat)) :
    Calls P (ρ.f 169) #[.pointer (some ⟨b, 0, none⟩)] w fun e w' => e = .returned (.string ⟨l.toArray⟩) ∧ w' = w.drew.freeze ⟨g, 0, none⟩ l.length := by
  have hl0 : l.length ≠ 0 := by simpa using h0
  have c1 : w.drew.cell? ⟨b, 1, none⟩ = some (.slice (some ⟨g, 0, none⟩) l.length cap) := by
    have : w.drew.heap[b]? = some (.cells #[p, .slice (some ⟨g, 0, none⟩) l.length cap] (ρ.t 72) (0, 0)) := hb
    rw [Lib.cell_of_heap this]; rfl
  have hSD : (Builtin.unsafeSliceData_ #[(ρ.t 37)] (ρ.t 127) #[.slice (some ⟨g, 0, none⟩) l.length cap]).run P w.drew = .ok (.pointer (some ⟨g, 0, none⟩)) w.drew :=
    Lib.run_unsafeSliceData_row _ _ _ _ _ _ (by omega)
  have hUS : (Builtin.unsafeString_ #[(ρ.t 127), (ρ.t 3)] (ρ.t 9) #[.pointer (some ⟨g, 0, none⟩), .int .i64 l.length]).run P w.drew = .ok (.string ⟨l.toArray⟩) (w.drew.freeze ⟨g, 0, none⟩ l.length) :=
    Lib.run_unsafeString_row w.drew (ρ.t 127) (ρ.t 3) (ρ.t 9) (ρ.t 5) L.t127 hc g cur.size (by have hg' : w.drew.heap[g]? = some (.cells cur (ρ.t 5) (0, 0)) := hg; simp [World.shape?, hg']) l h0 (by omega) (by unfold maxLen at hm; omega) hcell
  have mixed := L.mixed
  have t72 := L.t72; have a72 := L.a72; have z72 := L.z72; have v72 := L.v72; have u72 := run_underlying L.t72
  have t70 := L.t70; have a70 := L.a70; have z70 := L.z70; have v70 := L.v70; have u70 := run_underlying L.t70
  have t37 := L.t37; have a37 := L.a37; have z37 := L.z37; have v37 := L.v37; have u37 := run_underlying L.t37
  have t127 := L.t127; have a127 := L.a127; have z127 := L.z127; have v127 := L.v127; have u127 := run_underlying L.t127
  have t3 := L.t3; have a3 := L.a3; have z3 := L.z3; have v3 := L.v3; have u3 := run_underlying L.t3
  have t9 := L.t9; have a9 := L.a9; have z9 := L.z9; have v9 := L.v9; have u9 := run_underlying L.t9
  go_enter L.f169, Body.n169_ntmps ρ
  go_wp2
  go_region_o
  all_goals (go_wp2; go_ret; exact ⟨rfl, rfl⟩)
set_option maxHeartbeats 1000000 in
set_option maxRecDepth 100000 in
theorem bst_nil (L : Lays.n169 P ρ) {b : Nat} {p : Value} (w : World) (hb : w.heap[b]? = some (.cells #[p, .slice none 0 0] (ρ.t 72) (0, 0))) :
    Calls P (ρ.f 169) #[.pointer (some ⟨b, 0, none⟩)] w fun e w' => e = .returned (.string ⟨#[]⟩) ∧ w' = w.drew := by
  have hUS : ∀ (W : World) (q : Option Addr), (Builtin.unsafeString_ #[(ρ.t 127), (ρ.t 3)] (ρ.t 9) #[.pointer q, .int .i64 0]).run P W = .ok (.string .empty) W := fun W q => Lib.run_unsafeString_none W _ _ _ q
  have c1 : w.drew.cell? ⟨b, 1, none⟩ = some (.slice none 0 0) := by
    have : w.drew.heap[b]? = some (.cells #[p, .slice none 0 0] (ρ.t 72) (0, 0)) := hb
    rw [Lib.cell_of_heap this]; rfl
  have hSD : (Builtin.unsafeSliceData_ #[(ρ.t 37)] (ρ.t 127) #[.slice none 0 0]).run P w.drew = .ok (.pointer none) w.drew := rfl
  have mixed := L.mixed
  have t72 := L.t72; have a72 := L.a72; have z72 := L.z72; have v72 := L.v72; have u72 := run_underlying L.t72
  have t70 := L.t70; have a70 := L.a70; have z70 := L.z70; have v70 := L.v70; have u70 := run_underlying L.t70
  have t37 := L.t37; have a37 := L.a37; have z37 := L.z37; have v37 := L.v37; have u37 := run_underlying L.t37
  have t127 := L.t127; have a127 := L.a127; have z127 := L.z127; have v127 := L.v127; have u127 := run_underlying L.t127
  have t3 := L.t3; have a3 := L.a3; have z3 := L.z3; have v3 := L.v3; have u3 := run_underlying L.t3
  have t9 := L.t9; have a9 := L.a9; have z9 := L.z9; have v9 := L.v9; have u9 := run_underlying L.t9
  go_enter L.f169, Body.n169_ntmps ρ
  go_wp2
  go_region_o
  all_goals (go_wp2; go_ret; exact ⟨rfl, rfl⟩)
end
/-! ### what a builder is -/
abbrev bT : Option Nat := some 60
def bldH : Option (List Int) → Heap
  | none => ⟨1, [(0, some (.objT false bT [.nilp, .nils]))]⟩
  | some xs => ⟨2, [(1, some (.seq false 5 .u8 xs)), (0, some (.objT false bT [.ptr 0 p0, .slc 1]))]⟩
def bldF (H : Heap) (id : Nat) : Option (Option (List Int)) :=
  match H.get id with
  | some (.objT _ _ [_, .slc j]) => match H.get j with
    | some (.seq _ _ .u8 xs) => some (some xs)
    | _ => none
  | some (.objT _ _ _) => some none
  | _ => none
theorem bldH_lt : ∀ (o : Option (List Int)) (id : Nat) (k : Blk), (bldH o).get id = some k → id < (bldH o).n
  | none, 0, _, h => Nat.zero_lt_one
  | none, _ + 1, _, h => by cases h
  | some _, 0, _, h => Nat.zero_lt_two
  | some _, 1, _, h => Nat.one_lt_two
  | some _, _ + 2, _, h => by cases h
def cCC : Con where
  X := Option (List Int)
  args := fun _ => [.ptr 0 p0]
  heap := fun o => bldH o
  pre := fun _ => True
  res := fun _ => .tup []
  heap' := fun o => match o with
    | none => ⟨1, [(0, some (.objT false bT [.ptr 0 p0, .nils])), (0, some (.objT false bT [.nilp, .nils]))]⟩
    | some xs => bldH (some xs)
  pure := false
  find := fun args H => match args with
    | [.ptr id _] => bldF H id
    | _ => none
theorem cCC_ok : cCC.Ok Tryd.prog 36 := by
  refine ⟨Go.MuLone.run_callFunc_enter Tryd.func36 (by decide) rfl, bldH_lt, fun h => (by cases h), fun (o : Option (List Int)) hp F φ w vs hR hv => ?_⟩
  match vs, hv with
  | [v1], hv =>
    obtain ⟨rfl, -⟩ := rv_ptr_inv (rv_of_rv1 hv.1)
    match o, hR with
    | none, hR =>
      have hg : (cCC.heap none).get 0 = some (.objT false bT [.nilp, .nils]) := rfl
      obtain ⟨hn, cs, e, hb, hr⟩ := hR.blk 0 _ hg
      have hcs : cs = #[.pointer none, .slice none 0 0] := by
        have : cs.toList = [.pointer none, .slice none 0 0] := by
          generalize cs.toList = l at hr
          cases hr with
          | nilp h => cases h with
            | nils h => rw [h.nil_inv]
        rw [← Array.toArray_toList (xs := cs), this]
      subst hcs
      have hb : w.heap[(φ 0).blk]? = some (.cells #[.pointer none, .slice none 0 0] 60 (0, 0)) := hb
      refine (cc_fresh (φ 0).blk w (by simp [World.cell?, hb]) (by simp [World.shape?, hb]) (by simp [World.frozen?, hb])).mono fun e' w' ⟨h3, h4⟩ => ⟨_, h3, ?_⟩
      have hw : w'.heap[(φ 0).blk]? = some (.cells #[.pointer (some ⟨(φ 0).blk, 0, none⟩), .slice none 0 0] 60 (0, 0)) := by
        subst h4
        simp [World.setCell, Array.getElem?_modify, hb]
      obtain ⟨r1, r2⟩ := Rel.upd (w' := w') hR (.objT false bT [.ptr 0 p0, .nils]) hg rfl rfl hn (by subst h4; simp [World.setCell]) (fun b _ hne => by subst h4; exact Below.heap_setCell _ _ _ _ hne) (fun le => by
        refine ⟨hn, _, 0, hw, ?_⟩
        exact Reps.ptr (C := cx F φ ((cCC.heap none).put 0 (some (.objT false bT [.ptr 0 p0, .nils]))) w') (id := 0) (p := p0) Nat.zero_lt_one (Reps.nils .nil)) (by subst h4; rfl) (by subst h4; rfl) (by subst h4; rfl)
      exact ⟨φ, ⟨[], rfl, trivial⟩, r1, r2⟩
    | some xs, hR =>
      have hg : (cCC.heap (some xs)).get 0 = some (.objT false bT [.ptr 0 p0, .slc 1]) := rfl
      obtain ⟨hn, cs, e, hb, hr⟩ := hR.blk 0 _ hg
      have hc0 : w.cell? ⟨(φ 0).blk, 0, none⟩ = some (.pointer (some ⟨(φ 0).blk, 0, none⟩)) := by
        have : cs.toList[0]? = some (.pointer (some ⟨(φ 0).blk, 0, none⟩)) := by
          generalize cs.toList = l at hr
          cases hr with
          | ptr a h => rfl
        have hb : w.heap[(φ 0).blk]? = some (.cells cs (tyOf bT e) (0, 0)) := hb
        rw [Lib.cell_of_heap hb, ← Array.getElem?_toList]
        exact this
      refine (cc_used (φ 0).blk w hc0).mono fun e' w' ⟨h3, h4⟩ => ⟨_, h3, ?_⟩
      subst h4
      exact ⟨φ, ⟨[], rfl, trivial⟩, hR, Ext.refl _ _ _ _⟩
def cBst : Con where
  X := Option (List Int)
  args := fun _ => [.ptr 0 p0]
  heap := fun o => bldH o
  pre := fun o => match o with
    | none => True
    | some xs => xs ≠ []
  res := fun o => match o with
    | none => .str ByteArray.empty
    | some xs => .str (strU xs)
  heap' := fun o => match o with
    | none => ⟨1, []⟩
    | some _ => ⟨2, []⟩
  pure := false
  find := fun args H => match args with
    | [.ptr id _] => bldF H id
    | _ => none
theorem rel_gone {F : Nat → Prop} {φ : Nat → RS} {H : Heap} {w w' : World} (hR : Rel F φ H w) (hs : w'.heap.size = w.heap.size) (hk : ∀ b, ¬ Wr φ H b → w'.heap[b]? = w.heap[b]?) (hro : ∀ id k, H.get id = some k → k.ro = false) (ho : w'.os = w.os) (ht : w'.tape = w.tape) (hp : w'.output = w.output) : Rel F φ ⟨H.n, []⟩ w' ∧ Ext F φ H w φ ⟨H.n, []⟩ w' :=
  Rel.gen (φ' := φ) (H' := ⟨H.n, []⟩) hR (fun id k h => by cases h) (Nat.le_refl _) (fun _ _ => rfl) (Nat.le_of_eq hs.symm) (fun b _ h => hk b h) (fun b _ _ ⟨id, k, h, _⟩ => by cases h) (fun b _ _ ⟨id, k, h, _⟩ => by cases h)
    (fun id k h hr => by rw [hro id k h] at hr; cases hr) (fun le id k h => by cases h) (fun id id' k k' h => by cases h) (fun id k h => by cases h) ho ht hp
theorem cBst_ok : cBst.Ok Tryd.prog 27 := by
  refine ⟨Go.MuLone.run_callFunc_enter Tryd.func27 (by decide) rfl, bldH_lt, fun h => (by cases h), fun (o : Option (List Int)) hp F φ w vs hR hv => ?_⟩
  match vs, hv with
  | [v1], hv =>
    obtain ⟨rfl, -⟩ := rv_ptr_inv (rv_of_rv1 hv.1)
    match o, hR, hp with
    | none, hR, hp =>
      have hg : (cBst.heap none).get 0 = some (.objT false bT [.nilp, .nils]) := rfl
      obtain ⟨hn, cs, e, hb, hr⟩ := hR.blk 0 _ hg
      have hcs : cs = #[.pointer none, .slice none 0 0] := by
        have : cs.toList = [.pointer none, .slice none 0 0] := by
          generalize cs.toList = l at hr
          cases hr with
          | nilp h => cases h with
            | nils h => rw [h.nil_inv]
        rw [← Array.toArray_toList (xs := cs), this]
      subst hcs
      refine (bst_nil bstL w hb).mono fun e' w' ⟨h3, h4⟩ => ⟨_, h3, ?_⟩
      subst h4
      obtain ⟨r1, r2⟩ := rel_gone (w' := w.drew) hR rfl (fun _ _ => rfl) (fun id k h => by
        match id, h with
        | 0, h => cases h; rfl
        | _ + 1, h => cases h) rfl rfl rfl
      exact ⟨φ, rv_str (by decide), r1, r2⟩
    | some xs, hR, hp =>
      replace hp : xs ≠ [] := hp
      have hg : (cBst.heap (some xs)).get 0 = some (.objT false bT [.ptr 0 p0, .slc 1]) := rfl
      have hg1 : (cBst.heap (some xs)).get 1 = some (.seq false 5 .u8 xs) := rfl
      obtain ⟨hn, cs, e, hb, hr⟩ := hR.blk 0 _ hg
      obtain ⟨hl, hnn, us, hus, hown⟩ := hR.blk 1 _ hg1
      have hcs : cs = #[.pointer (some ⟨(φ 0).blk, 0, none⟩), (φ 1).sl] := by
        have : cs.toList = [.pointer (some ⟨(φ 0).blk, 0, none⟩), (φ 1).sl] := by
          generalize cs.toList = l at hr
          cases hr with
          | ptr a h => cases h with
            | slc a h => rw [h.nil_inv]; rfl
        rw [← Array.toArray_toList (xs := cs), this]
      subst hcs
      have hnil : (φ 1).nil = false := by
        cases e : (φ 1).nil with
        | false => rfl
        | true => exact absurd (hnn e) hp
      obtain ⟨hus, hrange⟩ := u8_reps xs us hus
      rcases hown.2 with ⟨h5, h6⟩ | ⟨g, cap, cur, h5, -, hgb, hnc, hcm, hcs, htk⟩
      · exact absurd (List.eq_nil_of_length_eq_zero h6) hp
      · have h7 : (φ 1).blk = g ∧ (φ 1).len = xs.length ∧ (φ 1).cap = cap := by
          simp only [RS.sl, hnil, Bool.false_eq_true, if_false, Value.slice.injEq, Option.some.injEq, Addr.mk.injEq, and_true] at h5
          exact h5
        obtain ⟨rfl, h8, rfl⟩ := h7
        have hlen : (xs.map fun n => UInt8.ofNat n.toNat).length = xs.length := by simp
        have hb' : w.heap[(φ 0).blk]? = some (.cells #[.pointer (some ⟨(φ 0).blk, 0, none⟩), .slice (some ⟨(φ 1).blk, 0, none⟩) (xs.map fun n => UInt8.ofNat n.toNat).length (φ 1).cap] 60 (0, 0)) := by
          rw [hlen, ← h5]
          exact hb
        refine (bst_row bstL (by kernel_rfl) w (by simpa using hp) hb' hgb (by rw [hlen]; exact hnc) (by rw [hcs]; exact Nat.mul_one _) hcm (fun j x hx => ?_)).mono fun e' w' ⟨h3, h4⟩ => ⟨_, h3, ?_⟩
        · have hj : j < xs.length := by rw [← hlen]; exact (List.getElem?_eq_some_iff.1 hx).1
          rw [List.getElem?_map, List.getElem?_eq_getElem hj] at hx
          have h4 := hrange _ (List.getElem_mem hj)
          have h6 := hown.cells (g := (φ 1).blk) (by rw [h5]; rfl) j (.int .u8 xs[j]) (by rw [hus, List.getElem?_map, List.getElem?_eq_getElem hj]; rfl)
          have h9 : ((x.toNat : Nat) : Int) = xs[j] := by
            rw [← Option.some.inj hx, UInt8.toNat_ofNat']
            omega
          rw [h9]
          exact h6
        · subst h4
          have hfr : ∀ b, b ≠ (φ 1).blk → (w.drew.freeze ⟨(φ 1).blk, 0, none⟩ (xs.map fun n => UInt8.ofNat n.toNat).length).heap[b]? = w.heap[b]? := fun b hne => by
            unfold World.freeze
            split
            · rfl
            · show (w.heap.modify _ _)[b]? = _
              rw [Array.getElem?_modify, if_neg (fun e => hne e.symm)]
          obtain ⟨r1, r2⟩ := rel_gone (w' := w.drew.freeze ⟨(φ 1).blk, 0, none⟩ (xs.map fun n => UInt8.ofNat n.toNat).length) hR (by unfold World.freeze; split <;> simp) (fun b hb => hfr b fun e => hb ⟨1, _, hg1, rfl, hnil, e.symm⟩) (fun id k h => by
            match id, h with
            | 0, h => cases h; rfl
            | 1, h => cases h; rfl
            | _ + 2, h => cases h) (by unfold World.freeze; split <;> rfl) (by unfold World.freeze; split <;> rfl) (by unfold World.freeze; split <;> rfl)
          refine ⟨φ, ?_, r1, r2⟩
          show RV _ (.str (strU xs)) _
          rw [strU_eq]
          refine rv_str ?_
          show (List.map _ xs).toArray.size ≤ _
          simp
          omega
/-! ### WriteString -/
def cWSn : Con where
  X := ByteArray
  args := fun x => [.ptr 0 p0, .str x]
  heap := fun x => ⟨1, [(0, some (.objT false bT [.nilp, .nils]))]⟩
  pre := fun x => x.size ≤ 1000000
  res := fun x => .tup [.int .i64 x.size, .ifz]
  heap' := fun x => ⟨2, [(1, some (.seq false 5 .u8 (bytesU x))), (0, some (.objT false bT [.ptr 0 p0, .slc 1]))]⟩
  pure := false
  find := fun args H => match args with
    | [.ptr id _, .str s] => some s
    | _ => none
def cWSu : Con where
  X := List Int × ByteArray
  args := fun x => [.ptr 0 p0, .str x.2]
  heap := fun x => ⟨2, [(1, some (.seq false 5 .u8 x.1)), (0, some (.objT false bT [.ptr 0 p0, .slc 1]))]⟩
  pre := fun x => x.2.size ≤ 1000000 ∧ x.1.length ≤ 1000000
  res := fun x => .tup [.int .i64 x.2.size, .ifz]
  heap' := fun x => ⟨3, [(2, some (.seq false 5 .u8 (x.1 ++ bytesU x.2))), (0, some (.objT false bT [.ptr 0 p0, .slc 2]))]⟩
  pure := false
  find := fun args H => match args with
    | [.ptr id _, .str s] => match bldF H id with
      | some (some xs) => some (xs, s)
      | _ => none
    | _ => none
set_option maxRecDepth 100000 in
set_option maxHeartbeats 4000000 in
theorem cWSn_ok : cWSn.Ok Tryd.prog 24 := by
  refine fun_ok (env_ok (Cons.cons cCC_ok Cons.nil)) mixedP Tryd.func24 (by decide) rfl cWSn [] (fun _ => rfl) (fun h => by cases h) (fun _ => Nat.le_of_ble_eq_true rfl) ?_
  rintro s hp ha hb
  replace hp : ByteArray.size s ≤ 1000000 := hp
  clear ha hb
  all_goals (repeat' (first
    | with_reducible refine iTr ?_
    | with_reducible refine iB ?_
    | intro _
    | exact True.intro
    | (show _ ∧ _
       first
        | refine aTT ?_
        | refine aTB ?_
        | refine aT ?_
        | refine aB ?_
        | refine a11 ?_
        | refine a01 ?_
        | refine a00 ?_
        | refine a10 ?_
        | (with_reducible refine And.intro rfl ?_)
        | refine And.intro ?_ ?_)
    | with_reducible exact rfl
    | with_reducible exact HEq.rfl
    | (show (_ : Option Nat) = _; exact rfl)
    | (show (_ : Option Blk) = _; exact rfl)
    | (with_reducible show (nodupB _ && _ && _ && _ && _) = true; exact (Eq.refl true))
    | (with_reducible show (nodupB _ && _ && _ && _) = true; exact (Eq.refl true))
    | (with_reducible show (nodupB _ && _ && _) = true; exact (Eq.refl true))
    | (with_reducible show freeOk _ _ = true; exact (Eq.refl true))
    | (with_reducible show wrOk _ _ _ _ _ = true; exact (Eq.refl true))
    | (show (_ : AV) = _; exact rfl)
    | (show (_ : ByteArray) = _; with_reducible exact rfl)
    | (show (_ : Heap) = _; exact rfl)
    | (with_reducible show (_ || !_) = true; exact (Eq.refl true))
    | (with_reducible show Nat.beq _ _ = true; exact (Eq.refl true))))
  all_goals (first | (show (_ : Int) = _) | (show (_ : Bool) = _) | (show (_ : ByteArray) = _) | (show HEq _ _) | (show ∃ _ : LInv, _) | skip)
  all_goals (try (with_reducible exact rfl))
  all_goals omega

set_option maxRecDepth 100000 in
set_option maxHeartbeats 4000000 in
theorem cWSu_ok : cWSu.Ok Tryd.prog 24 := by
  refine fun_ok (env_ok (Cons.cons cCC_ok Cons.nil)) mixedP Tryd.func24 (by decide) rfl cWSu [] (fun _ => rfl) (fun h => by cases h) (fun _ => Nat.le_of_ble_eq_true rfl) ?_
  rintro ⟨xs, s⟩ hp ha hb
  replace hp : ByteArray.size s ≤ 1000000 ∧ xs.length ≤ 1000000 := hp
  clear ha hb
  all_goals (repeat' (first
    | with_reducible refine iTr ?_
    | with_reducible refine iB ?_
    | intro _
    | exact True.intro
    | (show _ ∧ _
       first
        | refine aTT ?_
        | refine aTB ?_
        | refine aT ?_
        | refine aB ?_
        | refine a11 ?_
        | refine a01 ?_
        | refine a00 ?_
        | refine a10 ?_
        | (with_reducible refine And.intro rfl ?_)
        | refine And.intro ?_ ?_)
    | with_reducible exact rfl
    | with_reducible exact HEq.rfl
    | (show (_ : Option Nat) = _; exact rfl)
    | (show (_ : Option Blk) = _; exact rfl)
    | (with_reducible show (nodupB _ && _ && _ && _ && _) = true; exact (Eq.refl true))
    | (with_reducible show (nodupB _ && _ && _ && _) = true; exact (Eq.refl true))
    | (with_reducible show (nodupB _ && _ && _) = true; exact (Eq.refl true))
    | (with_reducible show freeOk _ _ = true; exact (Eq.refl true))
    | (with_reducible show wrOk _ _ _ _ _ = true; exact (Eq.refl true))
    | (show (_ : AV) = _; exact rfl)
    | (show (_ : ByteArray) = _; with_reducible exact rfl)
    | (show (_ : Heap) = _; exact rfl)
    | (with_reducible show (_ || !_) = true; exact (Eq.refl true))
    | (with_reducible show Nat.beq _ _ = true; exact (Eq.refl true))))
  all_goals (first | (show (_ : Int) = _) | (show (_ : Bool) = _) | (show (_ : ByteArray) = _) | (show HEq _ _) | (show ∃ _ : LInv, _) | skip)
  all_goals (try (with_reducible exact rfl))
  all_goals (dsimp only; omega)
def cWS : Con where
  X := Option (List Int) × ByteArray
  args := fun x => [.ptr 0 p0, .str x.2]
  heap := fun x => bldH x.1
  pre := fun x => x.2.size ≤ 1000000 ∧ (match x.1 with | none => True | some xs => xs.length ≤ 1000000)
  res := fun x => .tup [.int .i64 x.2.size, .ifz]
  heap' := fun x => match x.1 with
    | none => ⟨2, [(1, some (.seq false 5 .u8 (bytesU x.2))), (0, some (.objT false bT [.ptr 0 p0, .slc 1]))]⟩
    | some xs => ⟨3, [(2, some (.seq false 5 .u8 (xs ++ bytesU x.2))), (0, some (.objT false bT [.ptr 0 p0, .slc 2]))]⟩
  pure := false
  find := fun args H => match args with
    | [.ptr id _, .str s] => match bldF H id with
      | some o => some (o, s)
      | none => none
    | _ => none
theorem cWS_ok : cWS.Ok Tryd.prog 24 :=
  ⟨cWSn_ok.enter, fun x => bldH_lt x.1, fun h => (by cases h), fun x hp => match x, hp with
    | (none, s), hp => cWSn_ok.calls s hp.1
    | (some xs, s), hp => cWSu_ok.calls (xs, s) hp⟩
end Go.Proofs.YtpkidbhpfohopaaDoor
