/- The engine: what storing, making, appending do to numbered blocks. No condition. -/
import Derived.Test.YtpjdicndjakeoaaE4
namespace Go.Proofs.Ytpjdicndjakeoaa
open Go.RowKit
set_option linter.unusedVariables false
set_option linter.unusedSimpArgs false
/-! ### writing in an element -/
def writeIn (cs : List AV) (p : Path) (bs : List AV) : Option (Prop × List AV) :=
  match p.j with
  | none => match putC cs p.k bs with
    | some ds => some (True, ds)
    | none => none
  | some (j, s) => match dropC cs p.k with
    | some (.arr m t ys :: _) => match dec t bs with
      | some y => bif Nat.beq s t.sz then (match putC cs p.k [.arr m t (ys.set j y)] with
        | some ds => some (j < m, ds)
        | none => none) else none
      | none => none
    | _ => none
theorem writeIn_ok {C : Cx} {cs bs ds : List AV} {p : Path} {q : Prop} {us ws : List Value} (h : writeIn cs p bs = some (q, ds)) (hq : q) (hr : Reps C cs us) (hw : Reps C bs ws) :
    Reps C ds (spl us p.inn ws) ∧ p.inn + ws.length ≤ us.length := by
  unfold writeIn at h
  cases hj : p.j with
  | none =>
    simp only [hj] at h
    split at h
    · rename_i ds' hp
      simp only [Option.some.injEq, Prod.mk.injEq] at h
      obtain ⟨rfl, rfl⟩ := h
      obtain ⟨h1, h2, -⟩ := putC_spec hp hr hw
      have e : p.inn = p.k := by simp [Path.inn, Path.jn, hj]
      rw [e]
      exact ⟨h1, h2⟩
    · cases h
  | some js =>
    obtain ⟨j, s⟩ := js
    simp only [hj] at h
    split at h
    · rename_i m t ys rest hd
      split at h
      · rename_i y hy
        simp only [Bool.cond_eq_ite] at h
        split at h
        · rename_i hs
          split at h
          · rename_i ds' hp
            simp only [Option.some.injEq, Prod.mk.injEq] at h
            obtain ⟨rfl, rfl⟩ := h
            have es := Nat.eq_of_beq_eq_true hs
            have h1 := dropC_spec _ _ _ _ hd hr
            obtain ⟨u1, u2, e3, h2, h3⟩ := h1.cons_inv
            have hkl : p.k ≤ us.length := by rw [hr.length]; exact putC_spec.dropC_le _ _ _ hd
            have hwy := dec_spec hy hw
            have hlw : ws.length = t.sz := by rw [hwy.length, enc_cells]
            cases h2 with
            | arr h4 h5 h6 =>
              rename_i us' vs'
              have := h6.nil_inv
              subst this
              rw [List.append_nil] at e3
              have hl' : us'.length = m * t.sz := by rw [h4.length, flat_cells, h5]
              have hset := flat_set ys j y us' ws (by omega) h4 hwy
              have hjm : j * t.sz + t.sz ≤ m * t.sz := by rw [← Nat.succ_mul]; exact Nat.mul_le_mul_right _ hq
              have hsl : (spl us' (j * t.sz) ws).length = us'.length := spl_length _ _ _ (by omega)
              obtain ⟨h7, h8, -⟩ := putC_spec hp hr (Reps.arr (C := C) hset (by rw [List.length_set]; exact h5) Reps.nil)
              rw [List.append_nil] at h7 h8
              have hlen := congrArg List.length e3
              rw [List.length_drop, List.length_append] at hlen
              have e4 : us' = (us.drop p.k).take (m * t.sz) := by rw [e3, List.take_left' (by omega)]
              have e5 : p.inn = p.k + j * t.sz := by simp [Path.inn, Path.jn, hj, es]
              rw [e4, spl_nest _ _ _ _ _ (by omega) (by omega)] at h7
              rw [e5]
              exact ⟨h7, by omega⟩
          · cases h
        · cases h
      · cases h
    · cases h
/-! ### a row of cells is written -/
section
variable {F : Nat → Prop} {φ : Nat → RS} {H : Heap} {w : World}
theorem setRow_facts (w : World) (g : Nat) (cs : Array Value) : (w.setRow g cs).os = w.os ∧ (w.setRow g cs).tape = w.tape ∧ (w.setRow g cs).output = w.output ∧ (w.setRow g cs).heap.size = w.heap.size ∧ ∀ b, b ≠ g → (w.setRow g cs).heap[b]? = w.heap[b]? :=
  ⟨rfl, rfl, rfl, by simp [World.setRow], fun b hb => setRow_other w g b cs hb⟩
/-- Into an object. -/
theorem store_obj (hR : Rel F φ H w) {id : Nat} {cs : List AV} (hg : H.get id = some (.obj false cs)) {p : Path} (hs : p.s = 0) {bs ds : List AV} {q : Prop} (h : writeIn cs p bs = some (q, ds)) (hq : q) {ws : List Value} (hw : Reps (cx F φ H w) bs ws) :
    ∃ cur e, w.heap[(φ id).blk]? = some (.cells cur e (0, 0)) ∧ p.off + ws.length ≤ cur.size ∧
      Rel F φ (H.put id (some (.obj false ds))) (w.setRow (φ id).blk (spl cur.toList p.off ws).toArray) ∧ Ext F φ H w φ (H.put id (some (.obj false ds))) (w.setRow (φ id).blk (spl cur.toList p.off ws).toArray) := by
  obtain ⟨hn, cur, e, hb, hr⟩ := hR.blk _ _ hg
  obtain ⟨h1, h2⟩ := writeIn_ok h hq hr hw
  have ho : p.off = p.inn := by simp [Path.off, hs]
  obtain ⟨f1, f2, f3, f4, f5⟩ := setRow_facts w (φ id).blk (spl cur.toList p.off ws).toArray
  refine ⟨cur, e, hb, by rw [ho]; simpa using h2, ?_⟩
  refine Rel.upd hR _ hg rfl rfl hn (Nat.le_of_eq f4.symm) (fun b _ hne => f5 b hne) (fun le => ?_) f1 f2 f3
  refine ⟨hn, _, e, setRow_heap w _ cur _ e _ hb, ?_⟩
  rw [ho] at le ⊢
  rw [List.toList_toArray]
  exact h1.mono le
theorem ownsRow_splice {w : World} {e sz n g cap : Nat} {us : List Value} (ho : w.ownsRow 0 e sz (.slice (some ⟨g, 0, none⟩) n cap) n us) {o : Nat} {ws : List Value} (hl : o + ws.length ≤ n * sz) :
    ∃ cur, w.heap[g]? = some (.cells cur e (0, 0)) ∧ o + ws.length ≤ cur.size ∧ (w.setRow g (spl cur.toList o ws).toArray).ownsRow 0 e sz (.slice (some ⟨g, 0, none⟩) n cap) n (spl us o ws) := by
  obtain ⟨h1, h2⟩ := ho
  rcases h2 with ⟨h, _⟩ | ⟨g', cap', cur, h, h3, hg, h4, h5, h6, h7⟩
  · cases h
  · simp only [Value.slice.injEq, Option.some.injEq, Addr.mk.injEq, and_true, true_and] at h
    obtain ⟨rfl, rfl⟩ := h
    have hle : n * sz ≤ cur.size := by rw [h6]; exact Nat.mul_le_mul_right _ h4
    have hcl : cur.toList.length = cur.size := Array.length_toList
    refine ⟨cur, hg, by omega, by rw [spl_length us _ _ (by omega), h1], .inr ⟨g, cap, _, rfl, h3, setRow_heap w g cur _ e _ hg, h4, h5, ?_, ?_⟩⟩
    · rw [List.size_toArray, spl_length cur.toList _ _ (by omega), Array.length_toList, h6]
    · rw [List.toList_toArray, spl_take cur.toList o (n * sz) ws (by omega) (by omega), h7]
/-- Into an element of a list. -/
theorem store_seq (hR : Rel F φ H w) {id : Nat} {e : Nat} {t : Ty} {xs : List t.den} (hg : H.get id = some (.seq false e t xs)) {p : Path} (hs : p.s = t.sz) {bs ds : List AV} {q : Prop} (hi : p.i < xs.length) (h : writeIn (enc t (xs.getD p.i t.dflt)) p bs = some (q, ds)) (hq : q)
    {y : t.den} (hy : dec t ds = some y) {ws : List Value} (hw : Reps (cx F φ H w) bs ws) :
    ∃ cur, w.heap[(φ id).blk]? = some (.cells cur e (0, 0)) ∧ p.off + ws.length ≤ cur.size ∧
      Rel F φ (H.put id (some (.seq false e t (xs.set p.i y)))) (w.setRow (φ id).blk (spl cur.toList p.off ws).toArray) ∧ Ext F φ H w φ (H.put id (some (.seq false e t (xs.set p.i y)))) (w.setRow (φ id).blk (spl cur.toList p.off ws).toArray) := by
  obtain ⟨hl, hn, us, hr, ho⟩ := hR.blk _ _ hg
  have hnil : (φ id).nil = false := by
    cases hx : (φ id).nil with
    | false => rfl
    | true => rw [hn hx] at hi; simp at hi
  obtain ⟨el, g1, g2, g3, g4, g5⟩ := flat_get xs p.i us hi hr
  obtain ⟨h1, h2⟩ := writeIn_ok h hq g1 hw
  have h3 := dec_spec hy h1
  have h4 := flat_set xs p.i y us _ hi hr h3
  have hoff : p.off = p.i * t.sz + p.inn := by simp [Path.off, hs]
  have hus : us.length = xs.length * t.sz := by rw [hr.length, flat_cells]
  rw [g3, spl_nest _ _ _ _ _ (by omega) (by omega), ← hoff] at h4
  have hsl : (φ id).sl = .slice (some ⟨(φ id).blk, 0, none⟩) xs.length (φ id).cap := by simp [RS.sl, hnil, hl]
  rw [hsl] at ho
  obtain ⟨cur, hc, hfit, ho'⟩ := ownsRow_splice (w := w) ho (o := p.off) (ws := ws) (by omega)
  obtain ⟨f1, f2, f3, f4, f5⟩ := setRow_facts w (φ id).blk (spl cur.toList p.off ws).toArray
  refine ⟨cur, hc, hfit, Rel.upd hR _ hg rfl rfl hnil (Nat.le_of_eq f4.symm) (fun b _ hne => f5 b hne) (fun le => ?_) f1 f2 f3⟩
  refine ⟨by rw [List.length_set]; exact hl, fun hx => (by rw [hnil] at hx; cases hx), _, h4.mono le, ?_⟩
  rw [hsl, List.length_set]
  exact ho'
/-! ### a block is written no more: its slice is a value -/
theorem Rel.dropR (h : Rel F φ H w) (id : Nat) : Rel F φ (H.put id none) w ∧ (cx F φ H w).Le (cx F φ (H.put id none) w) := by
  have old : ∀ j k', (H.put id none).get j = some k' → H.get j = some k' := fun j k' hg' => by
    by_cases e : j = id
    · subst e
      rw [Heap.get_put_same] at hg'
      cases hg'
    · rwa [Heap.get_put_ne _ _ e] at hg'
  have le : (cx F φ H w).Le (cx F φ (H.put id none) w) := ⟨fun _ _ => rfl, Nat.le_refl _, fun b hb hm => by
      rintro (⟨j, k, hj, r⟩ | hf)
      · exact hm (.inl ⟨j, k, old _ _ hj, r⟩)
      · exact hm (.inr hf), Nat.le_refl _, fun _ _ _ => rfl, fun b hb hm => by
      rintro ⟨j, k, hj, r⟩
      exact hm ⟨j, k, old _ _ hj, r⟩⟩
  exact ⟨⟨fun j k hj => h.lt _ _ (old _ _ hj), fun j k hj => (h.blk _ _ (old _ _ hj)).mono le (fun _ => rfl), fun j j' k k' hj hj' => h.inj _ _ _ _ (old _ _ hj) (old _ _ hj'), fun j k hj => h.forb _ _ (old _ _ hj), h.flt⟩, le⟩
theorem freeze_ok (hR : Rel F φ H w) {id : Nat} {ro : Bool} {e : Nat} {t : Ty} {xs : List t.den} (hg : H.get id = some (.seq ro e t xs)) :
    Reps (cx F φ (H.put id none) w) [.vsl t xs] [(φ id).sl] := by
  obtain ⟨hl, hn, us, hr, ho⟩ := hR.blk _ _ hg
  have le := (hR.dropR id).2
  have hrm := hr.mono le
  cases hx : (φ id).nil with
  | true =>
    have := hn hx
    subst this
    rw [show (φ id).sl = .slice none 0 0 from by simp [RS.sl, hx]]
    exact Reps.vsl (t := t) (xs := []) (fun _ => []) (Nat.le_refl _) ⟨Nat.zero_le _, fun _ => rfl⟩ (fun h => absurd h (by simp)) (fun i x h => by simp at h) .nil
  | false =>
    have hsl : (φ id).sl = .slice (some ⟨(φ id).blk, 0, none⟩) xs.length (φ id).cap := by simp [RS.sl, hx, hl]
    rw [hsl]
    rw [hsl] at ho
    have hcells := ho.cells (g := (φ id).blk) rfl
    have hcap : xs.length ≤ (φ id).cap ∧ (φ id).cap ≤ maxLen := by
      rcases ho.2 with ⟨h, _⟩ | ⟨g', cap', cur, h, h3, hg, h4, h5, h6, h7⟩
      · cases h
      · simp only [Value.slice.injEq, Option.some.injEq, Addr.mk.injEq, and_true, true_and] at h
        obtain ⟨-, rfl⟩ := h
        exact ⟨h4, h5⟩
    have hsz : us.length = xs.length * t.sz := by rw [hr.length, flat_cells]
    refine Reps.vsl (fun i => (us.drop (i * t.sz)).take t.sz) hcap.1 ⟨hcap.2, fun h => by cases h⟩ (fun h0 => ⟨(φ id).blk, 0, rfl, ?_, ?_, fun i hi j v hv => ?_⟩) (fun i x hi => ?_) .nil
    · rintro (⟨id', k', hg', hn', he'⟩ | hf)
      rotate_left
      · exact hR.forb _ _ hg hx hf
      by_cases e : id' = id
      · subst e
        rw [Heap.get_put_same] at hg'
        cases hg'
      · rw [Heap.get_put_ne _ _ e] at hg'
        exact e (hR.inj _ _ _ _ hg hg' hx hn' he'.symm).symm
    · exact (ho.lt _ rfl).2
    · rw [List.getElem?_take] at hv
      split at hv
      · rw [List.getElem?_drop] at hv
        have := hcells _ v hv
        rw [Addr.add_lit] at this
        rw [Nat.zero_add] at this ⊢
        exact this
      · cases hv
    · have hlt := (List.getElem?_eq_some_iff.1 hi).1
      obtain ⟨ws, g1, g2, g3, -⟩ := flat_get xs i us hlt hrm
      rw [← g3]
      have : xs.getD i t.dflt = x := by rw [List.getD_eq_getElem?_getD, hi]; rfl
      rw [← this]
      exact g1
def frzL : Heap → List AV → List AV × Heap
  | H, [] => ([], H)
  | H, .slc id :: as => match H.get id with
    | some (.seq false e t xs) => match frzL (H.put id none) as with
      | (bs, H') => (.vsl t xs :: bs, H')
    | _ => match frzL H as with
      | (bs, H') => (.slc id :: bs, H')
  | H, a :: as => match frzL H as with
      | (bs, H') => (a :: bs, H')
theorem frzL_ok : ∀ (as : List AV) (H : Heap) (vs : List Value), Rel F φ H w → Reps (cx F φ H w) as vs → Rel F φ (frzL H as).2 w ∧ Ext F φ H w φ (frzL H as).2 w ∧ Reps (cx F φ (frzL H as).2 w) (frzL H as).1 vs
  | [], H, vs, hR, hr => ⟨hR, Ext.refl _ _ _ _, hr⟩
  | a :: as, H, vs, hR, hr => by
    obtain ⟨u1, u2, rfl, h1, h2⟩ := hr.cons_inv
    have other : frzL H (a :: as) = (a :: (frzL H as).1, (frzL H as).2) → Rel F φ (frzL H (a :: as)).2 w ∧ Ext F φ H w φ (frzL H (a :: as)).2 w ∧ Reps (cx F φ (frzL H (a :: as)).2 w) (frzL H (a :: as)).1 (u1 ++ u2) := fun e => by
      obtain ⟨h3, h4, h5⟩ := frzL_ok as H u2 hR h2
      rw [e]
      exact ⟨h3, h4, Reps.append (as := [a]) (h1.mono h4.le) h5⟩
    cases a with
    | slc id =>
      cases hg : H.get id with
      | none => exact other (by simp only [frzL, hg])
      | some k =>
        cases k with
        | obj ro cs => exact other (by simp only [frzL, hg])
        | map ro t es => exact other (by simp only [frzL, hg])
        | seq ro e t xs =>
          cases ro with
          | true => exact other (by simp only [frzL, hg])
          | false =>
          obtain ⟨d1, d2⟩ := hR.drop id (fun k hk => by rw [hg] at hk; injection hk with hk; rw [← hk]; rfl)
          obtain ⟨h3, h4, h5⟩ := frzL_ok as (H.put id none) u2 d1 (h2.mono d2.le)
          have e1 : frzL H (.slc id :: as) = (.vsl t xs :: (frzL (H.put id none) as).1, (frzL (H.put id none) as).2) := by simp only [frzL, hg]
          rw [e1]
          refine ⟨h3, d2.trans h4, Reps.append (as := [.vsl t xs]) ?_ h5⟩
          have := freeze_ok hR hg
          cases h1 with
          | slc _ h => 
            have := h.nil_inv
            subst this
            exact (freeze_ok hR hg).mono h4.le
    | _ => exact other rfl
/-! ### new memory -/
theorem new_obj (hR : Rel F φ H w) {cs : List AV} {vs : Array Value} (hr : Reps (cx F φ H w) cs vs.toList) (e : TypeId) :
    Rel F (upd φ H.n ⟨w.heap.size, 0, 0, false⟩) (H.new (.obj false cs)) (w.alloc (.cells vs e)) ∧ Ext F φ H w (upd φ H.n ⟨w.heap.size, 0, 0, false⟩) (H.new (.obj false cs)) (w.alloc (.cells vs e)) := by
  refine Rel.new hR _ _ rfl (by simp) (fun b hb => Below.heap_alloc w _ b hb) (fun _ => Nat.le_refl _) (fun le => ?_) rfl rfl rfl
  exact ⟨rfl, vs, e, heap_alloc_new w _, hr.mono le⟩
theorem ownsRow_base {w : World} {base e sz n : Nat} {v : Value} {us : List Value} (h : w.ownsRow base e sz v n us) : w.ownsRow 0 e sz v n us := by
  obtain ⟨h1, h2⟩ := h
  refine ⟨h1, ?_⟩
  rcases h2 with h2 | ⟨g, cap, cur, hv, hg, r⟩
  · exact .inl h2
  · exact .inr ⟨g, cap, cur, hv, Nat.zero_le _, r⟩
/-- A list in new memory. -/
theorem new_seq (hR : Rel F φ H w) {w' : World} {e : Nat} {t : Ty} {xs : List t.den} {n cap : Nat} {us : List Value} (hn : n = xs.length) (hg : w.grownBy w' none) (hr : Reps (cx F φ H w) (xs.flatMap (enc t)) us)
    {b : Nat} (hb : w.heap.size ≤ b) (ho : w'.ownsRow 0 e t.sz (.slice (some ⟨b, 0, none⟩) n cap) n us) :
    Rel F (upd φ H.n ⟨b, n, cap, false⟩) (H.new (.seq false e t xs)) w' ∧ Ext F φ H w (upd φ H.n ⟨b, n, cap, false⟩) (H.new (.seq false e t xs)) w' := by
  subst hn
  refine Rel.new hR _ _ rfl hg.size (fun b hb => hg.block b hb (by simp)) (fun _ => hb) (fun le => ?_) hg.os hg.tape hg.output
  exact ⟨rfl, fun h => (by cases h), us, hr.mono le, ho⟩
theorem new_nil (hR : Rel F φ H w) (e : Nat) (t : Ty) : Rel F (upd φ H.n ⟨0, 0, 0, true⟩) (H.new (.seq false e t [])) w ∧ Ext F φ H w (upd φ H.n ⟨0, 0, 0, true⟩) (H.new (.seq false e t [])) w := by
  refine Rel.new hR _ _ rfl (Nat.le_refl _) (fun _ _ => rfl) (fun h => by cases h) (fun le => ?_) rfl rfl rfl
  exact ⟨rfl, fun _ => rfl, [], .nil, World.ownsRow_nil w 0 e t.sz⟩
theorem madeCells_flat (z : List Value) (n : Nat) (hz : 0 < z.length) : (madeCells z.toArray (n * z.length)).toList = (List.replicate n z).flatten := by
  apply List.ext_getElem?
  intro j
  have hlen : ((List.replicate n z).flatten).length = n * z.length := by simp
  by_cases hj : j < n * z.length
  · have hm : j % z.length < z.length := Nat.mod_lt _ hz
    have e1 : (madeCells z.toArray (n * z.length)).toList[j]? = some z[j % z.length] := by
      simp [madeCells, hj, hm]
    rw [e1]
    clear e1 hlen
    induction n generalizing j with
    | zero => simp at hj
    | succ n ih =>
      rw [List.replicate_succ, List.flatten_cons]
      by_cases h1 : j < z.length
      · rw [List.getElem?_append_left h1, List.getElem?_eq_getElem h1]
        congr 2
        exact Nat.mod_eq_of_lt h1
      · rw [List.getElem?_append_right (by omega)]
        rw [Nat.succ_mul] at hj
        rw [← ih (j - z.length) (by omega) (Nat.mod_lt _ hz)]
        congr 2
        exact (Nat.mod_eq_sub_mod (by omega))
  · rw [List.getElem?_eq_none (by simpa [madeCells] using hj), List.getElem?_eq_none (by rw [hlen]; omega)]
theorem reps_replicate {C : Cx} {t : Ty} {x : t.den} {z : List Value} (h : Reps C (enc t x) z) : ∀ n, Reps C ((List.replicate n x).flatMap (enc t)) (List.replicate n z).flatten
  | 0 => .nil
  | n + 1 => by
    rw [List.replicate_succ, List.replicate_succ, List.flatMap_cons, List.flatten_cons]
    exact Reps.append h (reps_replicate h n)
end
end Go.Proofs.Ytpjdicndjakeoaa
