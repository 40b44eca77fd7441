/- Contracts of maps.Clone, maps.Keys and slices.Sorted at this program's maps. No condition. -/
import Derived.Test.YtjapmlolgfgbaaaU3
import Derived.Shelf.SlIterI.Nil
import Derived.Shelf.SortM.Plain
import Derived.Shelf.SortM.SortNone
import Derived.Shelf.SlMaps.Clone
import Derived.Ground.GgzProg
import Derived.Ground.SlgmProg
import Derived.Ground.SlmcProg
namespace Go.Proofs.Ytjapmlolgfgbaaa
open Go.RowKit Go.Maps Go.Sort Go.Shelf
set_option linter.unusedVariables false
set_option linter.unusedSimpArgs false
shelf_lay_g SlLaysW.n5 Slmc 5 at Try 24 as clnA
shelf_lay_g SlLaysW.n5 Slmc 5 at Try 25 as clnI
shelf_lay_g SlLaysZI.n7 Ggz 7 at Try 22 as keysA
shelf_lay_g SlLaysZI.n6 Ggz 6 at Try 21 as sortedA
shelf_lay_g SlLaysM.n5 Slgm 5 at Try 27 as sortA

section
variable {F : Nat → Prop} {φ : Nat → RS} {H : Heap} {w : World}
theorem below_new (hR : Rel F φ H w) {w' : World} (hb : Below w.heap.size w w') (r : RS) (k : Blk) (hkr : k.ro = false) (hr : r.nil = false → w.heap.size ≤ r.blk)
    (hk : (cx F φ H w).Le (cx F (upd φ H.n r) (H.new k) w') → BRel (cx F (upd φ H.n r) (H.new k) w') r k) : Rel F (upd φ H.n r) (H.new k) w' ∧ Ext F φ H w (upd φ H.n r) (H.new k) w' :=
  Rel.new hR r k hkr hb.size (fun b hb' => hb.block b hb') hr hk hb.os hb.tape hb.output
end
theorem int3 : Try.prog.underlying 3 = some (.int .i64) := Try.underlying3
def cClone (ty : Ty) : Con where
  X := List (Int × ty.den)
  args := fun _ => [.hdl .mp 0]
  heap := fun es => ⟨1, [(0, some (.map true ty es))]⟩
  pre := fun _ => True
  res := fun _ => .hdl .mp 1
  heap' := fun es => ⟨2, [(1, some (.map false ty es)), (0, some (.map true ty es))]⟩
  pure := false
  find := fun args H => match args with
    | [.hdl _ id] => match H.get id with
      | some (.map _ u es) => if h : u = ty then some (h ▸ es) else none
      | _ => none
    | _ => none
theorem cClone_of (ty : Ty) {f : Nat} (he : ∀ args w, (callFunc f args).run Try.prog w = .ok (.enter f args) w)
    (hc : ∀ b n D w, w.ownsMap Try.prog 3 RVv b n D → Calls Try.prog f #[.map (some b)] w fun e w' => e = .returned (.map (some w.heap.size)) ∧ w'.ownsMap Try.prog 3 RVv w.heap.size n D ∧ w'.ownsMap Try.prog 3 RVv b n D ∧ Below w.heap.size w w') : (cClone ty).Ok Try.prog f := by
  refine ⟨he, fun x id k h => ?_, fun h => (by cases h), fun es _ F φ w vs hR hv => ?_⟩
  · match id, h with
    | 0, h => exact Nat.zero_lt_one
    | _ + 1, h => cases h
  · match vs, hv with
    | [v], hv =>
      obtain ⟨rfl, -⟩ := rv_hdl_inv (rv_of_rv1 hv.1)
      obtain ⟨hnil, ws, h1, h2⟩ := hR.blk 0 _ rfl
      refine (hc _ _ _ w (h2.owns int3)).mono fun e w' ⟨h3, h4, h5, h6⟩ => ⟨_, h3, ?_⟩
      obtain ⟨r1, r2⟩ := below_new hR h6 ⟨w.heap.size, 0, 0, false⟩ (.map false ty es) rfl (fun _ => Nat.le_refl _) (fun le => ⟨rfl, ws, h1.imp fun _ _ h => h.mono le, _, _, int3, h4⟩)
      exact ⟨_, rv_newh (H := _) _ w.heap.size _, r1, r2⟩
theorem cCloneA_ok : (cClone .atv).Ok Try.prog 24 :=
  cClone_of .atv (Go.MuLone.run_callFunc_enter Try.func24 (by decide) rfl) fun b n D w h => AnyW.maps_Clone_owns clnA 3 RVv b n D w h
theorem cCloneI_ok : (cClone .int).Ok Try.prog 25 :=
  cClone_of .int (Go.MuLone.run_callFunc_enter Try.func25 (by decide) rfl) fun b n D w h => AnyW.maps_Clone_owns clnI 3 RVv b n D w h
abbrev itrK : HK := .itr 28
def cKeys : Con where
  X := List (Int × Atv)
  args := fun _ => [.hdl .mp 0]
  heap := fun es => ⟨1, [(0, some (.map true .atv es))]⟩
  pre := fun _ => True
  res := fun _ => .hdl itrK 1
  heap' := fun es => ⟨2, [(1, some (.obj false [.hdl .mp 0])), (0, some (.map true .atv es))]⟩
  pure := false
  find := fun args H => match args with
    | [.hdl _ id] => match H.get id with
      | some (.map _ .atv es) => some es
      | _ => none
    | _ => none
theorem cKeys_ok : cKeys.Ok Try.prog 22 := by
  refine ⟨Go.MuLone.run_callFunc_enter Try.func22 (by decide) rfl, fun x id k h => ?_, fun h => (by cases h), fun es _ F φ w vs hR hv => ?_⟩
  · match id, h with
    | 0, h => exact Nat.zero_lt_one
    | _ + 1, h => cases h
  · match vs, hv with
    | [v], hv =>
      obtain ⟨rfl, hid⟩ := rv_hdl_inv (rv_of_rv1 hv.1)
      have cK : ∀ mb W, CallsIn Fence.wide 5 Try.prog 22 #[.map mb] W fun e w' => e = .returned (.func (.func 28) #[] #[.pointer (some ⟨W.heap.size, 0, none⟩)]) ∧ w' = W.alloc (.cells #[.map mb] 47) := fun mb W => AnyZI.keys_in keysA Fence.wide 5 trivial rfl mb W
      refine (callsIn_wide.1 (cK (some (φ 0).blk) w)).mono fun e w' ⟨h3, h4⟩ => ⟨_, h3, ?_⟩
      subst h4
      obtain ⟨r1, r2⟩ := new_obj (vs := #[.map (some (φ 0).blk)]) (cs := [.hdl .mp 0]) hR (Reps.hdl hid .nil) 47
      exact ⟨_, rv_newh (H := _) _ w.heap.size _, r1, r2⟩
def cSorted : Con where
  X := List (Int × Atv)
  args := fun _ => [.hdl itrK 0]
  heap := fun es => ⟨2, [(1, some (.map true .atv es)), (0, some (.obj true [.hdl .mp 1]))]⟩
  pre := fun es => es.length ≤ 1000000
  res := fun _ => .slc 2
  heap' := fun es => ⟨3, [(2, some (.seq false 3 .int (es.map (·.1)))), (1, some (.map true .atv es)), (0, some (.obj true [.hdl .mp 1]))]⟩
  pure := false
  find := fun args H => match args with
    | [.hdl _ id] => match H.get id with
      | some (.obj _ [.hdl _ m]) => match H.get m with
        | some (.map _ .atv es) => some es
        | _ => none
      | _ => none
    | _ => none
theorem sortsA (m : Nat) : AnyZI.SortsIn Try.prog sortedA_ren Fence.wide m :=
  ⟨fun blk off cap ss W hH hblk hsz => callsIn_wide.2 (AnyM.slices_Sort_int sortA blk off cap ss W hH hblk hsz),
   fun p cap W => callsIn_wide.2 (AnyM.slices_Sort_int_none sortA p cap W)⟩
theorem keys_sorted {C : Cx} {es : List (Int × Atv)} {vs : List (Int × Value)} (h : All2 (RE C .atv) es vs) (hs : vs.Pairwise (fun p q => p.1 < q.1)) {ss : List Int} (hp : ss.Perm (intKeys (vdat vs))) : ss.mergeSort (fun x y => decide (x ≤ y)) = es.map (·.1) := by
  have e1 : intKeys (vdat vs) = es.map (·.1) := by
    clear hp hs
    simp only [vdat, vdL, intKeys, List.map_map]
    induction h with
    | nil => rfl
    | cons h _ ih => rw [List.map_cons, List.map_cons, ih]; simp [h.key]; rfl
  rw [e1] at hp
  have hso := RE.sorted h hs
  have hle : (es.map (·.1)).Pairwise (fun a b => leI a b = true) := by
    rw [List.pairwise_map]
    exact hso.imp fun {a b} h => by simp [leI]; omega
  have e2 := mergeSort_of_perm_i hp
  have e3 : (es.map (·.1)).mergeSort leI = es.map (·.1) := List.mergeSort_of_pairwise hle
  exact e2.trans e3
theorem reps_keys {C : Cx} {es : List (Int × Atv)} (h : ∀ x ∈ es, (Lit.int .i64 x.1).wf = true) : Reps C ((es.map (·.1)).flatMap (enc .int)) ((es.map (·.1)).map encZ) := by
  induction es with
  | nil => exact .nil
  | cons x xs ih =>
    have hw := h x (List.mem_cons_self ..)
    simp only [Lit.wf, Bool.and_eq_true, decide_eq_true_eq] at hw
    exact Reps.int hw.1 hw.2 (ih fun y hy => h y (List.mem_cons_of_mem _ hy))
theorem rv_news {F : Nat → Prop} {φ : Nat → RS} {H : Heap} {w' : World} (r : RS) (k : Blk) : RV (cx F (upd φ H.n r) (H.new k) w') (.slc H.n) r.sl := by
  have := Reps.slc (C := cx F (upd φ H.n r) (H.new k) w') (id := H.n) (Nat.lt_succ_self _) Reps.nil
  rwa [show (cx F (upd φ H.n r) (H.new k) w').φ H.n = r from upd_same _ _ _] at this
theorem cSorted_ok : cSorted.Ok Try.prog 21 := by
  refine ⟨Go.MuLone.run_callFunc_enter Try.func21 (by decide) rfl, fun x id k h => ?_, fun h => (by cases h), fun (es : List (Int × Atv)) hpre F φ w vs hR hv => ?_⟩
  · match id, h with
    | 0, h => exact Nat.zero_lt_two
    | 1, h => exact Nat.one_lt_two
    | _ + 2, h => cases h
  · match vs, hv with
    | [v], hv =>
      replace hpre : es.length ≤ 1000000 := hpre
      obtain ⟨rfl, hid⟩ := rv_hdl_inv (rv_of_rv1 hv.1)
      obtain ⟨n0, cs, e0, hb0, hr0⟩ := hR.blk 0 _ rfl
      obtain ⟨hnil, ws, h1, h2⟩ := hR.blk 1 _ rfl
      have hcs : cs.toList = [.map (some (φ 1).blk)] := by
        generalize cs.toList = l at hr0
        cases hr0 with
        | hdl a h => rw [h.nil_inv]; rfl
      have hcell : w.cell? ⟨(φ 0).blk, 0, none⟩ = some (.map (some (φ 1).blk)) := by
        have hb1 : w.heap[(φ 0).blk]? = some (.cells cs e0 (0, 0)) := hb0
        rw [blk_cell hb1, ← Array.getElem?_toList, hcs]
        rfl
      have hown := h2.owns int3
      have hlt : (φ 0).blk < w.heap.size := (Array.getElem?_eq_some_iff.1 hb0).1
      have hsz : Maps.size (vdat ws) = es.length := by rw [vdat_size, h1.length]
      have hseq : SeqGives Fence.wide 2 Try.prog 28 #[.pointer (some ⟨(φ 0).blk, 0, none⟩)] encZ (fun ss => ss.Perm (intKeys (vdat ws))) (Maps.size (vdat ws)) w :=
        AnyZI.keys_gives (ρ := keysA_ren) { keysA with } Fence.wide _ trivial rfl (by omega) (φ 0).blk (φ 1).blk _ (vdat ws) _ hlt hcell hown
      have cS := AnyZI.sorted_in sortedA Fence.wide 5 trivial trivial trivial trivial rfl (by omega) (sortsA _) (enters_of Try.func27 (by kernel_rfl) rfl) 28 #[.pointer (some ⟨(φ 0).blk, 0, none⟩)] trivial (enters_of Try.func28 (by kernel_rfl) rfl) _ _ (by rw [hsz]; simp [maxLen]; omega) (by rw [hsz]; omega) _ hseq
      change CallsIn _ _ Try.prog 21 _ _ _ at cS
      refine (callsIn_wide.1 cS).mono fun e w' ⟨v, ss, h3, h4, hrow, hnil2, hb⟩ => ⟨v, h3, ?_⟩
      rw [keys_sorted h1 h2.sorted h4] at hrow
      have hsl : ss.length = (es.map (fun p : Int × Atv => p.1)).length := by
        have := (List.mergeSort_perm ss (fun x y => decide (x ≤ y))).length_eq
        rw [keys_sorted h1 h2.sorted h4] at this
        exact this.symm
      rw [hsl] at hrow
      have hreps : ∀ C : Cx, Reps C ((es.map (fun p : Int × Atv => p.1)).flatMap (enc .int)) ((es.map (fun p : Int × Atv => p.1)).map encZ) := fun C => reps_keys (fun x hx => by
        obtain ⟨v, hv⟩ := RE.all h1 x hx
        exact hv.wf)
      rcases hrow.2 with ⟨hv0, hl0⟩ | ⟨g, cap, cur, hv0, hg, rest⟩
      · subst hv0
        have hes : es.map (fun p : Int × Atv => p.1) = [] := List.eq_nil_of_length_eq_zero hl0
        obtain ⟨r1, r2⟩ := below_new hR hb ⟨0, 0, 0, true⟩ (.seq false 3 .int (es.map (fun p : Int × Atv => p.1))) rfl (fun h => by cases h) (fun le => by
          rw [hes]
          exact ⟨rfl, fun _ => rfl, [], .nil, World.ownsRow_nil _ 0 _ _⟩)
        exact ⟨_, rv_news ⟨0, 0, 0, true⟩ _, r1, r2⟩
      · subst hv0
        obtain ⟨r1, r2⟩ := below_new hR hb ⟨g, (es.map (fun p : Int × Atv => p.1)).length, cap, false⟩ (.seq false 3 .int (es.map (fun p : Int × Atv => p.1))) rfl (fun _ => hg) (fun le => ⟨rfl, fun h => (by cases h), _, hreps _, ownsRow_base hrow⟩)
        exact ⟨_, rv_news ⟨g, (es.map (fun p : Int × Atv => p.1)).length, cap, false⟩ _, r1, r2⟩
end Go.Proofs.Ytjapmlolgfgbaaa
