/- ArbiterServes of layer 12: the contract. No condition. -/
import Derived.Test.YtpjdicndjakeoaaV9
namespace Go.Proofs.Ytpjdicndjakeoaa
open Go.RowKit
set_option linter.unusedVariables false
set_option linter.unusedSimpArgs false
structure T1 (m i : Nat) (want : List Int) (rows : List Row12) (got : List Int) : Prop where
  le : i ≤ m
  m100 : m ≤ 100
  wl : want.length ≤ i
  sv : SV want 0 rows got
structure T2 (want : List Int) (q : Nat) (rows : List Row12) (got : List Int) : Prop where
  wl : want.length ≤ 100
  sv : SV want q rows got
structure T3 (n : Int) (want : List Int) (q m : Nat) (rows : List Row12) (got : List Int) : Prop where
  wl : want.length ≤ 100
  sv : SE n want q m rows got
theorem wantN_len {n a : Int} {want : List Int} {i : Nat} (h : want.length ≤ i) : (wantN n want a).length ≤ i + 1 := by
  unfold wantN
  split
  · rw [List.length_append, List.length_singleton]; omega
  · omega
theorem mis1 {x : Bool} {P : Prop} [Decidable P] (h : x = true ↔ P) (h5 : (!(x == decide P)) = true) : False := by
  by_cases hp : P
  · rw [h.2 hp, decide_eq_true hp] at h5; cases h5
  · have : x = false := by cases x with | false => rfl | true => exact absurd (h.1 rfl) hp
    rw [this, decide_eq_false hp] at h5; cases h5
theorem mis2 {x : Bool} (h : ¬ x = true) (h5 : (!(x == false)) = true) : False := by
  have : x = false := by cases x with | false => rfl | true => exact absurd rfl h
  rw [this] at h5; cases h5
def cAS : Con where
  X := Int × List Int
  args := fun ⟨n, l⟩ => [AI n, .vsl .int l]
  heap := fun _ => hp0
  pre := fun _ => True
  res := fun _ => AB true
  heap' := fun _ => hp0
  pure := true
  find := fun _ _ => none
set_option maxRecDepth 100000 in
set_option maxHeartbeats 16000000 in
theorem cAS_ok : cAS.Ok Try.prog 3 := by
  refine fun_ok (env_ok (Cons.cons cawake_ok (Cons.cons cNewA_ok (Cons.cons cAsk_ok (Cons.cons cDone_ok (Cons.cons cAck_ok (Cons.cons cCur_ok (Cons.cons cWait_ok (Cons.cons cInts_ok Cons.nil))))))))) mixedP Try.func3 (by decide) rfl cAS [] (fun _ => rfl) (fun _ _ => ⟨rfl, fun id k h => by cases h⟩) (fun _ => Nat.le_of_ble_eq_true rfl) ?_
  rintro ⟨n, l⟩ hp ha hb
  clear hp ha hb
  all_goals (repeat' (first
    | with_reducible refine iTr ?_
    | with_reducible refine iB ?_
    | intro _
    | exact True.intro
    | (show _ ∧ _
       first
        | refine aTT ?_
        | refine aTB ?_
        | refine aT ?_
        | refine aB ?_
        | refine a11 ?_
        | refine a01 ?_
        | refine a00 ?_
        | refine a10 ?_
        | (with_reducible refine And.intro rfl ?_)
        | refine And.intro ?_ ?_)
    | with_reducible exact rfl
    | with_reducible exact HEq.rfl
    | (show (_ : Option Nat) = _; exact rfl)
    | (show (_ : Option Blk) = _; exact rfl)
    | (with_reducible show (nodupB _ && _ && _ && _ && _) = true; exact (Eq.refl true))
    | (with_reducible show (nodupB _ && _ && _ && _) = true; exact (Eq.refl true))
    | (with_reducible show (nodupB _ && _ && _) = true; exact (Eq.refl true))
    | (with_reducible show freeOk _ _ = true; exact (Eq.refl true))
    | (with_reducible show wrOk _ _ _ _ _ = true; exact (Eq.refl true))
    | (show (_ : AV) = _; exact rfl)
    | (with_reducible show (_ || !_) = true; exact (Eq.refl true))
    | (with_reducible show Nat.beq _ _ = true; exact (Eq.refl true))))
  all_goals (first | (show (_ : Int) = _) | (show (_ : Bool) = _) | (show HEq _ _) | (show ∃ _ : LInv, _) | skip)
  all_goals (try (with_reducible exact rfl))
  all_goals try (refine ⟨⟨{s : Nat × List Int × List Row12 × List Int // T1 l.length s.1 s.2.1 s.2.2.1 s.2.2.2}, fun s => [(42, AI s.1.1), (41, AI l.length), (40, .vsl .int l), (5, .ptr 0 ⟨0,0,0,none⟩), (6, .slc 2), (7, .slc 3), (0, AI n)], fun s => ⟨4, [(3, some (.seq false 3 .int s.1.2.2.2)), (2, some (.seq false 3 .int s.1.2.1)), (1, some (.seq false 59 .row12 s.1.2.2.1)), (0, some (.obj false [.int .i64 (newN n), .slc 1]))]⟩, fun s => l.length - s.1.1⟩, ⟨⟨(0, [], newR 1, []), ?_⟩, [(6, 3, .int), (7, 3, .int)], ?_⟩, ?_⟩; rotate_right; rintro ⟨⟨i, want, rows, got⟩, hS⟩)
  all_goals (repeat' (first
    | with_reducible refine iTr ?_
    | with_reducible refine iB ?_
    | intro _
    | exact True.intro
    | (show _ ∧ _
       first
        | refine aTT ?_
        | refine aTB ?_
        | refine aT ?_
        | refine aB ?_
        | refine a11 ?_
        | refine a01 ?_
        | refine a00 ?_
        | refine a10 ?_
        | (with_reducible refine And.intro rfl ?_)
        | refine And.intro ?_ ?_)
    | with_reducible exact rfl
    | with_reducible exact HEq.rfl
    | (show (_ : Option Nat) = _; exact rfl)
    | (show (_ : Option Blk) = _; exact rfl)
    | (with_reducible show (nodupB _ && _ && _ && _ && _) = true; exact (Eq.refl true))
    | (with_reducible show (nodupB _ && _ && _ && _) = true; exact (Eq.refl true))
    | (with_reducible show (nodupB _ && _ && _) = true; exact (Eq.refl true))
    | (with_reducible show freeOk _ _ = true; exact (Eq.refl true))
    | (with_reducible show wrOk _ _ _ _ _ = true; exact (Eq.refl true))
    | (show (_ : AV) = _; exact rfl)
    | (with_reducible show (_ || !_) = true; exact (Eq.refl true))
    | (with_reducible show Nat.beq _ _ = true; exact (Eq.refl true))))
  all_goals (first | (show (_ : Int) = _) | (show (_ : Bool) = _) | (show HEq _ _) | (show ∃ _ : LInv, _) | skip)
  all_goals (try (with_reducible exact rfl))
  all_goals try (refine ⟨⟨(i + 1, wantN n want (l.getD i Ty.int.dflt), (askA (newN n) rows 0 (l.getD i Ty.int.dflt)).1, gotA got (askA (newN n) rows 0 (l.getD i Ty.int.dflt))), ?_⟩, ?_, ?_⟩)
  all_goals (repeat' (first
    | with_reducible refine iTr ?_
    | with_reducible refine iB ?_
    | intro _
    | exact True.intro
    | (show _ ∧ _
       first
        | refine aTT ?_
        | refine aTB ?_
        | refine aT ?_
        | refine aB ?_
        | refine a11 ?_
        | refine a01 ?_
        | refine a00 ?_
        | refine a10 ?_
        | (with_reducible refine And.intro rfl ?_)
        | refine And.intro ?_ ?_)
    | with_reducible exact rfl
    | with_reducible exact HEq.rfl
    | (show (_ : Option Nat) = _; exact rfl)
    | (show (_ : Option Blk) = _; exact rfl)
    | (with_reducible show (nodupB _ && _ && _ && _ && _) = true; exact (Eq.refl true))
    | (with_reducible show (nodupB _ && _ && _ && _) = true; exact (Eq.refl true))
    | (with_reducible show (nodupB _ && _ && _) = true; exact (Eq.refl true))
    | (with_reducible show freeOk _ _ = true; exact (Eq.refl true))
    | (with_reducible show wrOk _ _ _ _ _ = true; exact (Eq.refl true))
    | (show (_ : AV) = _; exact rfl)
    | (with_reducible show (_ || !_) = true; exact (Eq.refl true))
    | (with_reducible show Nat.beq _ _ = true; exact (Eq.refl true))))
  all_goals (first | (show (_ : Int) = _) | (show (_ : Bool) = _) | (show HEq _ _) | (show ∃ _ : LInv, _) | skip)
  all_goals (try (with_reducible exact rfl))
  all_goals try (refine ⟨⟨{s : List Row12 × List Int × Nat // T2 want s.2.2 s.1 s.2.1}, fun s => [(12, AI ((s.1.2.2 + 1 : Nat) : Int)), (5, .ptr 0 ⟨0,0,0,none⟩), (6, .slc 2), (7, .slc 3), (0, AI n)], fun s => ⟨4, [(3, some (.seq false 3 .int s.1.2.1)), (2, some (.seq false 3 .int want)), (1, some (.seq false 59 .row12 s.1.1)), (0, some (.obj false [.int .i64 (newN n), .slc 1]))]⟩, fun s => want.length - s.1.2.2⟩, ⟨⟨(rows, got, 0), ?_⟩, [], ?_⟩, ?_⟩; rotate_right; rintro ⟨⟨rows2, got2, q⟩, hS2⟩)
  all_goals (repeat' (first
    | with_reducible refine iTr ?_
    | with_reducible refine iB ?_
    | intro _
    | exact True.intro
    | (show _ ∧ _
       first
        | refine aTT ?_
        | refine aTB ?_
        | refine aT ?_
        | refine aB ?_
        | refine a11 ?_
        | refine a01 ?_
        | refine a00 ?_
        | refine a10 ?_
        | (with_reducible refine And.intro rfl ?_)
        | refine And.intro ?_ ?_)
    | with_reducible exact rfl
    | with_reducible exact HEq.rfl
    | (show (_ : Option Nat) = _; exact rfl)
    | (show (_ : Option Blk) = _; exact rfl)
    | (with_reducible show (nodupB _ && _ && _ && _ && _) = true; exact (Eq.refl true))
    | (with_reducible show (nodupB _ && _ && _ && _) = true; exact (Eq.refl true))
    | (with_reducible show (nodupB _ && _ && _) = true; exact (Eq.refl true))
    | (with_reducible show freeOk _ _ = true; exact (Eq.refl true))
    | (with_reducible show wrOk _ _ _ _ _ = true; exact (Eq.refl true))
    | (show (_ : AV) = _; exact rfl)
    | (with_reducible show (_ || !_) = true; exact (Eq.refl true))
    | (with_reducible show Nat.beq _ _ = true; exact (Eq.refl true))))
  all_goals (first | (show (_ : Int) = _) | (show (_ : Bool) = _) | (show HEq _ _) | (show ∃ _ : LInv, _) | skip)
  all_goals (try (with_reducible exact rfl))
  all_goals try (refine ⟨⟨{s : Nat × List Row12 × List Int // T3 n want q s.1 s.2.1 s.2.2}, fun s => [(15, AI ((s.1.1 : Int) - 1)), (12, AI ((q + 1 : Nat) : Int)), (5, .ptr 0 ⟨0,0,0,none⟩), (6, .slc 2), (7, .slc 3), (0, AI n)], fun s => ⟨4, [(3, some (.seq false 3 .int s.1.2.2)), (2, some (.seq false 3 .int want)), (1, some (.seq false 59 .row12 s.1.2.1)), (0, some (.obj false [.int .i64 (newN n), .slc 1]))]⟩, fun s => s.1.1⟩, ⟨⟨(n.toNat, (doneA rows2 0 ((q + 1 : Nat) : Int)).1, got2), ?_⟩, [], ?_⟩, ?_⟩; rotate_right; rintro ⟨⟨m, rows3, got3⟩, hS3⟩)
  all_goals (repeat' (first
    | with_reducible refine iTr ?_
    | with_reducible refine iB ?_
    | intro _
    | exact True.intro
    | (show _ ∧ _
       first
        | refine aTT ?_
        | refine aTB ?_
        | refine aT ?_
        | refine aB ?_
        | refine a11 ?_
        | refine a01 ?_
        | refine a00 ?_
        | refine a10 ?_
        | (with_reducible refine And.intro rfl ?_)
        | refine And.intro ?_ ?_)
    | with_reducible exact rfl
    | with_reducible exact HEq.rfl
    | (show (_ : Option Nat) = _; exact rfl)
    | (show (_ : Option Blk) = _; exact rfl)
    | (with_reducible show (nodupB _ && _ && _ && _ && _) = true; exact (Eq.refl true))
    | (with_reducible show (nodupB _ && _ && _ && _) = true; exact (Eq.refl true))
    | (with_reducible show (nodupB _ && _ && _) = true; exact (Eq.refl true))
    | (with_reducible show freeOk _ _ = true; exact (Eq.refl true))
    | (with_reducible show wrOk _ _ _ _ _ = true; exact (Eq.refl true))
    | (show (_ : AV) = _; exact rfl)
    | (with_reducible show (_ || !_) = true; exact (Eq.refl true))
    | (with_reducible show Nat.beq _ _ = true; exact (Eq.refl true))))
  all_goals (first | (show (_ : Int) = _) | (show (_ : Bool) = _) | (show HEq _ _) | (show ∃ _ : LInv, _) | skip)
  all_goals (try (with_reducible exact rfl))
  all_goals try (refine ⟨⟨(m - 1, (ackA (newN n) rows3 0 ((q + 1 : Nat) : Int) ((m : Int) - 1)).1, gotA got3 (ackA (newN n) rows3 0 ((q + 1 : Nat) : Int) ((m : Int) - 1))), ?_⟩, ?_, ?_⟩)
  all_goals (repeat' (first
    | with_reducible refine iTr ?_
    | with_reducible refine iB ?_
    | intro _
    | exact True.intro
    | (show _ ∧ _
       first
        | refine aTT ?_
        | refine aTB ?_
        | refine aT ?_
        | refine aB ?_
        | refine a11 ?_
        | refine a01 ?_
        | refine a00 ?_
        | refine a10 ?_
        | (with_reducible refine And.intro rfl ?_)
        | refine And.intro ?_ ?_)
    | with_reducible exact rfl
    | with_reducible exact HEq.rfl
    | (show (_ : Option Nat) = _; exact rfl)
    | (show (_ : Option Blk) = _; exact rfl)
    | (with_reducible show (nodupB _ && _ && _ && _ && _) = true; exact (Eq.refl true))
    | (with_reducible show (nodupB _ && _ && _ && _) = true; exact (Eq.refl true))
    | (with_reducible show (nodupB _ && _ && _) = true; exact (Eq.refl true))
    | (with_reducible show freeOk _ _ = true; exact (Eq.refl true))
    | (with_reducible show wrOk _ _ _ _ _ = true; exact (Eq.refl true))
    | (show (_ : AV) = _; exact rfl)
    | (with_reducible show (_ || !_) = true; exact (Eq.refl true))
    | (with_reducible show Nat.beq _ _ = true; exact (Eq.refl true))))
  all_goals (first | (show (_ : Int) = _) | (show (_ : Bool) = _) | (show HEq _ _) | (show ∃ _ : LInv, _) | skip)
  all_goals (try (with_reducible exact rfl))
  all_goals try (refine ⟨⟨(rows3, got3, q + 1), ?_⟩, ?_, ?_⟩)
  all_goals (repeat' (first
    | with_reducible refine iTr ?_
    | with_reducible refine iB ?_
    | intro _
    | exact True.intro
    | (show _ ∧ _
       first
        | refine aTT ?_
        | refine aTB ?_
        | refine aT ?_
        | refine aB ?_
        | refine a11 ?_
        | refine a01 ?_
        | refine a00 ?_
        | refine a10 ?_
        | (with_reducible refine And.intro rfl ?_)
        | refine And.intro ?_ ?_)
    | with_reducible exact rfl
    | with_reducible exact HEq.rfl
    | (show (_ : Option Nat) = _; exact rfl)
    | (show (_ : Option Blk) = _; exact rfl)
    | (with_reducible show (nodupB _ && _ && _ && _ && _) = true; exact (Eq.refl true))
    | (with_reducible show (nodupB _ && _ && _ && _) = true; exact (Eq.refl true))
    | (with_reducible show (nodupB _ && _ && _) = true; exact (Eq.refl true))
    | (with_reducible show freeOk _ _ = true; exact (Eq.refl true))
    | (with_reducible show wrOk _ _ _ _ _ = true; exact (Eq.refl true))
    | (show (_ : AV) = _; exact rfl)
    | (with_reducible show (_ || !_) = true; exact (Eq.refl true))
    | (with_reducible show Nat.beq _ _ = true; exact (Eq.refl true))))
  all_goals (first | (show (_ : Int) = _) | (show (_ : Bool) = _) | (show HEq _ _) | (show ∃ _ : LInv, _) | skip)
  all_goals (try (with_reducible exact rfl))
  all_goals (try dsimp only at *)
  all_goals (try simp only [cond_true, cond_false, Bool.not_true, Bool.not_false, decide_eq_true_eq, decide_eq_false_iff_not, Int.toNat_natCast] at *)
  all_goals (have h1 : 1 ≤ n := (by omega); have h64 : n ≤ 64 := (by omega); have e0 : newN n = n := wid9 (by omega) h64; have hl : l.length ≤ 100 := (by omega))
  all_goals (try simp only [e0] at *)
  all_goals (first
    | omega
    | (with_reducible exact HEq.rfl)
    | exact wrap_succ (by omega)
    | (show T1 _ 0 _ _ _; exact ⟨Nat.zero_le _, hl, Nat.zero_le _, sv_start⟩)
    | skip)
  all_goals (first
    | (have hS' : T1 l.length i want rows got := hS
       have hi : i < l.length := (by omega)
       have hA := sv_ask hS'.sv h1 (l.getD i Ty.int.dflt)
       have hw := hS'.wl
       have hg : got.length ≤ want.length := (by rw [hS'.sv.got, List.length_take]; omega)
       first
       | exact ⟨fun _ => ⟨by rw [hS'.sv.queue, List.length_drop]; omega⟩⟩
       | (show (got.length + 1) * 8 ≤ _; omega)
       | (show (want.length + 1) * 8 ≤ _; omega)
       | (show T1 _ (i + 1) _ _ _; exact ⟨by omega, hl, wantN_len hw, hA.1⟩)
       | (apply heq_of_eq; unfold wantN; first | (rw [if_pos ⟨by omega, by omega⟩]; done) | (rw [if_neg (by omega)]; done))
       | (apply heq_of_eq; unfold gotA; first | (rw [if_pos (by assumption)]; done) | (rw [if_neg (fun h => Bool.false_ne_true (Eq.trans (Eq.symm (by assumption)) h))]; done)))
    | (have hS' : T1 l.length i want rows got := hS
       show T2 want 0 rows got
       exact ⟨by have := hS'.wl; have := hS'.le; omega, hS'.sv⟩)
    | (have hS3' : T3 n want q m rows3 got3 := hS3
       have hwl := hS3'.wl
       first
       | (show T2 want (q + 1) rows3 got3; exact ⟨hwl, hS3'.sv.zero (by omega)⟩)
       | exact wrap_succ (by omega)
       | (obtain ⟨k, rfl⟩ : ∃ k, m = k + 1 := ⟨m - 1, by omega⟩
          have hm : (((k + 1 : Nat) : Int) - 1) = (k : Int) := (by omega)
          have hk : k + 1 - 1 = k := rfl
          simp only [hm, hk] at *
          have hA3 := sv_ack hS3'.sv h64 (by omega)
          have hg3 : got3.length ≤ 100 := (by rw [(hS3'.sv.pos (Nat.succ_pos _)).got, List.length_take]; omega)
          first
          | exact ⟨h64⟩
          | (show (got3.length + 1) * 8 ≤ _; omega)
          | (show T3 n want q k _ _; exact ⟨hwl, hA3.2⟩)
          | omega
          | (have hle : ((k + 1 : Nat) : Int) ≤ n := hS3'.sv.le; exact wrap_id (by omega) (by omega))
          | (apply heq_of_eq; unfold gotA; first | (rw [if_pos (by assumption)]; done) | (rw [if_neg (fun h => Bool.false_ne_true (Eq.trans (Eq.symm (by assumption)) h))]; done))
          | (exfalso; have h0 : k = 0 := (by have h7 : ((k : Int) == 0) = true := (by assumption); simpa using h7); refine mis1 (P := ((q + 1 : Nat) : Int) < (want.length : Int)) ?_ (by assumption); rw [hA3.1]; constructor; (intro h8; omega); (intro h8; exact ⟨h0, by omega⟩))
          | (exfalso; have h0 : ¬ k = 0 := (by have h7 : ((k : Int) == 0) = false := (by assumption); simpa using h7); exact mis2 (fun h8 => h0 (hA3.1.1 h8).1) (by assumption))))
    | (have hS2' : T2 want q rows2 got2 := hS2
       have hq : q < want.length := (by omega)
       have hD := sv_done hS2'.sv hq h1 h64
       first
       | (show T3 n want q n.toNat _ _; exact ⟨hS2'.wl, hD.2.2.2⟩)
       | (rw [wrap_id (by omega) (by omega)]; omega)
       | (exfalso; have h5 : (!(doneA rows2 0 ((q + 1 : Nat) : Int)).2) = true := (by assumption); rw [hD.2.2.1] at h5; cases h5)
       | (exfalso; have h5 : ((curR rows2 0).1.seq != ((q + 1 : Nat) : Int)) = true := (by assumption); rw [hD.1] at h5; dsimp only at h5; rw [hD.2.1] at h5; simp at h5; done)
       | (exfalso; have h5 : (!(curR rows2 0).2) = true := (by assumption); rw [hD.1] at h5; cases h5))
    | (have hS2' : T2 want q rows2 got2 := hS2
       have hE := sv_end hS2'.sv (by omega)
       first
       | exact ⟨by rw [hE.2.2]; decide⟩
       | (rw [hE.2.2]; rfl)
       | (exfalso; have h5 : (!(curR rows2 0).2) = false := (by assumption); rw [hE.1] at h5; cases h5)
       | exact absurd hE.2.1 (by assumption))
    | skip)
end Go.Proofs.Ytpjdicndjakeoaa

