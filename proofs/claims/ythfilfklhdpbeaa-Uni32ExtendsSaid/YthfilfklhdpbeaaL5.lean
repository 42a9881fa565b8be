/- UTF-32: the law Words, walked. -/
import Derived.Test.YthfilfklhdpbeaaL4
namespace Go.Proofs.Ythfilfklhdpbeaa
open Go.RowKit Go.Proofs.YthfilfklhdpbeaaW.PrintWords Go.Proofs.YthfilfklhdpbeaaW.PrintMore
set_option linter.unusedVariables false
set_option linter.unusedSimpArgs false
theorem cnx_os {s s' : CS} {b : Int} {r : Option Int} (h : cnx s b = some (s', r)) : (r.toList.length : Int) * 4 + s'.hv = s.hv + 1 := by
  unfold cnx at h
  split at h
  · split at h
    · rename_i h3
      cases h
      rw [h3]; rfl
    · cases h
      simp
  · cases h
theorem run_os : ∀ (l : List Int) {s s' : CS} {os : List Int}, run cnx s l = some (s', os) → (os.length : Int) * 4 + s'.hv = s.hv + l.length
  | [], s, s', os, h => by
    simp [run] at h
    obtain ⟨rfl, rfl⟩ := h
    simp
  | b :: l, s, s', os, h => by
    rw [run] at h
    cases hc : cnx s b with
    | none => rw [hc] at h; cases h
    | some p =>
      rw [hc] at h
      cases hr : run cnx p.1 l with
      | none => simp [hr] at h
      | some q =>
        simp [hr] at h
        have h1 := cnx_os (s' := p.1) (r := p.2) hc
        have h2 := run_os l (s' := q.1) (os := q.2) hr
        obtain ⟨rfl, rfl⟩ := h
        rw [List.length_append, List.length_cons]
        omega
theorem read_bad {w w' : World} {g T : Nat} {t : ByteArray} {big : Bool} {en : Ending} (h : ReadPost w g T t ⟨big, 0, 0⟩ en w') (hr : run cnx ⟨big, 0, 0⟩ (bytesOf t) = none) (ht : t.size = 4) :
    ∃ r m s, en = .returned (.tuple #[r, .bool true]) ∧ w'.ownsRow w.heap.size 22 1 r 0 [] ∧ Kp (fun k => k = g) w w' ∧ Dec w' g T m 3 m false nilv [] (cown s) := by
  obtain ⟨m, os, r, s, rfl, hm, hrun, ho, hkp, hol, hcs, hend⟩ := h
  have hl := bytesOf_length t
  have hne : m ≠ t.size := by
    intro h0
    rw [h0, List.take_of_length_le (by omega), hr] at hrun
    cases hrun
  rcases hend with ⟨h0, h1, h2⟩ | ⟨h0, h1, h2⟩ | ⟨h0, h1, s', h2⟩
  · exact absurd h0 hne
  · exact absurd h0 hne
  · have h3 := run_os _ hrun
    rw [List.length_take, hl, Nat.min_eq_left hm] at h3
    have h4 := hcs.1
    have h5 : (CS.mk big 0 0).hv = 0 := rfl
    have h6 : os.length = 0 := by omega
    obtain rfl := List.eq_nil_of_length_eq_zero h6
    exact ⟨r, m, s', rfl, ho, hkp, h2⟩
theorem refis_any (c : Int) (w : World) : Calls Try.prog 13 #[.int .u32 c] w fun en w' => en = .returned (.bool (isB c)) ∧ ∃ n, w' = w.drewN n :=
  (PUni32Writes.pilcrowref01_Is.calls c _ w (isF2_at c)).mono fun e w' ⟨he, hd⟩ => ⟨he, hd.out⟩
set_option maxHeartbeats 8000000 in
theorem words_walk {w : World} (c : Int) (big : Bool) (hc0 : 0 ≤ c) (hc1 : c ≤ 4294967295) :
    Calls Try.prog 3 #[.int .u32 c, .bool big] w fun en w' => en = .returned (.bool true) ∧ Below w.heap.size w w' := by
  have heq := eqF
  have huF := fld0
  have HC : Hid (∀ k, 0 ≤ ([c] : List Int).getD k 0 ∧ ([c] : List Int).getD k 0 ≤ 4294967295) := Lib.hid (fun k => by rcases k with _ | k <;> simp <;> omega)
  go_enter Try.func3, Try.ntmps3
  go_wp2_with fail
  refine (awake_any _).mono ?_
  rintro en w2 ⟨rfl, hb2⟩
  have HB2 := Lib.hid hb2
  clear hb2
  go_wp2_with fail
  refine (newd_any big _).mono ?_
  rintro en w3 ⟨rfl, hd3, hb3⟩
  have HS2 := Lib.hid HB2.out.size
  generalize hg2 : w2.heap.size = g at *
  have HB3 := Lib.hid (HB2.out.trans (hb3.mono HS2.out))
  have HD3 := Lib.hid hd3
  clear hd3 hb3 hg2
  go_wp2_with fail
  refine (refbytes_any (ls := [c]) big (box_reads w3 c) (Nat.le_refl _) (by decide) HC.out).mono ?_
  rintro en w4 ⟨x, rfl, hx, hb4⟩
  have hb34 : Below w3.heap.size w3 w4 := (((Kp.refl (fun _ => False) w3).alloc _).below (Nat.le_refl _) (fun _ h => h.elim)).trans (hb4.mono (by simp))
  have HB4 := Lib.hid (HB3.out.trans (hb34.mono HB3.out.size))
  have HD4 := Lib.hid (HD3.out.below hb34)
  have hxs : x.size = 4 := by
    have h8 := bytesOf_length x
    rw [hx, flat_len] at h8
    simpa using h8.symm
  have hx2 : bytesOf x = rby big c := by rw [hx]; simp
  have HX := Lib.hid hx2
  have HXS := Lib.hid hxs
  clear hb4 hb34 hx hxs hx2
  go_wp2_with fail
  have hread := read_any (w := w4) x none none 0 0 0 0 [] [] ⟨big, 0, 0⟩ (cok0 big) (by have := HXS.out; omega) (by omega) (by omega) (reads_nil _ _) (reads_nil _ _) none_ne none_ne HD4.out
  have hword := word_rby big c hc0 hc1
  rw [← HX.out] at hword
  cases hb : isB c with
  | true =>
    rw [if_pos hb] at hword
    refine hread.mono ?_
    rintro en w5 h5
    obtain ⟨r, rfl, ho, hk, _, hd⟩ := read_whole h5 hword rfl
    obtain ⟨A5, c5, rfl, hle5, _⟩ := own_reads_of_le (enc := fun x => Value.int .u32 x) (d := (0 : Int)) ho
    have HLE5 := Lib.hid hle5
    have HO5 := Lib.hid ho
    have HD5 := Lib.hid hd
    have HB5 := Lib.hid (HB4.out.trans (hk.below (B := w.heap.size) HB4.out.size (fun k hk => by rw [hk]; exact HS2.out)))
    clear hread hword h5 ho hk hd hle5
    go_wp2_with fail
    refine (refis_any c _).mono ?_
    rw [hb]
    rintro en w6 ⟨rfl, n6, rfl⟩
    have hk6 : Kp (fun k => k = w5.heap.size) w5 (w5.drewN n6) := (Kp.refl _ _).drewN _
    generalize w5.drewN n6 = w6 at *
    have HD6 := Lib.hid (HD5.out.by_ hk6 (Nat.ne_of_lt HD5.out.lt))
    have HO6 := Lib.hid (hk6.own HO5.out (fun k hk h0 => absurd h0 (Nat.ne_of_lt (own_lt HO5.out k hk))))
    have HB6 := Lib.hid (HB5.out.trans ((hk6.below (Nat.le_refl _) (fun k h => Nat.le_of_eq h.symm)).mono HB5.out.size))
    clear hk6
    go_wp2_with fail
    refine (same_any (l0 := [c]) (l1 := [c]) (reads_kp (own_reads' HO6.out) ((Kp.refl (fun _ => False) _).alloc _) (fun _ _ h => h)) (box_reads _ _) HLE5.out (Nat.le_refl _) (show (1 : Nat) ≤ 1000000000 by decide)).mono ?_
    rintro en w8 ⟨rfl, n8, rfl⟩
    rw [decide_eq_true rfl]
    have hk8 : Kp (fun k => k = w6.heap.size) w6 ((w6.alloc (.cells #[.int .u32 c] 22)).drewN n8) := ((Kp.refl _ _).alloc _).drewN _
    generalize hg8 : (w6.alloc (.cells #[.int .u32 c] 22)).drewN n8 = w8 at *
    have HD8 := Lib.hid (HD6.out.by_ hk8 (Nat.ne_of_lt HD6.out.lt))
    have HB8 := Lib.hid (HB6.out.trans ((hk8.below (Nat.le_refl _) (fun k h => Nat.le_of_eq h.symm)).mono HB6.out.size))
    clear hk8 hg8
    go_wp2_with fail
    refine (dec_fail HD8.out).mono ?_
    rintro en w9 ⟨rfl, hb9⟩
    have HB9 := Lib.hid (HB8.out.trans (hb9.mono HB8.out.size))
    clear hb9
    go_wp2_with fail
    go_ret
    exact ⟨rfl, HB9.out⟩
  | false =>
    rw [if_neg (by rw [hb]; decide)] at hword
    refine hread.mono ?_
    rintro en w5 h5
    obtain ⟨r, m, s, rfl, ho, hk, hd⟩ := read_bad h5 hword HXS.out
    obtain ⟨A5, c5, rfl, hle5, _⟩ := own_reads_of_le (xs := ([] : List Int)) (enc := fun x => Value.int .u32 x) (d := (0 : Int)) ho
    have HD5 := Lib.hid hd
    have HB5 := Lib.hid (HB4.out.trans (hk.below (B := w.heap.size) HB4.out.size (fun k hk => by rw [hk]; exact HS2.out)))
    clear hread hword h5 ho hk hd hle5
    go_wp2_with fail
    refine (refis_any c _).mono ?_
    rw [hb]
    rintro en w6 ⟨rfl, n6, rfl⟩
    have hk6 : Kp (fun k => k = w5.heap.size) w5 (w5.drewN n6) := (Kp.refl _ _).drewN _
    generalize w5.drewN n6 = w6 at *
    have HD6 := Lib.hid (HD5.out.by_ hk6 (Nat.ne_of_lt HD5.out.lt))
    have HB6 := Lib.hid (HB5.out.trans ((hk6.below (Nat.le_refl _) (fun k h => Nat.le_of_eq h.symm)).mono HB5.out.size))
    clear hk6
    go_wp2_with fail
    refine (dec_fail HD6.out).mono ?_
    rintro en w9 ⟨rfl, hb9⟩
    have HB9 := Lib.hid (HB6.out.trans (hb9.mono HB6.out.size))
    clear hb9
    go_wp2_with fail
    go_ret
    exact ⟨rfl, HB9.out⟩
theorem words_all {w : World} (c : Int) (hc : (Lit.int .u32 c).wf = true) (big : Bool) :
    Calls Try.prog 3 #[.int .u32 c, .bool big] w fun en w' => en = .returned (.bool true) ∧ Below w.heap.size w w' := by
  have h := bounds_u32 hc
  exact words_walk c big h.1 h.2
end Go.Proofs.Ythfilfklhdpbeaa
