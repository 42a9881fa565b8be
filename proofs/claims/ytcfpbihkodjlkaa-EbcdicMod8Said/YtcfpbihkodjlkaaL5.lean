/- Layer 6's Feed, told to the last byte: how many are eaten is settled. -/
import Derived.Test.YtcfpbihkodjlkaaMA
import Derived.Test.YtcfpbihkodjlkaaRun
import Derived.LoopTactic
import Derived.Test.YtcfpbihkodjlkaaLc
import Derived.Deep.RegionHeld3
namespace Go.Proofs.Ytcfpbihkodjlkaa.M.X
open Go.RowKit Go.Proofs.YtcfpbihkodjlkaaW.PrintWords Go.Proofs.YtcfpbihkodjlkaaW.PrintMore
open M (bytesOf_range getD_bt bytes_mid)
open M (isB isB_range is_any)
set_option linter.unusedVariables false
set_option linter.unusedSimpArgs false
variable {ext : List Value}
section
variable {w : World} {g T : Nat} {a e f : Int} {d : Bool} {v : Value} {xs : List Int}
variable (ext) in
/-- What holds at a round's head: so many bytes were eaten, and what they told waits. -/
structure FeedAt (w : World) (g T : Nat) (a : Int) (v : Value) (s0 : CS) (t : ByteArray) (room : Int) (k : Nat) (os : List Int) (s : CS) (v' : Value) (w' : World) : Prop where
  le : k ≤ t.size
  run : run cnx s0 ((bytesOf t).take k) = some (s, os)
  dec : Dec w' g T (a + k) 0 0 false v' os (cown s ++ ext)
  stp : Stp w g v w' v'
  bef : ∀ j, j < k → ∀ s1 o1, Go.Proofs.Ytcfpbihkodjlkaa.run cnx s0 ((bytesOf t).take j) = some (s1, o1) → (o1.length : Int) < room
  room : (os.length : Int) ≤ room ∨ os = []
  ok : cok s
  few : os.length ≤ k
variable (ext) in
def FeedRel (w : World) (g T : Nat) (a : Int) (v : Value) (s0 : CS) (t : ByteArray) (room : Int) (n : Value) (w' : World) : Prop :=
  ∃ k os s v', n = .int .i64 (k : Nat) ∧ FeedAt ext w g T a v s0 t room k os s v' w'
variable (ext) in
/-- What Feed hands back: how many bytes were eaten, what they told; it goes on, or the next byte is wrong. -/
def FeedPost (w : World) (g T : Nat) (a : Int) (s0 : CS) (t : ByteArray) (room : Int) (en : Ending) (w' : World) : Prop :=
  ∃ (m : Nat) (os : List Int) (r : Value) (s : CS), en = .returned (.tuple #[.int .i64 m, r]) ∧ m ≤ t.size ∧ run cnx s0 ((bytesOf t).take m) = some (s, os) ∧ w'.ownsRow w.heap.size 22 1 r os.length (nums .u32 os) ∧ Kp (fun k => k = g) w w' ∧
    ((os.length : Int) ≤ room ∨ os = []) ∧ os.length ≤ m ∧ cok s ∧ (∀ j, j < m → ∀ s1 o1, run cnx s0 ((bytesOf t).take j) = some (s1, o1) → (o1.length : Int) < room) ∧
    ((Dec w' g T (a + m) 0 0 false nilv [] (cown s ++ ext) ∧ (m = t.size ∨ room ≤ os.length)) ∨
     (m < t.size ∧ (os.length : Int) < room ∧ cnx s (bt t m) = none ∧ ∃ s', Dec w' g T (a + m) 3 (a + m) false nilv [] (cown s' ++ ext)))
theorem feed_end {w wr w' : World} {g T : Nat} {a : Int} {v1 r v' : Value} {s0 s : CS} {t : ByteArray} {room : Int} {k : Nat} {os : List Int} (h : FeedAt ext w g T a nilv s0 t room k os s v1 wr) (hx : k = t.size ∨ room ≤ os.length)
    (hd : Dec w' g T (a + k) 0 0 false v' (os.drop (min room.toNat os.length)) (cown s ++ ext)) (ho : w'.ownsRow wr.heap.size 22 1 r (os.take (min room.toNat os.length)).length (nums .u32 (os.take (min room.toNat os.length)))) (hs : Stp wr g v1 w' v') (hv : os.length ≤ room.toNat → v' = .slice none 0 0) :
    FeedPost ext w g T a s0 t room (.returned (.tuple #[.int .i64 k, r])) w' := by
  have hle : os.length ≤ room.toNat := by rcases h.room with h1 | h1 <;> simp_all <;> omega
  obtain rfl := hv hle
  have hm : min room.toNat os.length = os.length := by omega
  rw [hm, List.take_length] at ho
  rw [hm, List.drop_length] at hd
  exact ⟨k, os, r, s, rfl, h.le, h.run, own_weaken ho h.stp.kp.size, (h.stp.trans hs).nil, h.room, h.few, h.ok, h.bef, .inl ⟨hd, hx⟩⟩
theorem feed_wrong {w wr w1 w' : World} {g T : Nat} {a : Int} {v1 r v' v2 : Value} {s0 s s1 : CS} {t : ByteArray} {room : Int} {k : Nat} {os : List Int} (h : FeedAt ext w g T a nilv s0 t room k os s v1 wr) (hk : k < t.size) (hroom : (os.length : Int) < room) (hn : cnx s (bt t k) = none) (hs1 : Stp wr g v1 w1 v2)
    (hd : Dec w' g T (a + k) 3 (a + k) false v' (os.drop (min room.toNat os.length)) (cown s1 ++ ext)) (ho : w'.ownsRow w1.heap.size 22 1 r (os.take (min room.toNat os.length)).length (nums .u32 (os.take (min room.toNat os.length)))) (hs : Stp w1 g v2 w' v') (hv : os.length ≤ room.toNat → v' = .slice none 0 0) :
    FeedPost ext w g T a s0 t room (.returned (.tuple #[.int .i64 k, r])) w' := by
  have hle : os.length ≤ room.toNat := by rcases h.room with h1 | h1 <;> simp_all <;> omega
  obtain rfl := hv hle
  have hm : min room.toNat os.length = os.length := by omega
  rw [hm, List.take_length] at ho
  rw [hm, List.drop_length] at hd
  exact ⟨k, os, r, s, rfl, h.le, h.run, own_weaken ho (Nat.le_trans h.stp.kp.size hs1.kp.size), ((h.stp.trans hs1).trans hs).nil, h.room, h.few, h.ok, h.bef, .inr ⟨hk, hroom, hn, s1, hd⟩⟩
theorem feed_on {w wr w' : World} {g T : Nat} {a : Int} {v v1 v' : Value} {s0 s s1 : CS} {t : ByteArray} {room : Int} {k : Nat} {os : List Int} {r : Option Int} (h : FeedAt ext w g T a v s0 t room k os s v1 wr) (hk : k < t.size) (hr : (os.length : Int) < room) (hn : cnx s (bt t k) = some (s1, r))
    (hd : Dec w' g T (a + k + 1) 0 0 false v' (os ++ r.toList) (cown s1 ++ ext)) (hs : Stp wr g v1 w' v') : FeedRel ext w g T a v s0 t room (.int .i64 ((k : Int) + 1)) w' := by
  have hl : r.toList.length ≤ 1 := by cases r <;> simp
  refine ⟨k + 1, os ++ r.toList, s1, v', rfl, hk, ?_, ?_, h.stp.trans hs, ?_, .inl (by rw [List.length_append]; omega), cnx_ok h.ok hn, by rw [List.length_append]; have := h.few; omega⟩
  · rw [take_bt t k hk, run_snoc, h.run]
    simp only [Option.bind_some, hn, Option.map_some]
  · rw [show a + ((k + 1 : Nat) : Int) = a + k + 1 by omega]
    exact hd
  · intro j hj s2 o2 h2
    rcases Nat.lt_or_ge j k with h3 | h3
    · exact h.bef j h3 s2 o2 h2
    · obtain rfl : j = k := by omega
      rw [h.run] at h2
      simp only [Option.some.injEq, Prod.mk.injEq] at h2
      rw [← h2.2]; exact hr
theorem feed_any (t : ByteArray) (room : Int) (s0 : CS) (hs : cok s0) (ht : t.size ≤ 1000000) (ha0 : 0 ≤ a) (ha1 : a ≤ 1000000000) (h : Dec w g T a 0 0 false nilv [] (cown s0 ++ ext)) :
    Calls Try.prog 30 #[.pointer (some ⟨g, 0, none⟩), .string t, .int .i64 room] w (FeedPost ext w g T a s0 t room) := by
  have HS : Hid (FeedRel ext w g T a nilv s0 t room (.int .i64 0) w) := ⟨0, [], s0, nilv, rfl, Nat.zero_le _, rfl, by simpa using h, Stp.refl _ _ _, fun j hj => absurd hj (Nat.not_lt_zero _), .inr rfl, hs, Nat.zero_le _⟩
  clear h hs
  go_enter Try.func30, Try.ntmps30
  go_wp2_with fail
  go_loopw [8] (fun n wr => FeedRel ext w g T a nilv s0 t room n wr) (fun n _ => t.size - (intOf n).toNat)
  case atStart => exact HS.out
  case round =>
    obtain ⟨k, os, s, v1, rfl, hk⟩ := hrel
    have hle := hk.le
    have hfew := hk.few
    have HD := Lib.hid hk.dec
    have HK := Lib.hid hk
    have HO := Lib.hid hk.ok
    clear hk
    by_cases hlt : k < t.size
    · by_cases hroom : (os.length : Int) < room
      · have he : ((t[k]'hlt).toNat : Int) = bt t k := bt_at t k hlt
        have hb : 0 ≤ ((t[k]'hlt).toNat : Int) ∧ ((t[k]'hlt).toNat : Int) ≤ 255 := he ▸ bt_range t k
        have HB := Lib.hid hb
        cases hn : cnx s (bt t k) with
        | none =>
          have hn1 : cnx s ((t[k]'hlt).toNat : Int) = none := by rw [he]; exact hn
          have HN := Lib.hid hn
          have HN1 := Lib.hid hn1
          clear hn hn1 he hb
          go_wp2_with (first | (go_at_call 46; go_must (refine (dec_held HD.out).mono ?_); rintro e w' ⟨rfl, rfl⟩) | (go_at_call 47; go_must (refine (going_yes HD.out.bs).mono ?_); rintro e w' ⟨rfl, rfl⟩) | (go_at_call 48; go_must (refine (next_none s _ HO.out HB.out.1 HB.out.2 (by omega) HN1.out HD.out).mono ?_); rintro e w2 ⟨rfl, s2, v2, hd2, hs2⟩; have HD2 := Lib.hid hd2; have HS2 := Lib.hid hs2; clear hd2 hs2) | (go_at_call 49; go_must (refine (dec_stop 3 rfl HD2.out).mono ?_); rintro e w3 ⟨rfl, hd3, hs3⟩; have HD3 := Lib.hid hd3; have HS3 := Lib.hid hs3; clear hd3 hs3) | (go_at_call 51; go_must (refine (dec_tell room (by omega) HD3.out).mono ?_); rintro e w4 ⟨r4, v4, rfl, hd4, ho4, hs4, hv4⟩; have HD4 := Lib.hid hd4; have HO4 := Lib.hid ho4; have HS4 := Lib.hid hs4; have HV4 := Lib.hid hv4; clear hd4 ho4 hs4 hv4))
          go_ret2
          exact feed_wrong HK.out hlt hroom HN.out (HS2.out.trans HS3.out) HD4.out HO4.out HS4.out HV4.out
        | some p =>
          obtain ⟨s1, r⟩ := p
          have hn1 : cnx s ((t[k]'hlt).toNat : Int) = some (s1, r) := by rw [he]; exact hn
          have HN := Lib.hid hn
          have HN1 := Lib.hid hn1
          clear hn hn1 he hb
          go_wp2_with (first | (go_at_call 46; go_must (refine (dec_held HD.out).mono ?_); rintro e w' ⟨rfl, rfl⟩) | (go_at_call 47; go_must (refine (going_yes HD.out.bs).mono ?_); rintro e w' ⟨rfl, rfl⟩) | (go_at_call 48; go_must (refine (next_some s s1 r _ HO.out HB.out.1 HB.out.2 (by omega) HN1.out HD.out).mono ?_); rintro e w2 ⟨rfl, v2, hd2, hs2⟩; have HD2 := Lib.hid hd2; have HS2 := Lib.hid hs2; clear hd2 hs2) | (go_at_call 50; go_must (refine (dec_eat 1 (by omega) (by omega) (by omega) (by omega) HD2.out).mono ?_); rintro e w3 ⟨rfl, hd3, hs3⟩; have HD3 := Lib.hid hd3; have HS3 := Lib.hid hs3; clear hd3 hs3))
          go_roundw
          case rel => exact feed_on HK.out hlt hroom HN.out HD3.out (HS2.out.trans HS3.out)
          case measure => simp [intOf]; omega
      · have HE := Lib.hid (show k = t.size ∨ room ≤ os.length from .inr (by omega))
        go_wp2_with (first | (go_at_call 46; go_must (refine (dec_held HD.out).mono ?_); rintro e w' ⟨rfl, rfl⟩) | (go_at_call 51; go_must (refine (dec_tell room (by omega) HD.out).mono ?_); rintro e w4 ⟨r4, v4, rfl, hd4, ho4, hs4, hv4⟩; have HD4 := Lib.hid hd4; have HO4 := Lib.hid ho4; have HS4 := Lib.hid hs4; have HV4 := Lib.hid hv4; clear hd4 ho4 hs4 hv4))
        go_ret2
        exact feed_end HK.out HE.out HD4.out HO4.out HS4.out HV4.out
    · have HE := Lib.hid (show k = t.size ∨ room ≤ os.length from .inl (by omega))
      go_wp2_with (first | (go_at_call 51; go_must (refine (dec_tell room (by omega) HD.out).mono ?_); rintro e w4 ⟨r4, v4, rfl, hd4, ho4, hs4, hv4⟩; have HD4 := Lib.hid hd4; have HO4 := Lib.hid ho4; have HS4 := Lib.hid hs4; have HV4 := Lib.hid hv4; clear hd4 ho4 hs4 hv4))
      go_ret2
      exact feed_end HK.out HE.out HD4.out HO4.out HS4.out HV4.out
end
end Go.Proofs.Ytcfpbihkodjlkaa.M.X
namespace Go.Proofs.Ytcfpbihkodjlkaa
open Go.RowKit Go.Proofs.YtcfpbihkodjlkaaW.PrintWords Go.Proofs.YtcfpbihkodjlkaaW.PrintMore
set_option linter.unusedVariables false
set_option linter.unusedSimpArgs false
set_option maxRecDepth 20000
section
variable {w : World} {g T : Nat} {a : Int}
/-- Feed, told to the last byte. -/
theorem xfeed_any (t : ByteArray) (room : Int) (s0 : CS) (hs : cok s0) (ht : t.size ≤ 100000) (ha0 : 0 ≤ a) (ha1 : a ≤ 1000000000) (htb : Tab w s0.tb) (h : Dec w g T a 0 0 false nilv [] (cown s0)) :
    Calls Try.prog 29 #[.pointer (some ⟨g, 0, none⟩), .string t, .int .i64 room] w fun en w' => ∃ w1, Below w.heap.size w w1 ∧ M.X.FeedPost [.pointer (some ⟨s0.tb, 0, none⟩)] w1 g T a s0.m (unT t) room en w' := by
  have hc9 : w.drew.cell? ⟨g, 9, none⟩ = some (.pointer (some ⟨s0.tb, 0, none⟩)) := h.co 4
  have HD := Lib.hid h
  have HT := Lib.hid htb
  have HTZ : Hid ((unT t).size ≤ 1000000) := Lib.hid (by rw [unT_size]; omega)
  clear h htb
  go_enter Try.func29, Try.ntmps29
  go_wp2_with fail
  have HDR : Hid (Below w.heap.size w w.drew) := Lib.hid (((Kp.refl (fun _ => False) w).drew).below (Nat.le_refl _) (fun _ h => h.elim))
  go_region_held3 (fun w' => w'.cell? ⟨g, 9, none⟩ = some (.pointer (some ⟨s0.tb, 0, none⟩))) (first | assumption | go_keep) (first
    | (go_at_call 45; (with_reducible refine (back_any (w := w.drew) t ht (HT.out.kp ((Kp.refl (fun _ => False) w).drew) (fun h => h))).mono ?_); rintro e w1 ⟨rfl, hb1⟩; have HB1 := Lib.hid (HDR.out.trans hb1); have HD1 : Hid (Dec w1 g T a 0 0 false nilv [] (M.cown s0.m ++ [.pointer (some ⟨s0.tb, 0, none⟩)])) := Lib.hid (HD.out.below HB1.out); have hc91 : w1.cell? ⟨g, 9, none⟩ = some (.pointer (some ⟨s0.tb, 0, none⟩)) := HD1.out.co 4; clear hb1)
    | (go_at_call 30; (refine (M.X.feed_any (w := w1) (ext := [.pointer (some ⟨s0.tb, 0, none⟩)]) (unT t) room s0.m hs HTZ.out ha0 ha1 HD1.out).mono ?_); rintro e w2 h2; have H2 := Lib.hid h2; obtain ⟨m2, os2, r2, s2, rfl, q2⟩ := h2; have hc92 : w2.cell? ⟨g, 9, none⟩ = some (.pointer (some ⟨s0.tb, 0, none⟩)) := (by obtain ⟨_, _, _, _, _, _, _, _, q8⟩ := q2; rcases q8 with ⟨q9, _⟩ | ⟨_, _, _, s9, q9⟩ <;> exact q9.co 4); clear q2)
    | (fail))
  go_wp2_with fail
  go_ret2
  exact ⟨_, HB1.out, H2.out⟩
end
/-- How a Feed ended: it goes on, or the next byte is wrong. -/
def Kind (s0 : M.CS) (t : ByteArray) (room : Int) (m : Nat) (os : List Int) (s : M.CS) : Bool → Prop
  | false => m = t.size ∨ room ≤ (os.length : Int)
  | true => m < t.size ∧ (os.length : Int) < room ∧ M.cnx s (bt t m) = none
structure Fed (s0 : M.CS) (t : ByteArray) (room : Int) (m : Nat) (os : List Int) (s : M.CS) (st : Bool) : Prop where
  le : m ≤ t.size
  rn : run M.cnx s0 ((bytesOf t).take m) = some (s, os)
  bef : ∀ j, j < m → ∀ s1 o1, run M.cnx s0 ((bytesOf t).take j) = some (s1, o1) → (o1.length : Int) < room
  kd : Kind s0 t room m os s st
theorem Fed.nlt {s0 : M.CS} {t : ByteArray} {room : Int} {m m2 : Nat} {os os2 : List Int} {s s2 : M.CS} {st st2 : Bool} (h : Fed s0 t room m os s st) (h2 : Fed s0 t room m2 os2 s2 st2) : ¬ m < m2 := by
  intro hlt
  have h3 := h2.bef m hlt s os h.rn
  have hk := h.kd
  have hle := h2.le
  cases st with
  | false =>
    rcases hk with hk | hk
    · omega
    · omega
  | true =>
    obtain ⟨h4, _, h5⟩ := hk
    have h6 : run M.cnx s0 ((bytesOf t).take (m + 1)) = none := by rw [take_bt t m h4, run_snoc, h.rn, Option.bind_some, h5]; rfl
    have h7 := M.run_none (k := m + 1) (m := m2) hlt h6
    rw [h2.rn] at h7
    cases h7
theorem Fed.det {s0 : M.CS} {t : ByteArray} {room : Int} {m m2 : Nat} {os os2 : List Int} {s s2 : M.CS} {st st2 : Bool} (h : Fed s0 t room m os s st) (h2 : Fed s0 t room m2 os2 s2 st2) : m = m2 ∧ os = os2 ∧ s = s2 ∧ st = st2 := by
  have e1 := h.nlt h2
  have e2 := h2.nlt h
  obtain rfl : m = m2 := by omega
  have hr := h.rn
  rw [h2.rn] at hr
  simp only [Option.some.injEq, Prod.mk.injEq] at hr
  obtain ⟨rfl, rfl⟩ := hr
  refine ⟨rfl, rfl, rfl, ?_⟩
  have k1 := h.kd
  have k2 := h2.kd
  cases st <;> cases st2
  · rfl
  · obtain ⟨k3, k4, _⟩ := k2
    rcases k1 with k1 | k1 <;> omega
  · obtain ⟨k3, k4, _⟩ := k1
    rcases k2 with k2 | k2 <;> omega
  · rfl
/-- A decoder of layer 6 as Feed leaves it. -/
def Aft (w : World) (g T : Nat) (m : Int) (ext : List Value) (s : M.CS) : Bool → Prop
  | false => Dec w g T m 0 0 false nilv [] (M.cown s ++ ext)
  | true => ∃ s', Dec w g T m 3 m false nilv [] (M.cown s' ++ ext)
theorem fed_of {w w' : World} {g T : Nat} {s0 : M.CS} {t : ByteArray} {room : Int} {ext : List Value} {en : Ending} (h : M.X.FeedPost ext w g T 0 s0 t room en w') :
    ∃ m os r s st, en = .returned (.tuple #[.int .i64 (m : Nat), r]) ∧ Fed s0 t room m os s st ∧ w'.ownsRow w.heap.size 22 1 r os.length (nums .u32 os) ∧ Kp (fun k => k = g) w w' ∧ os.length ≤ m ∧ Aft w' g T m ext s st := by
  obtain ⟨m, os, r, s, rfl, hm, hr, ho, hk, _, hl, _, hb, hc⟩ := h
  rcases hc with ⟨h1, h2⟩ | ⟨h1, h2, h3, s', h4⟩
  · exact ⟨m, os, r, s, false, rfl, ⟨hm, hr, hb, h2⟩, ho, hk, hl, by rw [Int.zero_add] at h1; exact h1⟩
  · exact ⟨m, os, r, s, true, rfl, ⟨hm, hr, hb, h1, h2, h3⟩, ho, hk, hl, s', by rw [Int.zero_add] at h4; exact h4⟩
def outE (st cut : Bool) : Int := if st = true then 3 else if cut = true then 4 else 0
def outF (st cut : Bool) (m : Int) : Int := if st = true then m else if cut = true then m else 0
def outD (st cut : Bool) : Bool := !st && !cut
theorem out_over (st cut : Bool) : (outE st cut == 0 && !outD st cut) = false := by cases st <;> cases cut <;> rfl
theorem aft_end {w : World} {g T : Nat} {m : Int} {ext : List Value} {s : M.CS} {st : Bool} (h : Aft w g T m ext s st) :
    Calls Try.prog 32 #[.pointer (some ⟨g, 0, none⟩)] w fun en w' => en = .returned (.tuple #[]) ∧ (∃ s', Dec w' g T m (outE st (M.ccut s)) (outF st (M.ccut s) m) (outD st (M.ccut s)) nilv [] (M.cown s' ++ ext)) ∧ Kp (fun k => k = g) w w' := by
  cases st with
  | false =>
    cases hc : M.ccut s with
    | false =>
      refine (M.dend_ok (ext := ext) s hc h).mono ?_
      rintro en w' ⟨h1, h2, h3⟩
      exact ⟨h1, ⟨s, h2⟩, h3.nil⟩
    | true =>
      refine (M.dend_cut (ext := ext) s hc h).mono ?_
      rintro en w' ⟨h1, h2, h3⟩
      exact ⟨h1, ⟨s, h2⟩, h3.nil⟩
  | true =>
    obtain ⟨s', h⟩ := h
    refine (M.dend_err (ext := ext) s' rfl h).mono ?_
    rintro en w' ⟨h1, rfl⟩
    exact ⟨h1, ⟨s', h⟩, Kp.refl _ _⟩
theorem mnewd_any (w : World) : Calls Try.prog 28 #[] w fun en w' => en = .returned (.pointer (some ⟨w.heap.size, 0, none⟩)) ∧ Dec w' w.heap.size 51 0 0 0 false nilv [] (M.cown M.st0 ++ []) ∧ Below w.heap.size w w' := by
  go_enter Try.func28, Try.ntmps28
  go_wp2
  go_ret
  exact ⟨rfl, ⟨blk_new _ _, q_none _ _, fun h => by cases h⟩, (Below.refl _ _).alloc (Nat.le_refl _) _⟩
theorem Aft.by_ {w w' : World} {g g' T : Nat} {m : Int} {ext : List Value} {s : M.CS} {st : Bool} (h : Aft w g T m ext s st) (hk : Kp (fun k => k = g') w w') (hne : g ≠ g') : Aft w' g T m ext s st := by
  cases st with
  | false => exact Dec.by_ h hk hne
  | true =>
    obtain ⟨s', h⟩ := h
    exact ⟨s', h.by_ hk hne⟩
theorem Aft.lt {w : World} {g T : Nat} {m : Int} {ext : List Value} {s : M.CS} {st : Bool} (h : Aft w g T m ext s st) : g < w.heap.size := by
  cases st with
  | false => exact Dec.lt h
  | true => obtain ⟨s', h⟩ := h; exact h.lt
theorem mod8_great (t : ByteArray) (room : Int) (w : World) (hg : (decide (400 < (t.size : Int)) || (decide (200 < 0) || decide (200 < 0))) = true) :
    Calls Try.prog 9 #[.string t, .int .i64 room] w fun en w' => en = .returned (.bool true) ∧ Below w.heap.size w w' := by
  go_enter Try.func9, Try.ntmps9
  go_wp2_with fail
  refine (awake_any _).mono ?_
  rintro en w2 ⟨rfl, hb2⟩
  have HB2 := Lib.hid hb2
  clear hb2
  go_wp2_with fail
  refine (great_any _ _ _ _ _ _ _ _).mono ?_
  rw [hg]
  rintro en w3 ⟨rfl, rfl⟩
  go_wp2_with fail
  refine (awake_any _).mono ?_
  rintro en w4 ⟨rfl, hb4⟩
  have HB4 := Lib.hid (HB2.out.trans (hb4.mono HB2.out.size))
  clear hb4
  go_wp2_with fail
  go_ret
  exact ⟨rfl, HB4.out⟩
set_option maxHeartbeats 8000000 in
theorem mod8_walk {w : World} (t : ByteArray) (room : Int) (hg : (decide (400 < (t.size : Int)) || (decide (200 < 0) || decide (200 < 0))) = false) :
    Calls Try.prog 9 #[.string t, .int .i64 room] w fun en w' => en = .returned (.bool true) ∧ Below w.heap.size w w' := by
  have heq := eqF
  have hz0 : t.size ≤ 400 := by simp at hg; omega
  go_enter Try.func9, Try.ntmps9
  go_wp2_with fail
  refine (awake_any _).mono ?_
  rintro en w2 ⟨rfl, hb2⟩
  have HB2 := Lib.hid hb2
  clear hb2
  go_wp2_with fail
  refine (great_any _ _ _ _ _ _ _ _).mono ?_
  rw [hg]
  rintro en w3 ⟨rfl, rfl⟩
  go_wp2_with fail
  refine (newd_any _).mono ?_
  rintro en w3 ⟨g, tb, rfl, hl3, hx3, ht3, hd3, hb3⟩
  have HB3 := Lib.hid (HB2.out.trans (hb3.mono HB2.out.size))
  have HGW : Hid (w.heap.size ≤ g) := Lib.hid (by have := HB2.out.size; omega)
  have HTa3 := Lib.hid ht3
  have HTn3 : Hid (tb < g) := Lib.hid hx3
  have HD3 := Lib.hid hd3
  have HL3 := Lib.hid hd3.lt
  clear hd3 hb3 ht3 hl3 hx3
  go_wp2_with fail
  refine (mnewd_any _).mono ?_
  rintro en w4 ⟨rfl, hd4, hb4⟩
  generalize hgf : w3.heap.size = gf at *
  have HGF : Hid (g < gf) := Lib.hid (by have := HL3.out; omega)
  have HWF : Hid (w.heap.size ≤ gf) := Lib.hid (by have := HB3.out.size; omega)
  have hb4' : Below w3.heap.size w3 w4 := by rw [hgf]; exact hb4
  have HB4 := Lib.hid (HB3.out.trans (hb4'.mono HB3.out.size))
  have HTa4 := Lib.hid (HTa3.out.kp (F := fun _ => False) (Kp.of_below hb4') (fun h => h))
  have HD4 := Lib.hid (HD3.out.below hb4')
  have HF4 := Lib.hid hd4
  clear hd4 hb4 hb4' hgf
  go_wp2_with fail
  refine (xfeed_any t room _ cok0 (by omega) (by omega) (by omega) HTa4.out HD4.out).mono ?_
  rintro en w5 ⟨w5', hb5, h5⟩
  obtain ⟨m, os, r5, s, st, rfl, hfed, ho5, hk5, hl5, ha5⟩ := fed_of h5
  have hk45 : Kp (fun k => k = g) w4 w5 := (Kp.of_below hb5).trans hk5 (fun k h => .inl h)
  have HO5 := Lib.hid (own_lower ho5 hb5.size)
  obtain ⟨A5, c5, rfl, hle5, _⟩ := own_reads_of_le (enc := fun x => Value.int .u32 x) (d := (0 : Int)) HO5.out
  have HLE5 := Lib.hid hle5
  have HFED := Lib.hid hfed
  have HK5 := Lib.hid hk45
  have HA5 := Lib.hid ha5
  have HF5 := Lib.hid (HF4.out.by_ hk45 (by have := HGF.out; omega))
  have HB5 := Lib.hid (HB4.out.trans (hk45.below (B := w.heap.size) HB4.out.size (fun k hk => by rw [hk]; exact HGW.out)))
  have HL5 := Lib.hid hl5
  clear hb5 h5 hfed ho5 hk5 hl5 ha5 hk45 hle5
  go_wp2_with fail
  refine (rback_any t (by omega) _).mono ?_
  rintro en w6 ⟨rfl, hb6⟩
  have hk6 : Kp (fun _ => False) w5 w6 := Kp.of_below hb6
  have HO6 := Lib.hid (hk6.own HO5.out (fun _ _ h => h))
  have HA6 := Lib.hid (HA5.out.by_ (g' := w5.heap.size) (Kp.of_below hb6) (Nat.ne_of_lt HA5.out.lt))
  have HF6 := Lib.hid (HF5.out.below hb6)
  have HB6 := Lib.hid (HB5.out.trans (hb6.mono HB5.out.size))
  clear hb6 hk6
  go_wp2_with fail
  refine (M.X.feed_any (ext := []) (unT t) room M.st0 M.cok0 (by rw [unT_size]; omega) (by omega) (by omega) HF6.out).mono ?_
  rintro en w7 h7
  obtain ⟨m2, os2, r7, s2, st2, rfl, hfed, ho7, hk7, _, ha7⟩ := fed_of h7
  obtain ⟨rfl, rfl, rfl, rfl⟩ := HFED.out.det hfed
  have HO7 := Lib.hid ho7
  obtain ⟨A7, c7, rfl, hle7, _⟩ := own_reads_of_le (enc := fun x => Value.int .u32 x) (d := (0 : Int)) ho7
  have HLE7 := Lib.hid hle7
  have HF7 := Lib.hid ha7
  have HA7 := Lib.hid (HA6.out.by_ hk7 (by have := HGF.out; omega))
  have HO57 := Lib.hid (hk7.own HO6.out (fun k hk he => by
    have h1 := own_base HO6.out k hk
    have h2 := HF4.out.lt
    omega))
  have HB7 := Lib.hid (HB6.out.trans (hk7.below (B := w.heap.size) HB6.out.size (fun k hk => by rw [hk]; exact HWF.out)))
  clear h7 hfed ho7 hk7 ha7 hle7
  go_wp2_with fail
  refine (aft_end HA7.out).mono ?_
  rintro en w8 ⟨rfl, ⟨s8, hd8⟩, hk8⟩
  have HD8 := Lib.hid hd8
  have HF8 := Lib.hid (HF7.out.by_ hk8 (by have := HGF.out; omega))
  have HO58 := Lib.hid (hk8.own HO57.out (fun k hk he => by
    have h1 := own_base HO57.out k hk
    have h2 := HD4.out.lt
    omega))
  have HO78 := Lib.hid (hk8.own HO7.out (fun k hk he => by
    have h1 := own_base HO7.out k hk
    have h2 := HA6.out.lt
    omega))
  have HB8 := Lib.hid (HB7.out.trans (hk8.below (B := w.heap.size) HB7.out.size (fun k hk => by rw [hk]; exact HGW.out)))
  clear hd8 hk8
  go_wp2_with fail
  refine (aft_end HF8.out).mono ?_
  rintro en w9 ⟨rfl, ⟨s9, hd9⟩, hk9⟩
  have HF9 := Lib.hid hd9
  have HD9 := Lib.hid (HD8.out.by_ hk9 (by have := HGF.out; omega))
  have HO59 := Lib.hid (own_reads' (hk9.own HO58.out (fun k hk he => by
    have h1 := own_base HO58.out k hk
    have h2 := HF4.out.lt
    omega)))
  have HO79 := Lib.hid (own_reads' (hk9.own HO78.out (fun k hk he => by
    have h1 := own_base HO78.out k hk
    have h2 := HF6.out.lt
    omega)))
  have HB9 := Lib.hid (HB8.out.trans (hk9.below (B := w.heap.size) HB8.out.size (fun k hk => by rw [hk]; exact HWF.out)))
  clear hd9 hk9
  have hov := out_over st (M.ccut s)
  generalize outE st (M.ccut s) = e at *
  generalize outF st (M.ccut s) m = f at *
  generalize outD st (M.ccut s) = d at *
  have HOV := Lib.hid hov
  have HOSL : Hid (os.length ≤ 1000000000) := Lib.hid (by have := HL5.out; have := HFED.out.le; rw [unT_size] at this; omega)
  have hee : (e == e && f == f) = true := by simp
  have hmm : ((m : Int) == (m : Int)) = true := by simp
  clear hov
  go_wp2_with fail
  have HDR : Hid (Below w9.heap.size w9 w9.drew) := Lib.hid (((Kp.refl (fun _ => False) w9).drew).below (Nat.le_refl _) (fun _ h => h.elim))
  go_region_held3 (fun _ => True) (first | exact trivial) (first
    | (go_at_call 19; refine (same_any (w := w9.drew) (HO59.out.below HDR.out) (HO79.out.below HDR.out) HLE5.out HLE7.out HOSL.out).mono ?_; rw [decide_eq_true rfl]; rintro e w10 ⟨rfl, hn10⟩; have HB10 : Hid (Below w9.heap.size w9 w10) := Lib.hid (by obtain ⟨n10, rfl⟩ := hn10; exact HDR.out.trans (((Kp.refl (fun _ => False) w9.drew).drewN n10).below (B := w9.heap.size) HDR.out.size (fun _ h => h.elim))); clear hn10)
    | (go_at_call 20; (with_reducible refine (dec_fail (w := w10) (HD9.out.below HB10.out)).mono ?_); rintro e w11 ⟨rfl, hb11⟩; have HB11 := Lib.hid (HB10.out.trans (hb11.mono HB10.out.size)); clear hb11)
    | (go_at_call 20; (with_reducible refine (dec_fail (w := w11) (HF9.out.below HB11.out)).mono ?_); rintro e w12 ⟨rfl, hb12⟩; have HB12 := Lib.hid (HB11.out.trans (hb12.mono HB11.out.size)); clear hb12)
    | (go_at_call 22; (with_reducible refine (dec_at (w := w12) (HD9.out.below HB12.out)).mono ?_); rintro e w' ⟨rfl, rfl⟩)
    | (go_at_call 22; (with_reducible refine (dec_at (w := w12) (HF9.out.below HB12.out)).mono ?_); rintro e w' ⟨rfl, rfl⟩)
    | (go_at_call 33; (with_reducible refine (dec_done_over (w := w12) HOV.out (HD9.out.below HB12.out)).mono ?_); rintro e w' ⟨rfl, rfl⟩)
    | (go_at_call 33; (with_reducible refine (dec_done_over (w := w12) HOV.out (HF9.out.below HB12.out)).mono ?_); rintro e w' ⟨rfl, rfl⟩)
    | (fail))
  go_wp2_with fail
  go_ret
  exact ⟨rfl, HB9.out.trans (HB12.out.mono HB9.out.size)⟩
theorem mod8_all {w : World} (t : ByteArray) (room : Int) (_ : (Lit.int .i64 room).wf = true) :
    Calls Try.prog 9 #[.string t, .int .i64 room] w fun en w' => en = .returned (.bool true) ∧ Below w.heap.size w w' := by
  cases hg : (decide (400 < (t.size : Int)) || (decide (200 < 0) || decide (200 < 0)))
  · exact mod8_walk t room hg
  · exact mod8_great t room w hg
end Go.Proofs.Ytcfpbihkodjlkaa
