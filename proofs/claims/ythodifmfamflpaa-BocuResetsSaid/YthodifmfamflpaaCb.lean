/- The decoder's Feed and End, over what one byte does. -/
import Derived.Test.YthodifmfamflpaaCa
import Derived.Test.YthodifmfamflpaaRun
import Derived.LoopTactic
namespace Go.Proofs.Ythodifmfamflpaa
open Go.RowKit Go.Proofs.YthodifmfamflpaaW.PrintWords Go.Proofs.YthodifmfamflpaaW.PrintMore
set_option linter.unusedVariables false
set_option linter.unusedSimpArgs false
section
variable {w : World} {g T : Nat} {a e f : Int} {d : Bool} {v : Value} {xs : List Int}
theorem run_ok {s s' : CS} {l os : List Int} (hs : cok s) (h : run cnx s l = some (s', os)) : cok s' := by
  induction l generalizing s os with
  | nil => simp only [run, Option.some.injEq, Prod.mk.injEq] at h; exact h.1 ▸ hs
  | cons b l ih =>
    simp only [run] at h
    cases hb : cnx s b with
    | none => rw [hb] at h; cases h
    | some p =>
      rw [hb, Option.bind_some] at h
      obtain ⟨q, hq, he⟩ := Option.map_eq_some_iff.1 h
      simp only [Prod.mk.injEq] at he
      exact ih (cnx_ok hs hb) (by rw [hq, ← he.1])
/-- What holds at a round's head: so many bytes were eaten, and what they told waits. -/
structure FeedAt (w : World) (g T : Nat) (a : Int) (v : Value) (s0 : CS) (t : ByteArray) (room : Int) (k : Nat) (os : List Int) (s : CS) (v' : Value) (w' : World) : Prop where
  le : k ≤ t.size
  run : run cnx s0 ((bytesOf t).take k) = some (s, os)
  dec : Dec w' g T (a + k) 0 0 false v' os (cown s)
  stp : Stp w g v w' v'
  room : (os.length : Int) ≤ room ∨ os = []
  ok : cok s
  few : os.length ≤ k
def FeedRel (w : World) (g T : Nat) (a : Int) (v : Value) (s0 : CS) (t : ByteArray) (room : Int) (n : Value) (w' : World) : Prop :=
  ∃ k os s v', n = .int .i64 (k : Nat) ∧ FeedAt w g T a v s0 t room k os s v' w'
abbrev nilv : Value := .slice none 0 0
/-- What Feed hands back: how many bytes were eaten, what they told; it goes on, or the next byte is wrong. -/
def FeedPost (w : World) (g T : Nat) (a : Int) (s0 : CS) (t : ByteArray) (room : Int) (en : Ending) (w' : World) : Prop :=
  ∃ (m : Nat) (os : List Int) (r : Value) (s : CS), en = .returned (.tuple #[.int .i64 m, r]) ∧ m ≤ t.size ∧ run cnx s0 ((bytesOf t).take m) = some (s, os) ∧ w'.ownsRow w.heap.size 34 1 r os.length (nums .u32 os) ∧ Kp (fun k => k = g) w w' ∧
    ((os.length : Int) ≤ room ∨ os = []) ∧ os.length ≤ m ∧ cok s ∧
    ((Dec w' g T (a + m) 0 0 false nilv [] (cown s) ∧ (m = t.size ∨ room ≤ os.length)) ∨
     (m < t.size ∧ cnx s (bt t m) = none ∧ ∃ s', Dec w' g T (a + m) 3 (a + m) false nilv [] (cown s')))
theorem Stp.nil {w w1 : World} {g : Nat} {v : Value} (h : Stp w g nilv w1 v) : Kp (fun k => k = g) w w1 := h.kp.mono (fun k hk => hk.elim .inl (fun h2 => by cases h2))
theorem feed_end {w wr w' : World} {g T : Nat} {a : Int} {v1 r v' : Value} {s0 s : CS} {t : ByteArray} {room : Int} {k : Nat} {os : List Int} (h : FeedAt w g T a nilv s0 t room k os s v1 wr) (hx : k = t.size ∨ room ≤ os.length)
    (hd : Dec w' g T (a + k) 0 0 false v' (os.drop (min room.toNat os.length)) (cown s)) (ho : w'.ownsRow wr.heap.size 34 1 r (os.take (min room.toNat os.length)).length (nums .u32 (os.take (min room.toNat os.length)))) (hs : Stp wr g v1 w' v') (hv : os.length ≤ room.toNat → v' = .slice none 0 0) :
    FeedPost w g T a s0 t room (.returned (.tuple #[.int .i64 k, r])) w' := by
  have hle : os.length ≤ room.toNat := by rcases h.room with h1 | h1 <;> simp_all <;> omega
  obtain rfl := hv hle
  have hm : min room.toNat os.length = os.length := by omega
  rw [hm, List.take_length] at ho
  rw [hm, List.drop_length] at hd
  exact ⟨k, os, r, s, rfl, h.le, h.run, own_weaken ho h.stp.kp.size, (h.stp.trans hs).nil, h.room, h.few, h.ok, .inl ⟨hd, hx⟩⟩
theorem feed_wrong {w wr w1 w' : World} {g T : Nat} {a : Int} {v1 r v' v2 : Value} {s0 s s1 : CS} {t : ByteArray} {room : Int} {k : Nat} {os : List Int} (h : FeedAt w g T a nilv s0 t room k os s v1 wr) (hk : k < t.size) (hn : cnx s (bt t k) = none) (hs1 : Stp wr g v1 w1 v2)
    (hd : Dec w' g T (a + k) 3 (a + k) false v' (os.drop (min room.toNat os.length)) (cown s1)) (ho : w'.ownsRow w1.heap.size 34 1 r (os.take (min room.toNat os.length)).length (nums .u32 (os.take (min room.toNat os.length)))) (hs : Stp w1 g v2 w' v') (hv : os.length ≤ room.toNat → v' = .slice none 0 0) :
    FeedPost w g T a s0 t room (.returned (.tuple #[.int .i64 k, r])) w' := by
  have hle : os.length ≤ room.toNat := by rcases h.room with h1 | h1 <;> simp_all <;> omega
  obtain rfl := hv hle
  have hm : min room.toNat os.length = os.length := by omega
  rw [hm, List.take_length] at ho
  rw [hm, List.drop_length] at hd
  exact ⟨k, os, r, s, rfl, h.le, h.run, own_weaken ho (Nat.le_trans h.stp.kp.size hs1.kp.size), ((h.stp.trans hs1).trans hs).nil, h.room, h.few, h.ok, .inr ⟨hk, hn, s1, hd⟩⟩
theorem feed_on {w wr w' : World} {g T : Nat} {a : Int} {v v1 v' : Value} {s0 s s1 : CS} {t : ByteArray} {room : Int} {k : Nat} {os : List Int} {r : Option Int} (h : FeedAt w g T a v s0 t room k os s v1 wr) (hk : k < t.size) (hr : (os.length : Int) < room) (hn : cnx s (bt t k) = some (s1, r))
    (hd : Dec w' g T (a + k + 1) 0 0 false v' (os ++ r.toList) (cown s1)) (hs : Stp wr g v1 w' v') : FeedRel w g T a v s0 t room (.int .i64 ((k : Int) + 1)) w' := by
  have hl : r.toList.length ≤ 1 := by cases r <;> simp
  refine ⟨k + 1, os ++ r.toList, s1, v', rfl, hk, ?_, ?_, h.stp.trans hs, .inl (by rw [List.length_append]; omega), cnx_ok h.ok hn, by rw [List.length_append]; have := h.few; omega⟩
  · rw [take_bt t k hk, run_snoc, h.run]
    simp only [Option.bind_some, hn, Option.map_some]
  · rw [show a + ((k + 1 : Nat) : Int) = a + k + 1 by omega]
    exact hd
theorem feed_any (t : ByteArray) (room : Int) (s0 : CS) (hs : cok s0) (ht : t.size ≤ 1000000) (ha0 : 0 ≤ a) (ha1 : a ≤ 1000000000) (h : Dec w g T a 0 0 false nilv [] (cown s0)) :
    Calls Try.prog 30 #[.pointer (some ⟨g, 0, none⟩), .string t, .int .i64 room] w (FeedPost w g T a s0 t room) := by
  have HS : Hid (FeedRel w g T a nilv s0 t room (.int .i64 0) w) := ⟨0, [], s0, nilv, rfl, Nat.zero_le _, rfl, by simpa using h, Stp.refl _ _ _, .inr rfl, hs, Nat.zero_le _⟩
  clear h hs
  go_enter Try.func30, Try.ntmps30
  go_wp2_with fail
  go_loopw [8] (fun n wr => FeedRel w g T a nilv s0 t room n wr) (fun n _ => t.size - (intOf n).toNat)
  case atStart => exact HS.out
  case round =>
    obtain ⟨k, os, s, v1, rfl, hk⟩ := hrel
    have hle := hk.le
    have hfew := hk.few
    have HD := Lib.hid hk.dec
    have HK := Lib.hid hk
    have HO := Lib.hid hk.ok
    clear hk
    by_cases hlt : k < t.size
    · by_cases hroom : (os.length : Int) < room
      · have he : ((t[k]'hlt).toNat : Int) = bt t k := bt_at t k hlt
        have hb : 0 ≤ ((t[k]'hlt).toNat : Int) ∧ ((t[k]'hlt).toNat : Int) ≤ 255 := he ▸ bt_range t k
        have HB := Lib.hid hb
        cases hn : cnx s (bt t k) with
        | none =>
          have hn1 : cnx s ((t[k]'hlt).toNat : Int) = none := by rw [he]; exact hn
          have HN := Lib.hid hn
          have HN1 := Lib.hid hn1
          clear hn hn1 he hb
          go_wp2_with (first | (go_at_call 41; go_must (refine (dec_held HD.out).mono ?_); rintro e w' ⟨rfl, rfl⟩) | (go_at_call 42; go_must (refine (going_yes HD.out.bs).mono ?_); rintro e w' ⟨rfl, rfl⟩) | (go_at_call 43; go_must (refine (next_none s _ HO.out HB.out.1 HB.out.2 (by omega) HN1.out HD.out).mono ?_); rintro e w2 ⟨rfl, s2, v2, hd2, hs2⟩; have HD2 := Lib.hid hd2; have HS2 := Lib.hid hs2; clear hd2 hs2) | (go_at_call 44; go_must (refine (dec_stop 3 rfl HD2.out).mono ?_); rintro e w3 ⟨rfl, hd3, hs3⟩; have HD3 := Lib.hid hd3; have HS3 := Lib.hid hs3; clear hd3 hs3) | (go_at_call 46; go_must (refine (dec_tell room (by omega) HD3.out).mono ?_); rintro e w4 ⟨r4, v4, rfl, hd4, ho4, hs4, hv4⟩; have HD4 := Lib.hid hd4; have HO4 := Lib.hid ho4; have HS4 := Lib.hid hs4; have HV4 := Lib.hid hv4; clear hd4 ho4 hs4 hv4))
          go_ret2
          exact feed_wrong HK.out hlt HN.out (HS2.out.trans HS3.out) HD4.out HO4.out HS4.out HV4.out
        | some p =>
          obtain ⟨s1, r⟩ := p
          have hn1 : cnx s ((t[k]'hlt).toNat : Int) = some (s1, r) := by rw [he]; exact hn
          have HN := Lib.hid hn
          have HN1 := Lib.hid hn1
          clear hn hn1 he hb
          go_wp2_with (first | (go_at_call 41; go_must (refine (dec_held HD.out).mono ?_); rintro e w' ⟨rfl, rfl⟩) | (go_at_call 42; go_must (refine (going_yes HD.out.bs).mono ?_); rintro e w' ⟨rfl, rfl⟩) | (go_at_call 43; go_must (refine (next_some s s1 r _ HO.out HB.out.1 HB.out.2 (by omega) HN1.out HD.out).mono ?_); rintro e w2 ⟨rfl, v2, hd2, hs2⟩; have HD2 := Lib.hid hd2; have HS2 := Lib.hid hs2; clear hd2 hs2) | (go_at_call 45; go_must (refine (dec_eat 1 (by omega) (by omega) (by omega) (by omega) HD2.out).mono ?_); rintro e w3 ⟨rfl, hd3, hs3⟩; have HD3 := Lib.hid hd3; have HS3 := Lib.hid hs3; clear hd3 hs3))
          go_roundw
          case rel => exact feed_on HK.out hlt hroom HN.out HD3.out (HS2.out.trans HS3.out)
          case measure => simp [intOf]; omega
      · have HE := Lib.hid (show k = t.size ∨ room ≤ os.length from .inr (by omega))
        go_wp2_with (first | (go_at_call 41; go_must (refine (dec_held HD.out).mono ?_); rintro e w' ⟨rfl, rfl⟩) | (go_at_call 46; go_must (refine (dec_tell room (by omega) HD.out).mono ?_); rintro e w4 ⟨r4, v4, rfl, hd4, ho4, hs4, hv4⟩; have HD4 := Lib.hid hd4; have HO4 := Lib.hid ho4; have HS4 := Lib.hid hs4; have HV4 := Lib.hid hv4; clear hd4 ho4 hs4 hv4))
        go_ret2
        exact feed_end HK.out HE.out HD4.out HO4.out HS4.out HV4.out
    · have HE := Lib.hid (show k = t.size ∨ room ≤ os.length from .inl (by omega))
      go_wp2_with (first | (go_at_call 46; go_must (refine (dec_tell room (by omega) HD.out).mono ?_); rintro e w4 ⟨r4, v4, rfl, hd4, ho4, hs4, hv4⟩; have HD4 := Lib.hid hd4; have HO4 := Lib.hid ho4; have HS4 := Lib.hid hs4; have HV4 := Lib.hid hv4; clear hd4 ho4 hs4 hv4))
      go_ret2
      exact feed_end HK.out HE.out HD4.out HO4.out HS4.out HV4.out
end
end Go.Proofs.Ythodifmfamflpaa
