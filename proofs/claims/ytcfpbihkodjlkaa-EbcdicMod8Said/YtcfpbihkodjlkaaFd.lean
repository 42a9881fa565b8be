/- ebcdic's decoder: the machine of layer 6 behind a table; Feed and End. -/
import Derived.Test.YtcfpbihkodjlkaaMA
import Derived.Test.YtcfpbihkodjlkaaPm
import Derived.Deep.RegionHeld3
namespace Go.Proofs.Ytcfpbihkodjlkaa
open Go.RowKit Go.Proofs.YtcfpbihkodjlkaaW.PrintWords Go.Proofs.YtcfpbihkodjlkaaW.PrintMore
set_option linter.unusedVariables false
set_option linter.unusedSimpArgs false
/-- A byte, turned back; turned. -/
abbrev frB : Int → Int := atB fromL
abbrev toB : Int → Int := atB toL
structure CS where
  m : M.CS
  tb : Nat
def cown (s : CS) : List Value := M.cown s.m ++ [.pointer (some ⟨s.tb, 0, none⟩)]
def cok (s : CS) : Prop := M.cok s.m
def cnx (s : CS) (b : Int) : Option (CS × Option Int) := (M.cnx s.m (frB b)).map fun p => (⟨p.1, s.tb⟩, p.2)
def ccut (s : CS) : Bool := M.ccut s.m
abbrev nilv : Value := .slice none 0 0
/-- The table stands there. -/
abbrev Tab (w : World) (k : Nat) : Prop := TbAt w k 93 toL fromL
theorem run_map : ∀ (l : List Int) (s : CS), run cnx s l = (run M.cnx s.m (l.map frB)).map fun p => (⟨p.1, s.tb⟩, p.2)
  | [], s => rfl
  | b :: l, s => by
    rw [List.map_cons, run, run]
    unfold cnx
    cases h : M.cnx s.m (frB b) with
    | none => rfl
    | some p =>
      simp only [Option.map_some, Option.bind_some]
      have ih := run_map l ⟨p.1, s.tb⟩
      unfold cnx at ih
      rw [ih]
      cases run M.cnx p.1 (l.map frB) <;> rfl
theorem run_tb {s0 s : CS} {l os : List Int} (h : run cnx s0 l = some (s, os)) : s.tb = s0.tb := by
  rw [run_map] at h
  cases hh : run M.cnx s0.m (l.map frB) with
  | none => rw [hh] at h; cases h
  | some p =>
    rw [hh] at h
    simp only [Option.map_some, Option.some.injEq, Prod.mk.injEq] at h
    rw [← h.1]
theorem fr_range' : ∀ i < 256, 0 ≤ fromL.getD i 0 ∧ fromL.getD i 0 < 256 := by decide +kernel
theorem at_range {B : List Int} (hB : ∀ i < 256, 0 ≤ B.getD i 0 ∧ B.getD i 0 < 256) {b : Int} (h : 0 ≤ b ∧ b ≤ 255) : 0 ≤ atB B b ∧ atB B b ≤ 255 := by
  have := hB b.toNat (by omega)
  unfold atB
  omega
theorem fr_range {b : Int} (h : 0 ≤ b ∧ b ≤ 255) : 0 ≤ frB b ∧ frB b ≤ 255 := at_range fr_range' h
theorem bytes_in (t : ByteArray) : ∀ x ∈ bytesOf t, 0 ≤ x ∧ x ≤ 255 := by
  intro x hx
  simp only [bytesOf, List.mem_map] at hx
  obtain ⟨b, _, rfl⟩ := hx
  have := b.toNat_lt
  omega
theorem ofNums_in {xs : List Int} (h : ∀ x ∈ xs, 0 ≤ x ∧ x ≤ 255) : bytesOf (strOfNums xs) = xs := by
  unfold bytesOf strOfNums
  simp only [List.map_map]
  refine (List.map_congr_left fun x hx => ?_).trans (List.map_id _)
  have := h x hx
  simp [Function.comp, UInt8.toNat_ofNat']
  omega
/-- A text, turned. -/
abbrev turnB (B : List Int) (t : ByteArray) : ByteArray := strOfNums ((bytesOf t).map (atB B))
theorem turnB_bytes {B : List Int} (hB : ∀ i < 256, 0 ≤ B.getD i 0 ∧ B.getD i 0 < 256) (t : ByteArray) : bytesOf (turnB B t) = (bytesOf t).map (atB B) := by
  refine ofNums_in fun x hx => ?_
  obtain ⟨b, hb, rfl⟩ := List.mem_map.1 hx
  exact at_range hB (bytes_in t b hb)
theorem turnB_size (B : List Int) (t : ByteArray) : (turnB B t).size = t.size := by rw [strOfNums_size, List.length_map, bytesOf_length]
theorem turnB_bt {B : List Int} (hB : ∀ i < 256, 0 ≤ B.getD i 0 ∧ B.getD i 0 < 256) (t : ByteArray) (m : Nat) (h : m < t.size) : bt (turnB B t) m = atB B (bt t m) := by
  have e1 := rd_bytesOf (turnB B t) (m : Int)
  have e2 := rd_bytesOf t (m : Int)
  rw [rd, Int.toNat_natCast] at e1 e2
  rw [← e1, ← e2, turnB_bytes hB, List.getD_eq_getElem?_getD, List.getD_eq_getElem?_getD, List.getElem?_map, List.getElem?_eq_getElem (by rw [bytesOf_length]; exact h)]
  rfl
abbrev unT (t : ByteArray) : ByteArray := turnB fromL t
theorem unT_bytes (t : ByteArray) : bytesOf (unT t) = (bytesOf t).map frB := turnB_bytes fr_range' t
theorem unT_size (t : ByteArray) : (unT t).size = t.size := turnB_size fromL t
theorem unT_bt (t : ByteArray) (m : Nat) (h : m < t.size) : bt (unT t) m = frB (bt t m) := turnB_bt fr_range' t m h
section
variable {w : World} {g T : Nat} {a e f : Int} {d : Bool} {v : Value} {xs : List Int}
/-- What Feed hands back: how many bytes were eaten, what they told; it goes on, or the next byte is wrong. -/
def FeedPost (w : World) (g T : Nat) (a : Int) (s0 : CS) (t : ByteArray) (room : Int) (en : Ending) (w' : World) : Prop :=
  ∃ (m : Nat) (os : List Int) (r : Value) (s : CS), en = .returned (.tuple #[.int .i64 m, r]) ∧ m ≤ t.size ∧ run cnx s0 ((bytesOf t).take m) = some (s, os) ∧ w'.ownsRow w.heap.size 22 1 r os.length (nums .u32 os) ∧ Kp (fun k => k = g) w w' ∧
    ((os.length : Int) ≤ room ∨ os = []) ∧ os.length ≤ m ∧ cok s ∧
    ((Dec w' g T (a + m) 0 0 false nilv [] (cown s) ∧ (m = t.size ∨ room ≤ os.length)) ∨
     (m < t.size ∧ cnx s (bt t m) = none ∧ ∃ s', Dec w' g T (a + m) 3 (a + m) false nilv [] (cown s')))
theorem own_lower {w' : World} {b c : Nat} {ty : TypeId} {n m : Nat} {v : Value} {xs : List Value} (h : w'.ownsRow c ty m v n xs) (hb : b ≤ c) : w'.ownsRow b ty m v n xs := by
  refine ⟨h.1, ?_⟩
  rcases h.2 with h2 | ⟨g, cap, cur, e, hg, rest⟩
  · exact .inl h2
  · exact .inr ⟨g, cap, cur, e, Nat.le_trans hb hg, rest⟩
theorem feed_map {w1 w' : World} {s0 : CS} {t : ByteArray} {room : Int} {en : Ending} (hb : Below w.heap.size w w1) (h : M.FeedPost [.pointer (some ⟨s0.tb, 0, none⟩)] w1 g T a s0.m (unT t) room en w') : FeedPost w g T a s0 t room en w' := by
  obtain ⟨m, os, r, s, rfl, hm, hr, ho, hk, h1, h2, h3, h4⟩ := h
  rw [unT_size] at hm
  refine ⟨m, os, r, ⟨s, s0.tb⟩, rfl, hm, ?_, own_lower ho hb.size, (Kp.of_below hb).trans hk (fun k hk => .inl hk), h1, h2, h3, ?_⟩
  · rw [run_map, List.map_take, ← unT_bytes, hr]; rfl
  · rcases h4 with ⟨h5, h6⟩ | ⟨h5, h6, s', h7⟩
    · exact .inl ⟨h5, by rw [unT_size] at h6; exact h6⟩
    · rw [unT_size] at h5
      rw [unT_bt t m h5] at h6
      refine .inr ⟨h5, ?_, ⟨s', s0.tb⟩, h7⟩
      unfold cnx
      simp only
      rw [h6]
      rfl
theorem feed_any (t : ByteArray) (room : Int) (s0 : CS) (hs : cok s0) (ht : t.size ≤ 100000) (ha0 : 0 ≤ a) (ha1 : a ≤ 1000000000) (htb : Tab w s0.tb) (h : Dec w g T a 0 0 false nilv [] (cown s0)) :
    Calls Try.prog 29 #[.pointer (some ⟨g, 0, none⟩), .string t, .int .i64 room] w (FeedPost w g T a s0 t room) := by
  have hc9 : w.drew.cell? ⟨g, 9, none⟩ = some (.pointer (some ⟨s0.tb, 0, none⟩)) := h.co 4
  have HD := Lib.hid h
  have HT := Lib.hid htb
  have HTZ : Hid ((unT t).size ≤ 1000000) := Lib.hid (by rw [unT_size]; omega)
  clear h htb
  go_enter Try.func29, Try.ntmps29
  go_wp2_with fail
  have HDR : Hid (Below w.heap.size w w.drew) := Lib.hid (((Kp.refl (fun _ => False) w).drew).below (Nat.le_refl _) (fun _ h => h.elim))
  go_region_held3 (fun w' => w'.cell? ⟨g, 9, none⟩ = some (.pointer (some ⟨s0.tb, 0, none⟩))) (first | assumption | go_keep) (first
    | (go_at_call 45; (with_reducible refine (back_any (w := w.drew) t ht (HT.out.kp ((Kp.refl (fun _ => False) w).drew) (fun h => h))).mono ?_); rintro e w1 ⟨rfl, hb1⟩; have HB1 := Lib.hid (HDR.out.trans hb1); have HD1 : Hid (Dec w1 g T a 0 0 false nilv [] (M.cown s0.m ++ [.pointer (some ⟨s0.tb, 0, none⟩)])) := Lib.hid (HD.out.below HB1.out); have hc91 : w1.cell? ⟨g, 9, none⟩ = some (.pointer (some ⟨s0.tb, 0, none⟩)) := HD1.out.co 4; clear hb1)
    | (go_at_call 30; (refine (M.feed_any (w := w1) (ext := [.pointer (some ⟨s0.tb, 0, none⟩)]) (unT t) room s0.m hs HTZ.out ha0 ha1 HD1.out).mono ?_); rintro e w2 h2; have H2 := Lib.hid (feed_map (t := t) HB1.out h2); obtain ⟨m2, os2, r2, s2, rfl, q2⟩ := h2; have hc92 : w2.cell? ⟨g, 9, none⟩ = some (.pointer (some ⟨s0.tb, 0, none⟩)) := (by obtain ⟨_, _, _, _, _, _, _, q8⟩ := q2; rcases q8 with ⟨q9, _⟩ | ⟨_, _, s9, q9⟩ <;> exact q9.co 4); clear q2)
    | (fail))
  go_wp2_with fail
  go_ret2
  exact H2.out
theorem dend_cut (s : CS) (hc : ccut s = true) (h : Dec w g T a 0 f false v xs (cown s)) :
    Calls Try.prog 32 #[.pointer (some ⟨g, 0, none⟩)] w fun en w' => en = .returned (.tuple #[]) ∧ Dec w' g T a 4 a false v xs (cown s) ∧ Stp w g v w' v := M.dend_cut (ext := [.pointer (some ⟨s.tb, 0, none⟩)]) s.m hc h
theorem dend_ok (s : CS) (hc : ccut s = false) (h : Dec w g T a 0 f false v xs (cown s)) :
    Calls Try.prog 32 #[.pointer (some ⟨g, 0, none⟩)] w fun en w' => en = .returned (.tuple #[]) ∧ Dec w' g T a 0 f true v xs (cown s) ∧ Stp w g v w' v := M.dend_ok (ext := [.pointer (some ⟨s.tb, 0, none⟩)]) s.m hc h
theorem dend_err (s : CS) (he : (e == 0) = false) (h : Dec w g T a e f false v xs (cown s)) :
    Calls Try.prog 32 #[.pointer (some ⟨g, 0, none⟩)] w fun en w' => en = .returned (.tuple #[]) ∧ w = w' := M.dend_err (ext := [.pointer (some ⟨s.tb, 0, none⟩)]) s.m he h
end
end Go.Proofs.Ytcfpbihkodjlkaa
