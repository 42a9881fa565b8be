/- Texts of this claim, merged; without what the law does not lean on: E. -/
import Derived.Test.YtcgoofefiiihnaaGreatOneZ8
import Derived.Test.YtcgoofefiiihnaaGreatOneZ6
import Derived.Deep.RegionHeld3
namespace Go.Proofs.YtcgoofefiiihnaaGreat.E
open Go.RowKit Go.Proofs.YtcgoofefiiihnaaGreatW.PrintWords Go.Proofs.YtcgoofefiiihnaaGreatW.PrintMore
set_option linter.unusedVariables false
set_option linter.unusedSimpArgs false
set_option maxRecDepth 20000
abbrev toB : Int → Int := atB toL
structure CS where
  m : M.CS
  tb : Nat
abbrev Tab (w : World) (k : Nat) : Prop := TbAt w k 238 toL fromL
theorem at_range {B : List Int} (hB : ∀ i < 256, 0 ≤ B.getD i 0 ∧ B.getD i 0 < 256) {b : Int} (h : 0 ≤ b ∧ b ≤ 255) : 0 ≤ atB B b ∧ atB B b ≤ 255 := by
  have := hB b.toNat (by omega)
  unfold atB
  omega
theorem bytes_in (t : ByteArray) : ∀ x ∈ bytesOf t, 0 ≤ x ∧ x ≤ 255 := by
  intro x hx
  simp only [bytesOf, List.mem_map] at hx
  obtain ⟨b, _, rfl⟩ := hx
  have := b.toNat_lt
  omega
theorem ofNums_in {xs : List Int} (h : ∀ x ∈ xs, 0 ≤ x ∧ x ≤ 255) : bytesOf (strOfNums xs) = xs := by
  unfold bytesOf strOfNums
  simp only [List.map_map]
  refine (List.map_congr_left fun x hx => ?_).trans (List.map_id _)
  have := h x hx
  simp [Function.comp, UInt8.toNat_ofNat']
  omega
abbrev turnB (B : List Int) (t : ByteArray) : ByteArray := strOfNums ((bytesOf t).map (atB B))
theorem turnB_bytes {B : List Int} (hB : ∀ i < 256, 0 ≤ B.getD i 0 ∧ B.getD i 0 < 256) (t : ByteArray) : bytesOf (turnB B t) = (bytesOf t).map (atB B) := by
  refine ofNums_in fun x hx => ?_
  obtain ⟨b, hb, rfl⟩ := List.mem_map.1 hx
  exact at_range hB (bytes_in t b hb)
theorem turnB_size (B : List Int) (t : ByteArray) : (turnB B t).size = t.size := by rw [strOfNums_size, List.length_map, bytesOf_length]
section
variable {w : World} {g T : Nat} {a e f : Int} {d : Bool} {v : Value} {xs : List Int}
end
open M (isB_range)
abbrev toT (t : ByteArray) : ByteArray := turnB toL t
theorem toT_bytes (t : ByteArray) : bytesOf (toT t) = (bytesOf t).map toB := turnB_bytes toL_range t
theorem toT_size (t : ByteArray) : (toT t).size = t.size := turnB_size toL t
theorem bytes_inj {x y : ByteArray} (h : bytesOf x = bytesOf y) : x = y := by
  unfold bytesOf at h
  have h2 := (List.map_inj_right (fun a b hab => UInt8.toNat_inj.1 (Int.natCast_inj.1 hab))).1 h
  obtain ⟨⟨a⟩⟩ := x
  obtain ⟨⟨b⟩⟩ := y
  simp only at h2
  rw [h2]
theorem toT_nil {y : ByteArray} (h : y.size = 0) : toT y = y := by
  apply bytes_inj
  have : bytesOf y = [] := List.eq_nil_of_length_eq_zero (by rw [bytesOf_length]; exact h)
  rw [toT_bytes, this]; rfl
structure ES where
  tb : Nat
def eown (s : ES) : List Value := [.pointer (some ⟨s.tb, 0, none⟩)]
def eok (_s : ES) : Prop := True
def rby (c : Int) : List Int := (M.rby c).map toB
def eby (s : ES) (c : Int) : List Int × ES := (rby c, s)
theorem eby_len (s : ES) (c : Int) : (eby s c).1.length ≤ 5 := by
  show ((M.rby c).map toB).length ≤ 5
  rw [List.length_map]; exact M.rby_len c
def erun : ES → List Int → List Int × ES
  | s, [] => ([], s)
  | s, c :: r => ((eby s c).1 ++ (erun (eby s c).2 r).1, (erun (eby s c).2 r).2)
theorem erun_snd : ∀ (l : List Int) (s : ES), (erun s l).2 = s
  | [], s => rfl
  | x :: l, s => erun_snd l _
theorem erun_fst : ∀ (l : List Int) (s : ES) (q : M.ES), (erun s l).1 = (M.erun q l).1.map toB
  | [], s, q => rfl
  | x :: l, s, q => by
    show (M.rby x).map toB ++ (erun s l).1 = (M.rby x ++ (M.erun q l).1).map toB
    rw [List.map_append, erun_fst l s q]
section
variable {w : World} {g T : Nat} {a e f : Int} {d : Bool} {y : ByteArray} {own : List Value}
def EEn (w : World) (g T : Nat) (a e f : Int) (d : Bool) (y : ByteArray) (own : List Value) : Prop := ∃ y', y = toT y' ∧ Enc w g T a e f d y' own
theorem een_zero (hy : y.size = 0) : EEn w g T a e f d y own ↔ Enc w g T a e f d y own := by
  constructor
  · rintro ⟨y', h1, h2⟩
    have : y'.size = 0 := by rw [← toT_size, ← h1]; exact hy
    rw [toT_nil this] at h1
    rw [h1]; exact h2
  · intro h
    exact ⟨y, (toT_nil hy).symm, h⟩
theorem een_fail (h : EEn w g T a e f d y own) : Calls Tryz.prog 156 #[.pointer (some ⟨g, 0, none⟩)] w fun en w' => en = .returned (.agg #[.int .i64 e, .int .i64 f]) ∧ Below w.heap.size w w' := by
  obtain ⟨y', h1, h2⟩ := h
  exact fail_any h2
theorem een_end (h : EEn w g T a 0 f false y own) : Calls Tryz.prog 161 #[.pointer (some ⟨g, 0, none⟩)] w fun en w' => en = .returned (.tuple #[]) ∧ EEn w' g T a 0 f true y own ∧ Kp (fun k => k = g) w w' := by
  obtain ⟨y', h1, h2⟩ := h
  refine (end_yes h2).mono ?_
  rintro en w' ⟨h3, h4, h5⟩
  exact ⟨h3, ⟨y', h1, h4⟩, h5⟩
theorem een_odone (hn : (e == 0 && !d) = false) (h : EEn w g T a e f d y own) : Calls Tryz.prog 222 #[.pointer (some ⟨g, 0, none⟩)] w fun en w' => en = .returned (.bool (((y.size : Nat) : Int) == 0)) ∧ w = w' := by
  obtain ⟨y', rfl, h2⟩ := h
  rw [toT_size]
  exact odone_over hn h2
def EFeedPost (w : World) (g T : Nat) (a : Int) (p : List Int) (s0 : ES) (ls : List Int) (room : Int) (en : Ending) (w' : World) : Prop :=
  ∃ (m : Nat) (x y : ByteArray), en = .returned (.tuple #[.int .i64 m, .string x]) ∧ m ≤ ls.length ∧ (∀ c ∈ ls.take m, isB c = true) ∧ bytesOf x ++ bytesOf y = p ++ (erun s0 (ls.take m)).1 ∧ Kp (fun k => k = g) w w' ∧ x.size ≤ room.toNat ∧ (y.size ≠ 0 → x.size = room.toNat) ∧ y.size ≤ max p.length 5 ∧ eok (erun s0 (ls.take m)).2 ∧
    ((EEn w' g T (a + m) 0 0 false y (eown (erun s0 (ls.take m)).2) ∧ (m = ls.length ∨ y.size ≠ 0)) ∨
     (m < ls.length ∧ isB (ls.getD m 0) = false ∧ y.size = 0 ∧ EEn w' g T (a + m) 2 (a + m) false y (eown (erun s0 (ls.take m)).2)))
theorem epost {w2 w3 : World} {s0 : ES} {ls : List Int} {room : Int} {kept x : ByteArray} {m : Nat} (hb : Below w2.heap.size w2 w3) (h : M.EFeedPost (eown s0) w g T a (bytesOf kept) ⟨⟩ ls room (.returned (.tuple #[.int .i64 m, .string x])) w2) :
    EFeedPost w g T a (bytesOf (toT kept)) s0 ls room (.returned (.tuple #[.int .i64 m, .string (toT x)])) w3 := by
  obtain ⟨m', x', y', he, hm, hsc, hby, hk, hr, hf, hl, _, hc⟩ := h
  simp only [Ending.returned.injEq, Value.tuple.injEq, Array.mk.injEq, List.cons.injEq, Value.int.injEq, true_and, and_true, Value.string.injEq, Int.natCast_inj] at he
  obtain ⟨rfl, rfl⟩ := he
  refine ⟨m, toT x, toT y', rfl, hm, hsc, ?_, hk.trans (F1 := fun _ => False) (Kp.of_below hb) (fun _ h => h.elim), by rw [toT_size]; exact hr, by rw [toT_size, toT_size]; exact hf, by rw [toT_size, bytesOf_length, toT_size, ← bytesOf_length kept]; exact hl, trivial, ?_⟩
  · rw [toT_bytes, toT_bytes, toT_bytes, ← List.map_append, hby, List.map_append, erun_fst _ s0 ⟨⟩]
  · rw [erun_snd]
    rcases hc with ⟨h1, h2⟩ | ⟨h1, h2, h3, h4⟩
    · exact .inl ⟨⟨y', rfl, blk_below h1 hb⟩, by rw [toT_size]; exact h2⟩
    · exact .inr ⟨h1, h2, by rw [toT_size]; exact h3, ⟨y', rfl, blk_below h4 hb⟩⟩
theorem efeed_any (A : Option Addr) (n c : Nat) (ls : List Int) (room : Int) (s0 : ES) (p : List Int) (kept : ByteArray) (hp : bytesOf kept = p) (hpl : p.length ≤ 100) (hs : eok s0) (hr : ReadsInt w .u32 A n ls) (hrg : ∀ ad, A = some ad → ad.block ≠ g) (hwf : ∀ k, 0 ≤ ls.getD k 0 ∧ ls.getD k 0 ≤ 4294967295) (hn : n ≤ 1000000) (ha0 : 0 ≤ a) (ha1 : a ≤ 1000000000) (hr1 : room ≤ 100000) (hr0 : -1000000000 ≤ room) (htb : Tab w s0.tb) (hne : s0.tb ≠ g) (h : EEn w g T a 0 0 false kept (eown s0)) :
    Calls Tryz.prog 234 #[.pointer (some ⟨g, 0, none⟩), .slice A n c, .int .i64 room] w (EFeedPost w g T a p s0 ls room) := by
  obtain ⟨kept, rfl, h⟩ := h
  subst hp
  have HD := Lib.hid h
  have HT := Lib.hid htb
  have HNE := Lib.hid hne
  have HF := Lib.hid (M.efeed_any (ext := eown s0) A n c ls room ⟨⟩ (bytesOf kept) kept rfl (by rw [bytesOf_length, ← toT_size, ← bytesOf_length]; exact hpl) trivial hr hrg hwf hn ha0 ha1 (by omega) hr0 h)
  clear h htb hne hr hrg hwf
  go_enter Tryz.func234, Tryz.ntmps234
  go_wp2_with fail
  refine HF.out.mono ?_
  intro e w2 h2
  have H2 := Lib.hid h2
  obtain ⟨m, x, y, rfl, hm, hsc, hby, hk, hrx, hf, hl, hok, hcase⟩ := h2
  have hc5 : w2.cell? ⟨g, 5, none⟩ = some (.pointer (some ⟨s0.tb, 0, none⟩)) := by
    rcases hcase with ⟨h1, _⟩ | ⟨_, _, _, h1⟩
    · exact enc_co h1 0
    · exact enc_co h1 0
  have HT2 := Lib.hid (HT.out.kp hk HNE.out)
  have hx : x.size ≤ 100000 := by omega
  clear hm hsc hby hk hrx hf hl hok hcase HF
  go_wp2_with (go_at_call 236; go_must (refine (text_any x hx HT2.out).mono ?_); rintro e w3 ⟨rfl, hb3⟩; have HB3 := Lib.hid hb3; clear hb3)
  go_ret2
  exact epost HB3.out H2.out
end
end Go.Proofs.YtcgoofefiiihnaaGreat.E
