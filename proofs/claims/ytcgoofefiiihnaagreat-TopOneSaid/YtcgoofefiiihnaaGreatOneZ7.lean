/- Texts of this claim, merged; without what the law does not lean on: K0 Sx F. -/
import Derived.Test.YtcgoofefiiihnaaGreatOneZ5
import Derived.Test.YtcgoofefiiihnaaGreatOneZ2
import Derived.OpenShut
import Derived.LoopTactic
import Derived.Lib.ConvBytes
import Derived.Deep.RegionHeld3
import Derived.Test.YtcgoofefiiihnaaGreatOneZ4
import Derived.Laws.BytesArg
namespace Go.Proofs.YtcgoofefiiihnaaGreat
open Go.RowKit Go.Proofs.YtcgoofefiiihnaaGreatW.PrintWords Go.Proofs.YtcgoofefiiihnaaGreatW.PrintMore
set_option linter.unusedVariables false
set_option linter.unusedSimpArgs false
def isB (c : Int) : Bool := decide (c ≤ 1114111) && (decide (c < 55296) || decide (57343 < c))
theorem is_any (c : Int) (w : World) : Calls Tryz.prog 86 #[.int .u32 c] w fun en w' => en = .returned (.bool (isB c)) ∧ w = w' := by
  by_cases h1 : c ≤ 1114111
  · by_cases h2 : c < 55296
    · have e : isB c = true := by simp [isB, h1, h2]
      rw [e]
      go_enter Tryz.func86, Tryz.ntmps86
      go_wp2
      go_ret
      exact ⟨rfl, rfl⟩
    · by_cases h3 : 57343 < c
      · have e : isB c = true := by simp [isB, h1, h3]
        rw [e]
        go_enter Tryz.func86, Tryz.ntmps86
        go_wp2
        go_ret
        exact ⟨rfl, rfl⟩
      · have e : isB c = false := by simp [isB, h2, h3]
        rw [e]
        go_enter Tryz.func86, Tryz.ntmps86
        go_wp2
        go_ret
        exact ⟨rfl, rfl⟩
  · have e : isB c = false := by simp [isB, h1]
    rw [e]
    go_enter Tryz.func86, Tryz.ntmps86
    go_wp2
    go_ret
    exact ⟨rfl, rfl⟩
abbrev nilv : Value := .slice none 0 0
theorem Stp.nil {w w1 : World} {g : Nat} {v : Value} (h : Stp w g nilv w1 v) : Kp (fun k => k = g) w w1 := h.kp.mono (fun k hk => hk.elim .inl (fun h2 => by cases h2))
theorem bytesOf_append (x y : ByteArray) : bytesOf (x ++ y) = bytesOf x ++ bytesOf y := by simp [bytesOf, ByteArray.data_append]
theorem bytesOf_ofNums {xs : List Int} (h : ∀ x ∈ xs, 0 ≤ x ∧ x ≤ 255) : bytesOf (strOfNums xs) = xs := by
  unfold bytesOf strOfNums
  simp only [List.map_map]
  refine (List.map_congr_left (g := id) ?_).trans (List.map_id xs)
  intro x hx
  have := h x hx
  simp only [Function.comp_apply, id, UInt8.toNat_ofNat']
  omega
theorem Given.bytes {s x y : ByteArray} {room : Int} (h : Given s room x y) : bytesOf x = (bytesOf s).take room.toNat ∧ bytesOf y = (bytesOf s).drop room.toNat := by
  constructor
  · rw [bytesOf, h.1, bytesOf, List.map_take]
  · rw [bytesOf, h.2, bytesOf, List.map_drop]
theorem Given.le {s x y : ByteArray} {room : Int} (h : Given s room x y) : x.size ≤ room.toNat := by
  have := congrArg List.length h.bytes.1
  rw [List.length_take, bytesOf_length] at this
  omega
theorem conv_lit (W : World) (xs : List Int) (hm : xs.length ≤ 9223372036854775807) :
    Sem.run Tryz.prog (convert 82 9 (.slice (some ⟨W.heap.size, 0, none⟩) xs.length xs.length)) (W.alloc (.cells (nums .u8 xs).toArray 5)) = .ok (.string (strOfNums xs)) (W.alloc (.cells (nums .u8 xs).toArray 5)) :=
  own_string Tryz.underlying82 Tryz.underlying5 Tryz.underlying9 (own_lit W W.heap.size 5 .u8 xs (Nat.le_refl _) hm)
theorem conv1 (W : World) (x0 : Int) :
    Sem.run Tryz.prog (convert 82 9 (.slice (some ⟨W.heap.size, 0, none⟩) 1 1)) (W.alloc (.cells #[.int .u8 x0] 5)) = .ok (.string (strOfNums [x0])) (W.alloc (.cells #[.int .u8 x0] 5)) := by
  have := conv_lit W [x0] (by simp)
  simpa [nums] using this
theorem conv2 (W : World) (x0 x1 : Int) :
    Sem.run Tryz.prog (convert 82 9 (.slice (some ⟨W.heap.size, 0, none⟩) 2 2)) (W.alloc (.cells #[.int .u8 x0, .int .u8 x1] 5)) = .ok (.string (strOfNums [x0, x1])) (W.alloc (.cells #[.int .u8 x0, .int .u8 x1] 5)) := by
  have := conv_lit W [x0, x1] (by simp)
  simpa [nums] using this
theorem conv3 (W : World) (x0 x1 x2 : Int) :
    Sem.run Tryz.prog (convert 82 9 (.slice (some ⟨W.heap.size, 0, none⟩) 3 3)) (W.alloc (.cells #[.int .u8 x0, .int .u8 x1, .int .u8 x2] 5)) = .ok (.string (strOfNums [x0, x1, x2])) (W.alloc (.cells #[.int .u8 x0, .int .u8 x1, .int .u8 x2] 5)) := by
  have := conv_lit W [x0, x1, x2] (by simp)
  simpa [nums] using this
theorem conv4 (W : World) (x0 x1 x2 x3 : Int) :
    Sem.run Tryz.prog (convert 82 9 (.slice (some ⟨W.heap.size, 0, none⟩) 4 4)) (W.alloc (.cells #[.int .u8 x0, .int .u8 x1, .int .u8 x2, .int .u8 x3] 5)) = .ok (.string (strOfNums [x0, x1, x2, x3])) (W.alloc (.cells #[.int .u8 x0, .int .u8 x1, .int .u8 x2, .int .u8 x3] 5)) := by
  have := conv_lit W [x0, x1, x2, x3] (by simp)
  simpa [nums] using this
theorem wrap_small {x : Int} (h1 : -9223372036854775808 ≤ x) (h2 : x < 9223372036854775808) : IntKind.i64.wrap x = x := by unfold IntKind.wrap; simp [IntKind.signed, IntKind.bits]; omega
theorem wrap_u32 {x : Int} (h1 : 0 ≤ x) (h2 : x ≤ 4294967295) : IntKind.u32.wrap x = x := by unfold IntKind.wrap; simp [IntKind.signed, IntKind.bits]; omega
theorem wrap8 {x : Int} (h0 : 0 ≤ x) (h1 : x ≤ 255) : IntKind.u8.wrap x = x := by
  simp only [IntKind.wrap, IntKind.bits, IntKind.signed]
  have : x % 2 ^ 8 = x := Int.emod_eq_of_lt h0 (by omega)
  simp only [this]
  simp
end Go.Proofs.YtcgoofefiiihnaaGreat
namespace Go.Proofs.YtcgoofefiiihnaaGreat.S
open Go.RowKit Go.Proofs.YtcgoofefiiihnaaGreatW.PrintWords Go.Proofs.YtcgoofefiiihnaaGreatW.PrintMore
set_option linter.unusedVariables false
set_option linter.unusedSimpArgs false
structure CS where
  o : List Int
  uni : Bool
  act : Int
  beg : Int
  n : Int
  first : Int
  up : Int
def atF (o : List Int) (n : Int) : Int := o.getD n.toNat 0
def statL : List Int := [0, 128, 256, 768, 8192, 8320, 8448, 12288]
def firstL : List Int := [128, 192, 1024, 1536, 2304, 12352, 12448, 65280]
def specL : List Int := [192, 592, 880, 1328, 12352, 12448, 65376]
def offF (x : Int) : Option Int :=
  if x = 0 ∨ (167 < x ∧ x < 249) then none
  else if x ≤ 103 then some (x * 128)
  else if x ≤ 167 then some (x * 128 + 44032)
  else some (specL.getD (x - 249).toNat 0)
def fitB (s : CS) (b : Int) : Bool := (decide (220 ≤ b) && decide (b ≤ 223)) == (s.up != 0)
def actF (s : CS) (n : Int) : CS := { s with act := n, uni := false, beg := 0 }
def begF (s : CS) (k n : Int) : CS := { s with beg := k, n := n }
def singleF (s : CS) (b : Int) : Option (CS × Option Int) :=
  if (s.up ≠ 0 ∧ b ≠ 14) ∨ b = 12 then none
  else if 128 ≤ b then some (s, some (atF s.o s.act + b - 128))
  else if 32 ≤ b ∨ b = 0 ∨ b = 9 ∨ b = 10 ∨ b = 13 then some (s, some b)
  else if 24 ≤ b then some (begF s 2 (b - 24), none)
  else if 16 ≤ b then some (actF s (b - 16), none)
  else if b = 15 then some ({ s with uni := true }, none)
  else if b = 14 then some (begF s 5 0, none)
  else if b = 11 then some (begF s 3 0, none)
  else some (begF s 1 (b - 1), none)
def doubleF (s : CS) (b : Int) : Option (CS × Option Int) :=
  if b < 224 ∨ 242 < b then (if fitB s b = true then some (begF { s with first := b } 6 0, none) else none)
  else if b = 240 then some (begF s 5 0, none)
  else if s.up ≠ 0 ∨ b = 242 then none
  else if b = 241 then some (begF s 3 0, none)
  else if 232 ≤ b then some (begF s 2 (b - 232), none)
  else some (actF s (b - 224), none)
def wholeF (s : CS) (u : Int) : CS × Option Int :=
  if s.up ≠ 0 then ({ s with beg := 0, up := 0 }, some (65536 + (s.up - 55296) * 1024 + (u - 56320)))
  else if 55296 ≤ u ∧ u < 56320 then ({ s with beg := 0, up := u }, none)
  else ({ s with beg := 0 }, some u)
def moreF (s : CS) (b : Int) : Option (CS × Option Int) :=
  if s.beg = 1 then some ({ s with beg := 0 }, some (if 128 ≤ b then atF s.o s.n - 128 + b else statL.getD s.n.toNat 0 + b))
  else if s.beg = 2 then (match offF b with | none => none | some x => some (actF { s with o := s.o.set s.n.toNat x } s.n, none))
  else if s.beg = 3 then some ({ s with first := b, beg := 4 }, none)
  else if s.beg = 4 then some (actF { s with o := s.o.set (s.first / 32).toNat (65536 + 128 * (s.first % 32 * 256 + b)) } (s.first / 32), none)
  else if s.beg = 5 then (if fitB s b = true then some (begF { s with first := b } 6 0, none) else none)
  else some ((wholeF s (s.first * 256 + b)).1, (wholeF s (s.first * 256 + b)).2)
def cnx (s : CS) (b : Int) : Option (CS × Option Int) :=
  if s.beg ≠ 0 then moreF s b else if s.uni = true then doubleF s b else singleF s b
def ccut (s : CS) : Bool := s.beg != 0 || s.up != 0
def offOk (x : Int) : Prop := 128 ≤ x ∧ (x + 127 < 55296 ∨ (57344 ≤ x ∧ x + 127 ≤ 1114111))
structure cok (s : CS) : Prop where
  len : s.o.length = 8
  off : ∀ i < 8, offOk (s.o.getD i 0)
  act : 0 ≤ s.act ∧ s.act < 8
  beg : 0 ≤ s.beg ∧ s.beg ≤ 6
  n : 0 ≤ s.n ∧ s.n < 8
  first : 0 ≤ s.first ∧ s.first ≤ 255
  up : s.up = 0 ∨ (55296 ≤ s.up ∧ s.up < 56320)
  fit : s.beg = 6 → fitB s s.first = true
  uni : s.beg = 3 ∨ s.beg = 4 ∨ s.beg = 2 ∨ s.beg = 1 → s.up = 0
abbrev st0 : CS := ⟨firstL, false, 0, 0, 0, 0, 0⟩
instance (x : Int) : Decidable (offOk x) := by unfold offOk; infer_instance
theorem cok0 : cok st0 := ⟨rfl, by decide, by decide, by decide, by decide, by decide, .inl rfl, (fun h => by cases h), fun _ => rfl⟩
theorem spec_ok : ∀ i < 7, offOk (specL.getD i 0) := by decide
theorem offF_ok {x y : Int} (h0 : 0 ≤ x) (h1 : x ≤ 255) (h : offF x = some y) : offOk y := by
  unfold offF at h
  split at h
  · cases h
  · split at h
    · cases h; unfold offOk; omega
    · split at h
      · cases h; unfold offOk; omega
      · cases h; exact spec_ok _ (by omega)
theorem set_off {o : List Int} {n : Nat} {x : Int} (hl : o.length = 8) (h : ∀ i < 8, offOk (o.getD i 0)) (hx : offOk x) : (o.set n x).length = 8 ∧ ∀ i < 8, offOk ((o.set n x).getD i 0) := by
  refine ⟨by rw [List.length_set, hl], fun i hi => ?_⟩
  rw [List.getD_eq_getElem?_getD, List.getElem?_set]
  split
  · split
    · exact hx
    · omega
  · rw [← List.getD_eq_getElem?_getD]; exact h i hi
theorem ext_ok {f b : Int} (h : 0 ≤ f ∧ f ≤ 255) (h0 : 0 ≤ b) (h1 : b ≤ 255) : offOk (65536 + 128 * (f % 32 * 256 + b)) := by unfold offOk; omega
theorem some_ok {x s' : CS} {y r : Option Int} (h : (some (x, y) : Option (CS × Option Int)) = some (s', r)) (hx : cok x) : cok s' := by
  simp only [Option.some.injEq, Prod.mk.injEq] at h
  exact h.1 ▸ hx
theorem actF_ok {s : CS} (hs : cok s) {n : Int} (h : 0 ≤ n ∧ n < 8) : cok (actF s n) :=
  ⟨hs.len, hs.off, h, ⟨by simp [actF], by simp [actF]⟩, hs.n, hs.first, hs.up, fun h => by simp [actF] at h, fun h => by simp [actF] at h⟩
theorem begF_ok {s : CS} (hs : cok s) {k n : Int} (hk : 0 ≤ k ∧ k ≤ 5) (h : 0 ≤ n ∧ n < 8) (hu : k = 3 ∨ k = 4 ∨ k = 2 ∨ k = 1 → s.up = 0) : cok (begF s k n) :=
  ⟨hs.len, hs.off, hs.act, ⟨hk.1, by simp only [begF]; omega⟩, h, hs.first, hs.up, fun h => by simp only [begF] at h; omega, hu⟩
theorem rest_ok {s : CS} (hs : cok s) {b : Int} (h0 : 0 ≤ b) (h1 : b ≤ 255) (hf : fitB s b = true) : cok (begF { s with first := b } 6 0) :=
  ⟨hs.len, hs.off, hs.act, ⟨by simp [begF], by simp [begF]⟩, ⟨by simp [begF], by simp [begF]⟩, ⟨h0, h1⟩, hs.up, fun _ => hf, fun h => by simp [begF] at h⟩
theorem wholeF_ok {s : CS} (hs : cok s) (u : Int) : cok (wholeF s u).1 := by
  unfold wholeF
  split
  · exact ⟨hs.len, hs.off, hs.act, ⟨Int.le_refl _, by simp⟩, hs.n, hs.first, .inl rfl, fun h => by simp at h, fun h => by simp at h⟩
  · split
    · rename_i h
      exact ⟨hs.len, hs.off, hs.act, ⟨Int.le_refl _, by simp⟩, hs.n, hs.first, .inr h, fun h => by simp at h, fun h => by simp at h⟩
    · exact ⟨hs.len, hs.off, hs.act, ⟨Int.le_refl _, by simp⟩, hs.n, hs.first, hs.up, fun h => by simp at h, fun h => by simp at h⟩
theorem cnx_ok {s s' : CS} {b : Int} {r : Option Int} (hs : cok s) (h0 : 0 ≤ b) (h1 : b ≤ 255) (h : cnx s b = some (s', r)) : cok s' := by
  unfold cnx at h
  split at h
  · unfold moreF at h
    split at h
    · exact some_ok h ⟨hs.len, hs.off, hs.act, ⟨Int.le_refl _, by simp⟩, hs.n, hs.first, hs.up, fun h => by simp at h, fun h => by simp at h⟩
    · split at h
      · cases ho : offF b with
        | none => rw [ho] at h; cases h
        | some x =>
          rw [ho] at h
          obtain ⟨h8, h9⟩ := set_off (n := s.n.toNat) hs.len hs.off (offF_ok h0 h1 ho)
          exact some_ok h (actF_ok (s := { s with o := s.o.set s.n.toNat x }) ⟨h8, h9, hs.act, hs.beg, hs.n, hs.first, hs.up, hs.fit, hs.uni⟩ hs.n)
      · split at h
        · rename_i h3
          exact some_ok h ⟨hs.len, hs.off, hs.act, ⟨by simp, by simp⟩, hs.n, ⟨h0, h1⟩, hs.up, fun h => by simp at h, fun _ => hs.uni (.inl h3)⟩
        · split at h
          · obtain ⟨h8, h9⟩ := set_off (n := (s.first / 32).toNat) hs.len hs.off (ext_ok hs.first h0 h1)
            have := hs.first
            exact some_ok h (actF_ok (s := { s with o := s.o.set (s.first / 32).toNat (65536 + 128 * (s.first % 32 * 256 + b)) }) ⟨h8, h9, hs.act, hs.beg, hs.n, hs.first, hs.up, hs.fit, hs.uni⟩ (by omega))
          · split at h
            · split at h
              · rename_i hf
                exact some_ok h (rest_ok hs h0 h1 hf)
              · cases h
            · exact some_ok h (wholeF_ok hs _)
  · split at h
    · unfold doubleF at h
      split at h
      · split at h
        · rename_i hf
          exact some_ok h (rest_ok hs h0 h1 hf)
        · cases h
      · split at h
        · exact some_ok h (begF_ok hs (by decide) (by decide) (fun h => by omega))
        · split at h
          · cases h
          · rename_i hu
            have hup : s.up = 0 := by omega
            split at h
            · exact some_ok h (begF_ok hs (by decide) (by decide) (fun _ => hup))
            · split at h
              · exact some_ok h (begF_ok hs (by decide) (by omega) (fun _ => hup))
              · exact some_ok h (actF_ok hs (by omega))
    · unfold singleF at h
      split at h
      · cases h
      · rename_i hu
        have hup : b ≠ 14 → s.up = 0 := by intro hb; omega
        split at h
        · exact some_ok h hs
        · split at h
          · exact some_ok h hs
          · split at h
            · exact some_ok h (begF_ok hs (by decide) (by omega) (fun _ => hup (by omega)))
            · split at h
              · exact some_ok h (actF_ok hs (by omega))
              · split at h
                · exact some_ok h ⟨hs.len, hs.off, hs.act, hs.beg, hs.n, hs.first, hs.up, hs.fit, hs.uni⟩
                · split at h
                  · exact some_ok h (begF_ok hs (by decide) (by decide) (fun h => by omega))
                  · split at h
                    · exact some_ok h (begF_ok hs (by decide) (by decide) (fun _ => hup (by omega)))
                    · exact some_ok h (begF_ok hs (by decide) (by omega) (fun _ => hup (by omega)))
end Go.Proofs.YtcgoofefiiihnaaGreat.S
namespace Go.Proofs.YtcgoofefiiihnaaGreat.F
open Go.RowKit Go.Proofs.YtcgoofefiiihnaaGreatW.PrintWords Go.Proofs.YtcgoofefiiihnaaGreatW.PrintMore PCod
set_option linter.unusedVariables false
set_option linter.unusedSimpArgs false
set_option maxRecDepth 20000
def rngL : Nat → List Int → Int → Int → Option (Int × Int)
  | 0, _, v, sp => some (v, sp)
  | t + 1, [], v, sp => rngL t [] (v * 243) (sp * 243)
  | t + 1, d :: ds, v, sp => if (D.tW d).2 = true then rngL t ds (v * 243 + (D.tW d).1) sp else none
def rngF : List Int → Option (Int × Int × Int)
  | [] => none
  | b :: ds => if (33 ≤ b ∧ b ≤ 254) ∧ (ds.length : Int) ≤ D.trF b then (rngL (D.trF b).toNat ds 0 1).map fun p => (D.leastF b + p.1, D.leastF b + p.1 + p.2 - 1, D.trF b + 1) else none
def leapF (lo : Int) : Int := if 55296 ≤ (if lo < 33 then 33 else lo) ∧ (if lo < 33 then 33 else lo) < 57344 then 57344 else if lo < 33 then 33 else lo
def someF (lo hi : Int) : Bool := decide (leapF lo ≤ hi) && decide (leapF lo ≤ 1114111)
def prevF (c : Int) : Int := if 12352 ≤ c ∧ c ≤ 12447 then 12400 else if 19968 ≤ c ∧ c ≤ 40869 then 30481 else if 44032 ≤ c ∧ c ≤ 55203 then 49617 else c / 128 * 128 + 64
theorem prevF_range {c : Int} (h0 : 0 ≤ c) (h1 : c ≤ 1114111) : 64 ≤ prevF c ∧ prevF c ≤ 1114111 := by unfold prevF; (repeat' split) <;> omega
structure CS where
  pv : Int
  pt : List Int
def cown (s : CS) : List Value := [.int .u32 s.pv, .string (strOfNums s.pt)]
def cok (s : CS) : Prop := (64 ≤ s.pv ∧ s.pv ≤ 1114111) ∧ (s.pt = [] ∨ ∃ lo hi n, rngF s.pt = some (lo, hi, n) ∧ (s.pt.length : Int) < n ∧ someF (s.pv + lo) (s.pv + hi) = true) ∧ ∀ x ∈ s.pt, 0 ≤ x ∧ x ≤ 255
def cnx (s : CS) (b : Int) : Option (CS × Option Int) :=
  if s.pt = [] ∧ b = 255 then some (⟨64, []⟩, none)
  else if s.pt = [] ∧ b ≤ 32 then some (⟨if b < 32 then 64 else s.pv, []⟩, some b)
  else if b < 0 ∨ 255 < b then none
  else match rngF (s.pt ++ [b]) with
    | none => none
    | some (lo, hi, n) => if someF (s.pv + lo) (s.pv + hi) = true then (if (s.pt.length : Int) + 1 = n then some (⟨prevF (s.pv + lo), []⟩, some (s.pv + lo)) else some (⟨s.pv, s.pt ++ [b]⟩, none)) else none
theorem prev_any (c : Int) (h0 : 0 ≤ c) (h1 : c ≤ 1114111) (w : World) : Calls Tryz.prog 202 #[.int .u32 c] w fun en w' => en = .returned (.int .u32 (prevF c)) ∧ ∃ k, w' = w.drewN k :=
  (PCod.diff_Prev.calls 2 c (prevF c) w (by
    rw [D.prev_at 0, D.andNot_127 c h0 (by omega)]
    have := prevF_range h0 h1
    unfold prevF at this ⊢
    congr 1
    (repeat' split) <;> first | rfl | omega)).mono fun e w' ⟨he, hd⟩ => ⟨he, hd.out⟩
section
variable {w : World} {g T : Nat} {a e f : Int} {d : Bool} {v : Value} {xs : List Int} {pv : Int} {pt : List Int}
end
section
variable {w : World} {g T : Nat} {a e f : Int} {d : Bool} {v : Value} {xs : List Int}
structure FeedAt (w : World) (g T : Nat) (a : Int) (v : Value) (s0 : CS) (t : ByteArray) (room : Int) (k : Nat) (os : List Int) (s : CS) (v' : Value) (w' : World) : Prop where
  le : k ≤ t.size
  run : run cnx s0 ((bytesOf t).take k) = some (s, os)
  dec : Dec w' g T (a + k) 0 0 false v' os (cown s)
  stp : Stp w g v w' v'
  room : (os.length : Int) ≤ room ∨ os = []
  ok : cok s
  few : os.length ≤ k
end
section
variable {w : World} {g T : Nat} {a e f : Int} {d : Bool} {v : Value} {xs : List Int}
end
structure ES where
  pv : Int
def eown (s : ES) : List Value := [.int .u32 s.pv]
def eok (s : ES) : Prop := 64 ≤ s.pv ∧ s.pv ≤ 1114111
def eby (s : ES) (c : Int) : List Int × ES := if c ≤ 32 then ([c], ⟨if c < 32 then 64 else s.pv⟩) else (D.packF (c - s.pv), ⟨prevF c⟩)
theorem isB_range {c : Int} (h : isB c = true) : c ≤ 1114111 := by
  simp only [isB, Bool.and_eq_true, decide_eq_true_eq] at h
  exact h.1
theorem eby_ok {s : ES} {c : Int} (hs : eok s) (h0 : 0 ≤ c) (hc : isB c = true) : eok (eby s c).2 := by
  unfold eby
  by_cases h : c ≤ 32
  · rw [if_pos h]
    unfold eok at hs ⊢
    simp only
    split <;> omega
  · rw [if_neg h]
    exact prevF_range h0 (isB_range hc)
theorem eby_len4 (s : ES) (c : Int) : (eby s c).1.length ≤ 4 := by
  unfold eby
  by_cases h : c ≤ 32
  · rw [if_pos h]; simp
  · rw [if_neg h]
    have := @D.packF_len (c - s.pv)
    have := @D.tr_range (D.leadF (c - s.pv))
    simp only
    omega
theorem eby_len (s : ES) (c : Int) : (eby s c).1.length ≤ 5 := Nat.le_trans (eby_len4 s c) (by decide)
theorem eby_bytes (s : ES) (c : Int) (hs : eok s) (h0 : 0 ≤ c) (hc : isB c = true) : ∀ x ∈ (eby s c).1, 0 ≤ x ∧ x ≤ 255 := by
  have := isB_range hc
  have h1 := hs.1
  have h2 := hs.2
  unfold eby
  by_cases h : c ≤ 32
  · rw [if_pos h]
    intro x hx
    rw [List.mem_singleton.1 hx]
    omega
  · rw [if_neg h]
    exact D.pack_inB (by omega) (by omega)
theorem pack_any (d : Int) (h0 : -1114111 ≤ d) (h1 : d ≤ 1114111) (w : World) : Calls Tryz.prog 268 #[.int .i64 d] w fun en w' => en = .returned (.tuple #[.string (strOfNums (D.packF d)), .bool true]) ∧ Below w.heap.size w w' :=
  PCod.diff_Pack.calls 6 d _ _ w (D.pack_at 0 d h0 h1)
section
variable {w : World} {g T : Nat} {a e f : Int} {d : Bool} {s : ByteArray}
theorem ebytes_any (q : ES) (c : Int) (hq : eok q) (hc0 : 0 ≤ c) (hc1 : isB c = true) (h : Enc w g T a e f d s (eown q)) :
    Calls Tryz.prog 267 #[.pointer (some ⟨g, 0, none⟩), .int .u32 c] w fun en w' => en = .returned (.string (strOfNums (eby q c).1)) ∧ Enc w' g T a e f d s (eown (eby q c).2) ∧ Kp (fun k => k = g) w w' := by
  obtain ⟨pv⟩ := q
  have c5 : w.cell? ⟨g, 5, none⟩ = some (.int .u32 pv) := enc_co h 0
  have f5 := h.fz 5
  have hcc := isB_range hc1
  obtain ⟨hq0, hq1⟩ := hq
  simp only at hq0 hq1
  have HD := Lib.hid h
  clear h hc1
  by_cases h32 : c ≤ 32
  · have e1 : decide (c ≤ 32) = true := by simp; omega
    have hw8 : IntKind.u8.wrap c = c := wrap8 hc0 (by omega)
    by_cases hlt : c < 32
    · have e2 : decide (c < 32) = true := by simp; omega
      have hconv := conv1 (w.setCell ⟨g, 5, none⟩ (.int .u32 64)) c
      rw [show (w.setCell ⟨g, 5, none⟩ (.int .u32 64)).heap.size = w.heap.size by simp [World.setCell]] at hconv
      have he : eby ⟨pv⟩ c = ([c], ⟨64⟩) := by unfold eby; rw [if_pos h32, if_pos hlt]
      rw [he]
      go_enter Tryz.func267, Tryz.ntmps267
      go_wp2_with fail
      go_ret
      exact ⟨rfl, blk_alloc (HD.out.setr 1 _) _, ((Kp.refl _ _).setg _ _).alloc _⟩
    · have e2 : decide (c < 32) = false := by simp; omega
      have hconv := conv1 w c
      have he : eby ⟨pv⟩ c = ([c], ⟨pv⟩) := by unfold eby; rw [if_pos h32, if_neg hlt]
      rw [he]
      go_enter Tryz.func267, Tryz.ntmps267
      go_wp2_with fail
      go_ret
      exact ⟨rfl, blk_alloc HD.out _, (Kp.refl _ _).alloc _⟩
  · have e1 : decide (c ≤ 32) = false := by simp; omega
    have he : eby ⟨pv⟩ c = (D.packF (c - pv), ⟨prevF c⟩) := by unfold eby; rw [if_neg h32]
    rw [he]
    have hw1 : IntKind.i64.wrap c = c := wrap_small (by omega) (by omega)
    have hw2 : IntKind.i64.wrap pv = pv := wrap_small (by omega) (by omega)
    have hw3 : IntKind.i64.wrap (c - pv) = c - pv := wrap_small (by omega) (by omega)
    go_enter Tryz.func267, Tryz.ntmps267
    go_wp2_with fail
    refine (pack_any (c - pv) (by omega) (by omega) _).mono ?_
    rintro en w1 ⟨rfl, hb1⟩
    have HD1 : Hid (Enc w1 g T a e f d s (eown ⟨pv⟩)) := Lib.hid (blk_below HD.out hb1)
    have HK1 : Hid (Kp (fun k => k = g) w w1) := Lib.hid (Kp.of_below hb1)
    clear hb1 c5 f5
    go_wp2_with fail
    refine (prev_any c hc0 hcc _).mono ?_
    rintro en w2 ⟨rfl, k2, rfl⟩
    have HD2 : Hid (Enc (w1.drewN k2) g T a e f d s (eown ⟨pv⟩)) := Lib.hid HD1.out
    have HK2 : Hid (Kp (fun k => k = g) w (w1.drewN k2)) := Lib.hid (HK1.out.drewN k2)
    generalize w1.drewN k2 = w2 at *
    have c52 : w2.cell? ⟨g, 5, none⟩ = some (.int .u32 pv) := enc_co HD2.out 0
    have f52 := HD2.out.fz 5
    go_wp2_with fail
    go_ret
    exact ⟨rfl, HD2.out.setr 1 _, HK2.out.setg _ _⟩
end
def erun : ES → List Int → List Int × ES
  | s, [] => ([], s)
  | s, c :: r => ((eby s c).1 ++ (erun (eby s c).2 r).1, (erun (eby s c).2 r).2)
theorem erun_append : ∀ (l : List Int) (s : ES) (m : List Int), erun s (l ++ m) = ((erun s l).1 ++ (erun (erun s l).2 m).1, (erun (erun s l).2 m).2)
  | [], s, m => rfl
  | x :: l, s, m => by simp [erun, erun_append l, List.append_assoc]
theorem erun_snoc (l : List Int) (s : ES) (c : Int) : erun s (l ++ [c]) = ((erun s l).1 ++ (eby (erun s l).2 c).1, (eby (erun s l).2 c).2) := by
  rw [erun_append]; simp [erun]
section
variable {w : World} {g T : Nat} {a e f : Int} {d : Bool} {s : ByteArray}
structure EFeedAt (w : World) (g T : Nat) (a : Int) (p : List Int) (s0 : ES) (ls : List Int) (room : Int) (k : Nat) (x y : ByteArray) (wr : World) : Prop where
  le : k ≤ ls.length
  sc : ∀ c ∈ ls.take k, isB c = true
  by_ : bytesOf x ++ bytesOf y = p ++ (erun s0 (ls.take k)).1
  enc : Enc wr g T (a + k) 0 0 false y (eown (erun s0 (ls.take k)).2)
  kp : Kp (fun k => k = g) w wr
  rm : x.size ≤ room.toNat
  full : y.size ≠ 0 → x.size = room.toNat
  few : y.size ≤ max p.length 5
  ok : eok (erun s0 (ls.take k)).2
  got : k = 0 ∨ p.length ≤ room.toNat
def EFeedPost (w : World) (g T : Nat) (a : Int) (p : List Int) (s0 : ES) (ls : List Int) (room : Int) (en : Ending) (w' : World) : Prop :=
  ∃ (m : Nat) (x y : ByteArray), en = .returned (.tuple #[.int .i64 m, .string x]) ∧ m ≤ ls.length ∧ (∀ c ∈ ls.take m, isB c = true) ∧ bytesOf x ++ bytesOf y = p ++ (erun s0 (ls.take m)).1 ∧ Kp (fun k => k = g) w w' ∧ x.size ≤ room.toNat ∧ (y.size ≠ 0 → x.size = room.toNat) ∧ y.size ≤ max p.length 5 ∧ eok (erun s0 (ls.take m)).2 ∧
    ((Enc w' g T (a + m) 0 0 false y (eown (erun s0 (ls.take m)).2) ∧ (m = ls.length ∨ y.size ≠ 0)) ∨
     (m < ls.length ∧ isB (ls.getD m 0) = false ∧ y.size = 0 ∧ Enc w' g T (a + m) 2 (a + m) false y (eown (erun s0 (ls.take m)).2)))
theorem take_snoc {ls : List Int} {k : Nat} (h : k < ls.length) : ls.take (k + 1) = ls.take k ++ [ls.getD k 0] := by
  rw [List.take_succ_eq_append_getElem h, List.getD_eq_getElem?_getD, List.getElem?_eq_getElem h]; rfl
theorem efeed_start {p : List Int} {s0 : ES} {ls : List Int} {room : Int} {kept x y : ByteArray} {w1 : World} (hp : bytesOf kept = p) (hs : eok s0) (hg : Given kept room x y) (h : Enc w1 g T a 0 0 false y (eown s0)) (hk : Kp (fun k => k = g) w w1) : EFeedAt w g T a p s0 ls room 0 x y w1 := by
  obtain ⟨h1, h2⟩ := hg.bytes
  have hx := congrArg List.length h1
  have hy := congrArg List.length h2
  rw [List.length_take, bytesOf_length] at hx
  rw [List.length_drop, bytesOf_length] at hy
  refine ⟨Nat.zero_le _, by simp, ?_, by simpa [erun] using h, hk, by omega, fun h0 => by omega, by rw [← hp]; omega, by simpa [erun] using hs, .inl rfl⟩
  rw [h1, h2, List.take_append_drop, hp]; simp [erun]
theorem efeed_on {p : List Int} {s0 : ES} {ls : List Int} {room : Int} {k : Nat} {x y x2 y2 b : ByteArray} {wr w2 : World} (h : EFeedAt w g T a p s0 ls room k x y wr) (hk : k < ls.length) (hc0 : 0 ≤ ls.getD k 0) (hc : isB (ls.getD k 0) = true) (hy : y.size = 0)
    (hb : b = strOfNums (eby (erun s0 (ls.take k)).2 (ls.getD k 0)).1) (hg : Given (y ++ b) (room - x.size) x2 y2) (he : Enc w2 g T (a + k + 1) 0 0 false y2 (eown (eby (erun s0 (ls.take k)).2 (ls.getD k 0)).2)) (hkp : Kp (fun k => k = g) wr w2) :
    EFeedAt w g T a p s0 ls room (k + 1) (x ++ x2) y2 w2 := by
  subst hb
  obtain ⟨h1, h2⟩ := hg.bytes
  have hbb := bytesOf_ofNums (eby_bytes _ _ h.ok hc0 hc)
  have hy0 : bytesOf y = [] := List.eq_nil_of_length_eq_zero (by rw [bytesOf_length]; exact hy)
  rw [bytesOf_append, hy0, List.nil_append, hbb] at h1 h2
  have hx2 := congrArg List.length h1
  have hy2 := congrArg List.length h2
  have hl := eby_len (erun s0 (ls.take k)).2 (ls.getD k 0)
  rw [List.length_take, bytesOf_length] at hx2
  rw [List.length_drop, bytesOf_length] at hy2
  have hr := h.rm
  have hby := h.by_
  rw [hy0, List.append_nil] at hby
  have hxl := congrArg List.length hby
  rw [bytesOf_length, List.length_append] at hxl
  have hsz : (x ++ x2).size = x.size + x2.size := ByteArray.size_append
  refine ⟨hk, ?_, ?_, ?_, h.kp.tr hkp, by omega, fun h0 => by omega, by omega, ?_, .inr (by omega)⟩
  · rw [take_snoc hk]
    intro c hm
    rcases List.mem_append.1 hm with h9 | h9
    · exact h.sc c h9
    · rw [List.mem_singleton.1 h9]; exact hc
  · rw [take_snoc hk, erun_snoc, bytesOf_append, List.append_assoc, h1, h2, List.take_append_drop, hby, List.append_assoc]
  · rw [take_snoc hk, erun_snoc, show a + ((k + 1 : Nat) : Int) = a + k + 1 by omega]
    exact he
  · rw [take_snoc hk, erun_snoc]
    exact eby_ok h.ok hc0 hc
theorem efeed_end {p : List Int} {s0 : ES} {ls : List Int} {room : Int} {k : Nat} {x y : ByteArray} {wr : World} (h : EFeedAt w g T a p s0 ls room k x y wr) (hx : k = ls.length ∨ y.size ≠ 0) : EFeedPost w g T a p s0 ls room (.returned (.tuple #[.int .i64 k, .string x])) wr :=
  ⟨k, x, y, rfl, h.le, h.sc, h.by_, h.kp, h.rm, h.full, h.few, h.ok, .inl ⟨h.enc, hx⟩⟩
theorem efeed_wrong {p : List Int} {s0 : ES} {ls : List Int} {room : Int} {k : Nat} {x y : ByteArray} {wr w2 : World} (h : EFeedAt w g T a p s0 ls room k x y wr) (hk : k < ls.length) (hn : isB (ls.getD k 0) = false) (hy : y.size = 0) (he : Enc w2 g T (a + k) 2 (a + k) false y (eown (erun s0 (ls.take k)).2)) (hkp : Kp (fun k => k = g) wr w2) :
    EFeedPost w g T a p s0 ls room (.returned (.tuple #[.int .i64 k, .string x])) w2 :=
  ⟨k, x, y, rfl, h.le, h.sc, h.by_, h.kp.tr hkp, h.rm, h.full, h.few, h.ok, .inr ⟨hk, hn, hy, he⟩⟩
theorem efeed_any (A : Option Addr) (n c : Nat) (ls : List Int) (room : Int) (s0 : ES) (p : List Int) (kept : ByteArray) (hp : bytesOf kept = p) (hpl : p.length ≤ 100) (hs : eok s0) (hr : ReadsInt w .u32 A n ls) (hrg : ∀ ad, A = some ad → ad.block ≠ g) (hwf : ∀ k, 0 ≤ ls.getD k 0 ∧ ls.getD k 0 ≤ 4294967295) (hn : n ≤ 1000000) (ha0 : 0 ≤ a) (ha1 : a ≤ 1000000000) (hr1 : room ≤ 1000000000) (hr0 : -1000000000 ≤ room) (h : Enc w g T a 0 0 false kept (eown s0)) :
    Calls Tryz.prog 266 #[.pointer (some ⟨g, 0, none⟩), .slice A n c, .int .i64 room] w (EFeedPost w g T a p s0 ls room) := by
  have HD := Lib.hid h
  have HLN := Lib.hid hr.1
  have HR := Lib.hid hr
  have HRG := Lib.hid hrg
  have HWF := Lib.hid hwf
  have HPP := Lib.hid hp
  have HSS := Lib.hid hs
  have HLB : Hid (∀ (q : ES) (y : ByteArray) (cc : Int), y.size = 0 → eok q → 0 ≤ cc → isB cc = true → y.size + (strOfNums (eby q cc).1).size ≤ 1073741824 ∧ (y ++ strOfNums (eby q cc).1).size ≤ 1073741824) := by
    intro q y cc hy hq h0 hb
    have hl := eby_len q cc
    have hz : (strOfNums (eby q cc).1).size = (eby q cc).1.length := by simp [strOfNums, ByteArray.size]
    have hsz : (y ++ strOfNums (eby q cc).1).size = y.size + (strOfNums (eby q cc).1).size := ByteArray.size_append
    omega
  clear h hr hrg hwf hp hs
  go_enter Tryz.func266, Tryz.ntmps266
  go_wp2_with (first | (go_at_call 225; go_must (refine (enc_give room (by rw [← bytesOf_length, HPP.out]; omega) HD.out).mono ?_); rintro e w1 ⟨x, y, rfl, he1, hk1, hg1⟩; have HF := Lib.hid (efeed_start (ls := ls) HPP.out HSS.out hg1 he1 hk1); clear he1 hk1 hg1))
  go_loopw [8, 9] (fun o q wr => ∃ (k : Nat) (x y : ByteArray), q = .int .i64 k ∧ o = .string x ∧ EFeedAt w g T a p s0 ls room k x y wr) (fun _ q _ => n - (intOf q).toNat)
  case atStart => exact ⟨0, _, _, rfl, rfl, HF.out⟩
  case round =>
    clear HF
    obtain ⟨k, x, y, rfl, rfl, hk⟩ := hrel
    have hle := hk.le
    have hrm := hk.rm
    have hfew := hk.few
    have hkn : k ≤ n := by have := HLN.out; omega
    have HE := Lib.hid hk.enc
    have HK := Lib.hid hk
    clear hk
    by_cases hlt : k < n
    · by_cases hy : y.size = 0
      · have hyb : ((y.size : Int) == 0) = true := by simp [hy]
        have hr1 := reads_kp HR.out HK.out.kp HRG.out
        obtain ⟨ad, rfl, hc⟩ := hr1.at_ (k : Int) (by omega) (by omega)
        rw [Int.toNat_natCast, show rd ls (k : Int) = ls.getD k 0 from rfl] at hc
        have hw := HWF.out k
        have HY := Lib.hid hy
        have HLT := Lib.hid (show k < ls.length by have := HLN.out; omega)
        generalize hgc : ls.getD k 0 = cc at *
        have HGC := Lib.hid hgc
        clear hgc hy hr1
        cases hb : isB cc with
        | false =>
          have HB := Lib.hid hb
          clear hb
          go_wp2_with (first | (go_at_call 224; go_must (refine (enc_kept HE.out).mono ?_); rintro e w' ⟨rfl, rfl⟩) | (go_at_call 158; go_must (refine (going_yes HE.out).mono ?_); rintro e w' ⟨rfl, rfl⟩) | (go_at_call 86; go_must (refine (is_any cc _).mono ?_); rw [HB.out]; rintro e w' ⟨rfl, rfl⟩) | (go_at_call 160; go_must (refine (stop_yes 2 rfl HE.out).mono ?_); rintro e w2 ⟨rfl, he2, hk2⟩; have HE2 := Lib.hid he2; have HK2 := Lib.hid hk2; clear he2 hk2))
          go_ret2
          exact efeed_wrong HK.out HLT.out (by rw [HGC.out]; exact HB.out) HY.out HE2.out HK2.out
        | true =>
          have HB := Lib.hid hb
          clear hb
          go_wp2_with (first | (go_at_call 224; go_must (refine (enc_kept HE.out).mono ?_); rintro e w' ⟨rfl, rfl⟩) | (go_at_call 158; go_must (refine (going_yes HE.out).mono ?_); rintro e w' ⟨rfl, rfl⟩) | (go_at_call 86; go_must (refine (is_any cc _).mono ?_); rw [HB.out]; rintro e w' ⟨rfl, rfl⟩))
          have hw0 := HWF.out k
          have hadg : (ad.add k).block ≠ g := by rw [add_block]; exact HRG.out ad rfl
          have HADG := Lib.hid hadg
          have HADL := Lib.hid (World.block_lt_of_cell? wr _ hc)
          clear hadg
          go_region_held3 (fun w' => w'.cell? (ad.add k) = some (.int .u32 cc)) (first | assumption | go_keep) (first | (go_at_call 267; refine (ebytes_any (w := wr.drew) (erun s0 (ls.take k)).2 cc HK.out.ok (by omega) HB.out HE.out).mono ?_; rintro e w3 ⟨rfl, he3, hk3⟩; have HE3 := Lib.hid he3; have HK3 := Lib.hid hk3; have hc3 : w3.cell? (ad.add k) = some (.int .u32 cc) := (World.cell?_of_block (w := wr) (hk3.block _ HADL.out HADG.out)).trans hc; clear he3 hk3) | (go_at_call 226; refine (enc_keep (HLB.out _ y cc HY.out HK.out.ok (by omega) HB.out).1 HE3.out).mono ?_; rintro e w4 ⟨rfl, he4, hk4⟩; have HE4 := Lib.hid he4; have HK4 := Lib.hid hk4; have hc4 : w4.cell? (ad.add k) = some (.int .u32 cc) := (World.cell?_of_block (w := w3) (hk4.block _ (Nat.lt_of_lt_of_le HADL.out HK3.out.size) HADG.out)).trans hc3; clear he4 hk4))
          go_wp2_with (first | (go_at_call 163; go_must (refine (eat_pos 1 (by omega) (by omega) (by omega) (by omega) HE4.out).mono ?_); rintro e w5 ⟨rfl, he5, hk5⟩; have HE5 := Lib.hid he5; have HK5 := Lib.hid hk5; clear he5 hk5) | (go_at_call 225; go_must (refine (enc_give _ (HLB.out _ y cc HY.out HK.out.ok (by omega) HB.out).2 HE5.out).mono ?_); rintro e w6 ⟨x6, y6, rfl, he6, hk6, hg6⟩; have HE6 := Lib.hid he6; have HK6 := Lib.hid hk6; have HG6 := Lib.hid hg6; have hx6 := hg6.le; clear he6 hk6 hg6))
          go_roundw
          case rel => exact ⟨k + 1, _, _, rfl, rfl, efeed_on HK.out HLT.out (by rw [HGC.out]; omega) (by rw [HGC.out]; exact HB.out) HY.out (by rw [HGC.out]) HG6.out (by rw [HGC.out]; exact HE6.out) (((((Kp.refl _ _).drew.tr HK3.out).tr HK4.out).tr HK5.out).tr HK6.out)⟩
          case measure => simp [intOf]; omega
      · have HY : Hid (y.size ≠ 0) := hy
        have hyb : ((y.size : Int) == 0) = false := by simp [hy]
        clear hy
        go_wp2_with (first | (go_at_call 224; go_must (refine (enc_kept HE.out).mono ?_); rintro e w' ⟨rfl, rfl⟩))
        go_ret2
        exact efeed_end HK.out (.inr HY.out)
    · have HX := Lib.hid (show k = ls.length from by have := HLN.out; omega)
      go_wp2_with (first | (go_at_call 224; go_must (refine (enc_kept HE.out).mono ?_); rintro e w' ⟨rfl, rfl⟩))
      go_ret2
      exact efeed_end HK.out (.inl HX.out)
end
end Go.Proofs.YtcgoofefiiihnaaGreat.F
