-- by a program of this session (print2.py): the machine's side of one law; Lean checks it.
import Derived.Test.YtcnojfoiolbnaaaQJsonlexNumbersx0
import Derived.Test.YtcnojfoiolbnaaaQJsonlexNumbersx2
import Derived.Test.YtcnojfoiolbnaaaQJsonlexNumbersx3
import Derived.Test.YtcnojfoiolbnaaaQJsonlexNumbersx6
namespace Go.Proofs.Ytcnojfoiolbnaaa.QJsonlexNumbers
open Go.RowKit Go.Proofs.YtcnojfoiolbnaaaW.PrintWords Go.Proofs.YtcnojfoiolbnaaaW.PrintLast Go.Proofs.YtcnojfoiolbnaaaW.PrintMore
attribute [local go_sem] max2_int min2_int max_two min_two max_three min_three max_four min_four   -- for this text's walks alone
set_option linter.unusedVariables false
set_option linter.unusedSimpArgs false

/-! ### jsonlex_Next: function 9 -/
mutual
def jsonlex_Next.j0 : Nat → ByteArray → Int → Bool → Option (Int × Int × Int × Int × Int × ByteArray × Int × Int)
 | 0, _, _, _ => none
 | k + 1, x0, x1, x18 => if x18 = true then (some (0, 0, 0, 0, 0, (⟨#[]⟩ : ByteArray), 0, 3)) else ((jsonlex_Skip.f k x0 x1).bind fun t163 => (if t163 = (x0.size : Int) then (some (0, t163, t163, 0, 0, (⟨#[]⟩ : ByteArray), t163, 0)) else (if 0 ≤ t163 then (if t163 < (x0.size : Int) then (if (bt x0 t163) = 91 then (jsonlex_Next.j1 k x0 t163 0 (bt x0 t163) true 0 t163 0 0 0 (⟨#[]⟩ : ByteArray)) else (if (bt x0 t163) = 93 then (jsonlex_Next.j1 k x0 t163 0 (bt x0 t163) true 0 t163 0 0 0 (⟨#[]⟩ : ByteArray)) else (if (bt x0 t163) = 123 then (jsonlex_Next.j1 k x0 t163 0 (bt x0 t163) true 0 t163 0 0 0 (⟨#[]⟩ : ByteArray)) else (if (bt x0 t163) = 125 then (jsonlex_Next.j1 k x0 t163 0 (bt x0 t163) true 0 t163 0 0 0 (⟨#[]⟩ : ByteArray)) else (if (bt x0 t163) = 44 then (jsonlex_Next.j1 k x0 t163 0 (bt x0 t163) true 0 t163 0 0 0 (⟨#[]⟩ : ByteArray)) else (jsonlex_Next.j1 k x0 t163 0 (bt x0 t163) ((bt x0 t163) == 58) 0 t163 0 0 0 (⟨#[]⟩ : ByteArray))))))) else (none)) else (none))))
def jsonlex_Next.j1 : Nat → ByteArray → Int → Int → Int → Bool → Int → Int → Int → Int → Int → ByteArray → Option (Int × Int × Int × Int × Int × ByteArray × Int × Int)
 | 0, _, _, _, _, _, _, _, _, _, _, _ => none
 | k + 1, x0, x1, x8, x9, x38, x165000, x165001, x165002, x165003, x165004, x165005 => if x38 = true then (if x8 = 0 then (some (1, x165001, wrap64 (x1 + 1), x9, x165004, x165005, wrap64 (x1 + 1), 0)) else (some (0, 0, 0, 0, 0, (⟨#[]⟩ : ByteArray), wrap64 (x1 + 1), x8))) else (if x9 ≥ 97 then (jsonlex_Next.j2 k x0 x1 x8 x9 (decide (x9 ≤ 122)) x165000 x165001 x165002 x165003 x165004 x165005) else (jsonlex_Next.j2 k x0 x1 x8 x9 false x165000 x165001 x165002 x165003 x165004 x165005))
def jsonlex_Next.j2 : Nat → ByteArray → Int → Int → Int → Bool → Int → Int → Int → Int → Int → ByteArray → Option (Int × Int × Int × Int × Int × ByteArray × Int × Int)
 | 0, _, _, _, _, _, _, _, _, _, _, _ => none
 | k + 1, x0, x1, x8, x9, x67, x165000, x165001, x165002, x165003, x165004, x165005 => if x67 = true then (jsonlex_Next.l0 k x0 x1 x8 2 x165001 x1 x9 x165004 x165005) else (if x9 = 45 then (jsonlex_Next.j6 k x0 x1 x9 true x165000 x165001 x165002 x165003 x165004 x165005) else ((jsonlex_digit.f x9).bind fun t165 => (jsonlex_Next.j6 k x0 x1 x9 t165 x165000 x165001 x165002 x165003 x165004 x165005)))
def jsonlex_Next.j4 : Nat → ByteArray → Int → Int → Int → Int → Int → Int → Int → ByteArray → Option (Int × Int × Int × Int × Int × ByteArray × Int × Int)
 | 0, _, _, _, _, _, _, _, _, _ => none
 | k + 1, x0, x1, x8, x165000, x165001, x165002, x165003, x165004, x165005 => if 0 ≤ x1 then (if x1 ≤ x165002 then (if x165002 ≤ (x0.size : Int) then (if (x0.extract (x1 : Int).toNat (x165002 : Int).toNat).toList = ([110, 117, 108, 108] : List UInt8) then (jsonlex_Next.j5 k x1 x8 false x165000 x165001 x165002 x165003 x165004 x165005) else (if (x0.extract (x1 : Int).toNat (x165002 : Int).toNat).toList = ([116, 114, 117, 101] : List UInt8) then (jsonlex_Next.j5 k x1 x8 false x165000 x165001 x165002 x165003 x165004 x165005) else (jsonlex_Next.j5 k x1 x8 ((x0.extract (x1 : Int).toNat (x165002 : Int).toNat).toList != ([102, 97, 108, 115, 101] : List UInt8)) x165000 x165001 x165002 x165003 x165004 x165005))) else (none)) else (none)) else (none)
def jsonlex_Next.j5 : Nat → Int → Int → Bool → Int → Int → Int → Int → Int → ByteArray → Option (Int × Int × Int × Int × Int × ByteArray × Int × Int)
 | 0, _, _, _, _, _, _, _, _, _ => none
 | k + 1, x1, x8, x116, x165000, x165001, x165002, x165003, x165004, x165005 => if x116 = true then (some (0, 0, 0, 0, 0, (⟨#[]⟩ : ByteArray), x1, 4)) else (if x8 = 0 then (some (x165000, x165001, x165002, x165003, x165004, x165005, x165002, 0)) else (some (0, 0, 0, 0, 0, (⟨#[]⟩ : ByteArray), x165002, x8)))
def jsonlex_Next.l0 : Nat → ByteArray → Int → Int → Int → Int → Int → Int → Int → ByteArray → Option (Int × Int × Int × Int × Int × ByteArray × Int × Int)
 | 0, _, _, _, _, _, _, _, _, _ => none
 | k + 1, x0, x1, x8, x165000, x165001, x165002, x165003, x165004, x165005 => if x165002 < (x0.size : Int) then (if 0 ≤ x165002 then (if (bt x0 x165002) ≥ 97 then (if (bt x0 x165002) ≤ 122 then (jsonlex_Next.l0 k x0 x1 x8 x165000 x165001 (wrap64 (x165002 + 1)) x165003 x165004 x165005) else (jsonlex_Next.j4 k x0 x1 x8 x165000 x165001 x165002 x165003 x165004 x165005)) else (jsonlex_Next.j4 k x0 x1 x8 x165000 x165001 x165002 x165003 x165004 x165005)) else (none)) else (jsonlex_Next.j4 k x0 x1 x8 x165000 x165001 x165002 x165003 x165004 x165005)
def jsonlex_Next.j6 : Nat → ByteArray → Int → Int → Bool → Int → Int → Int → Int → Int → ByteArray → Option (Int × Int × Int × Int × Int × ByteArray × Int × Int)
 | 0, _, _, _, _, _, _, _, _, _, _ => none
 | k + 1, x0, x1, x9, x119, x165000, x165001, x165002, x165003, x165004, x165005 => if x119 = true then ((jsonlex_number.f k x0 x1).bind fun bt166 => (if bt166.2.2 = 0 then (some (3, x165001, bt166.2.1, x165003, bt166.1, x165005, bt166.2.1, 0)) else (some (0, 0, 0, 0, 0, (⟨#[]⟩ : ByteArray), bt166.2.1, bt166.2.2)))) else (if x9 = 34 then ((jsonlex_text.f k x0 x1).bind fun bt169 => (if bt169.2.2 = 0 then (some (4, x165001, bt169.2.1, x165003, x165004, bt169.1, bt169.2.1, 0)) else (some (0, 0, 0, 0, 0, (⟨#[]⟩ : ByteArray), bt169.2.1, bt169.2.2)))) else (some (0, 0, 0, 0, 0, (⟨#[]⟩ : ByteArray), x1, 4)))
end
def jsonlex_Next.f (k : Nat) (a0 : ByteArray) (a1 : Int) : Option (Int × Int × Int × Int × Int × ByteArray × Int × Int) := if a1 < 0 then (jsonlex_Next.j0 k a0 a1 true) else (jsonlex_Next.j0 k a0 a1 (decide (a1 > (a0.size : Int))))
theorem jsonlex_Next.mono_l : ∀ k, (∀ y0 y1 y2, LeO (jsonlex_Next.j0 k y0 y1 y2) (jsonlex_Next.j0 (k + 1) y0 y1 y2)) ∧ (∀ y0 y1 y2 y3 y4 y5 y6 y7 y8 y9 y10, LeO (jsonlex_Next.j1 k y0 y1 y2 y3 y4 y5 y6 y7 y8 y9 y10) (jsonlex_Next.j1 (k + 1) y0 y1 y2 y3 y4 y5 y6 y7 y8 y9 y10)) ∧ (∀ y0 y1 y2 y3 y4 y5 y6 y7 y8 y9 y10, LeO (jsonlex_Next.j2 k y0 y1 y2 y3 y4 y5 y6 y7 y8 y9 y10) (jsonlex_Next.j2 (k + 1) y0 y1 y2 y3 y4 y5 y6 y7 y8 y9 y10)) ∧ (∀ y0 y1 y2 y3 y4 y5 y6 y7 y8, LeO (jsonlex_Next.j4 k y0 y1 y2 y3 y4 y5 y6 y7 y8) (jsonlex_Next.j4 (k + 1) y0 y1 y2 y3 y4 y5 y6 y7 y8)) ∧ (∀ y0 y1 y2 y3 y4 y5 y6 y7 y8, LeO (jsonlex_Next.j5 k y0 y1 y2 y3 y4 y5 y6 y7 y8) (jsonlex_Next.j5 (k + 1) y0 y1 y2 y3 y4 y5 y6 y7 y8)) ∧ (∀ y0 y1 y2 y3 y4 y5 y6 y7 y8, LeO (jsonlex_Next.l0 k y0 y1 y2 y3 y4 y5 y6 y7 y8) (jsonlex_Next.l0 (k + 1) y0 y1 y2 y3 y4 y5 y6 y7 y8)) ∧ (∀ y0 y1 y2 y3 y4 y5 y6 y7 y8 y9, LeO (jsonlex_Next.j6 k y0 y1 y2 y3 y4 y5 y6 y7 y8 y9) (jsonlex_Next.j6 (k + 1) y0 y1 y2 y3 y4 y5 y6 y7 y8 y9))
 | 0 => ⟨fun _ _ _ r h => by simp [jsonlex_Next.j0] at h, fun _ _ _ _ _ _ _ _ _ _ _ r h => by simp [jsonlex_Next.j1] at h, fun _ _ _ _ _ _ _ _ _ _ _ r h => by simp [jsonlex_Next.j2] at h, fun _ _ _ _ _ _ _ _ _ r h => by simp [jsonlex_Next.j4] at h, fun _ _ _ _ _ _ _ _ _ r h => by simp [jsonlex_Next.j5] at h, fun _ _ _ _ _ _ _ _ _ r h => by simp [jsonlex_Next.l0] at h, fun _ _ _ _ _ _ _ _ _ _ r h => by simp [jsonlex_Next.j6] at h⟩
 | k + 1 => by
  obtain ⟨ih0, ih1, ih2, ih3, ih4, ih5, ih6⟩ := jsonlex_Next.mono_l k
  refine ⟨?_, ?_, ?_, ?_, ?_, ?_, ?_⟩
  ·intro y0 y1 y2
   unfold jsonlex_Next.j0
   repeat' first
   | (with_reducible exact ih0 _ _ _)
   | (with_reducible exact ih1 _ _ _ _ _ _ _ _ _ _ _)
   | (with_reducible exact ih2 _ _ _ _ _ _ _ _ _ _ _)
   | (with_reducible exact ih3 _ _ _ _ _ _ _ _ _)
   | (with_reducible exact ih4 _ _ _ _ _ _ _ _ _)
   | (with_reducible exact ih5 _ _ _ _ _ _ _ _ _)
   | (with_reducible exact ih6 _ _ _ _ _ _ _ _ _ _)
   | (with_reducible exact jsonlex_Skip.mono _ _ _)
   | (with_reducible exact jsonlex_number.mono _ _ _)
   | (with_reducible exact jsonlex_text.mono _ _ _)
   | (with_reducible exact LeO.refl _)
   | (with_reducible exact LeO.none _)
   | (with_reducible refine LeO.ite ?_ ?_)
   | (with_reducible refine LeO.bind ?_ (fun _ => ?_))
   | exact ih0 _ _ _
   | exact ih1 _ _ _ _ _ _ _ _ _ _ _
   | exact ih2 _ _ _ _ _ _ _ _ _ _ _
   | exact ih3 _ _ _ _ _ _ _ _ _
   | exact ih4 _ _ _ _ _ _ _ _ _
   | exact ih5 _ _ _ _ _ _ _ _ _
   | exact ih6 _ _ _ _ _ _ _ _ _ _
   | exact jsonlex_Skip.mono _ _ _
   | exact jsonlex_number.mono _ _ _
   | exact jsonlex_text.mono _ _ _
   | exact LeO.none _
   | refine LeO.ite ?_ ?_
   | refine LeO.bind ?_ (fun _ => ?_)
  ·intro y0 y1 y2 y3 y4 y5 y6 y7 y8 y9 y10
   unfold jsonlex_Next.j1
   repeat' first
   | (with_reducible exact ih0 _ _ _)
   | (with_reducible exact ih1 _ _ _ _ _ _ _ _ _ _ _)
   | (with_reducible exact ih2 _ _ _ _ _ _ _ _ _ _ _)
   | (with_reducible exact ih3 _ _ _ _ _ _ _ _ _)
   | (with_reducible exact ih4 _ _ _ _ _ _ _ _ _)
   | (with_reducible exact ih5 _ _ _ _ _ _ _ _ _)
   | (with_reducible exact ih6 _ _ _ _ _ _ _ _ _ _)
   | (with_reducible exact jsonlex_Skip.mono _ _ _)
   | (with_reducible exact jsonlex_number.mono _ _ _)
   | (with_reducible exact jsonlex_text.mono _ _ _)
   | (with_reducible exact LeO.refl _)
   | (with_reducible exact LeO.none _)
   | (with_reducible refine LeO.ite ?_ ?_)
   | (with_reducible refine LeO.bind ?_ (fun _ => ?_))
   | exact ih0 _ _ _
   | exact ih1 _ _ _ _ _ _ _ _ _ _ _
   | exact ih2 _ _ _ _ _ _ _ _ _ _ _
   | exact ih3 _ _ _ _ _ _ _ _ _
   | exact ih4 _ _ _ _ _ _ _ _ _
   | exact ih5 _ _ _ _ _ _ _ _ _
   | exact ih6 _ _ _ _ _ _ _ _ _ _
   | exact jsonlex_Skip.mono _ _ _
   | exact jsonlex_number.mono _ _ _
   | exact jsonlex_text.mono _ _ _
   | exact LeO.none _
   | refine LeO.ite ?_ ?_
   | refine LeO.bind ?_ (fun _ => ?_)
  ·intro y0 y1 y2 y3 y4 y5 y6 y7 y8 y9 y10
   unfold jsonlex_Next.j2
   repeat' first
   | (with_reducible exact ih0 _ _ _)
   | (with_reducible exact ih1 _ _ _ _ _ _ _ _ _ _ _)
   | (with_reducible exact ih2 _ _ _ _ _ _ _ _ _ _ _)
   | (with_reducible exact ih3 _ _ _ _ _ _ _ _ _)
   | (with_reducible exact ih4 _ _ _ _ _ _ _ _ _)
   | (with_reducible exact ih5 _ _ _ _ _ _ _ _ _)
   | (with_reducible exact ih6 _ _ _ _ _ _ _ _ _ _)
   | (with_reducible exact jsonlex_Skip.mono _ _ _)
   | (with_reducible exact jsonlex_number.mono _ _ _)
   | (with_reducible exact jsonlex_text.mono _ _ _)
   | (with_reducible exact LeO.refl _)
   | (with_reducible exact LeO.none _)
   | (with_reducible refine LeO.ite ?_ ?_)
   | (with_reducible refine LeO.bind ?_ (fun _ => ?_))
   | exact ih0 _ _ _
   | exact ih1 _ _ _ _ _ _ _ _ _ _ _
   | exact ih2 _ _ _ _ _ _ _ _ _ _ _
   | exact ih3 _ _ _ _ _ _ _ _ _
   | exact ih4 _ _ _ _ _ _ _ _ _
   | exact ih5 _ _ _ _ _ _ _ _ _
   | exact ih6 _ _ _ _ _ _ _ _ _ _
   | exact jsonlex_Skip.mono _ _ _
   | exact jsonlex_number.mono _ _ _
   | exact jsonlex_text.mono _ _ _
   | exact LeO.none _
   | refine LeO.ite ?_ ?_
   | refine LeO.bind ?_ (fun _ => ?_)
  ·intro y0 y1 y2 y3 y4 y5 y6 y7 y8
   unfold jsonlex_Next.j4
   repeat' first
   | (with_reducible exact ih0 _ _ _)
   | (with_reducible exact ih1 _ _ _ _ _ _ _ _ _ _ _)
   | (with_reducible exact ih2 _ _ _ _ _ _ _ _ _ _ _)
   | (with_reducible exact ih3 _ _ _ _ _ _ _ _ _)
   | (with_reducible exact ih4 _ _ _ _ _ _ _ _ _)
   | (with_reducible exact ih5 _ _ _ _ _ _ _ _ _)
   | (with_reducible exact ih6 _ _ _ _ _ _ _ _ _ _)
   | (with_reducible exact jsonlex_Skip.mono _ _ _)
   | (with_reducible exact jsonlex_number.mono _ _ _)
   | (with_reducible exact jsonlex_text.mono _ _ _)
   | (with_reducible exact LeO.refl _)
   | (with_reducible exact LeO.none _)
   | (with_reducible refine LeO.ite ?_ ?_)
   | (with_reducible refine LeO.bind ?_ (fun _ => ?_))
   | exact ih0 _ _ _
   | exact ih1 _ _ _ _ _ _ _ _ _ _ _
   | exact ih2 _ _ _ _ _ _ _ _ _ _ _
   | exact ih3 _ _ _ _ _ _ _ _ _
   | exact ih4 _ _ _ _ _ _ _ _ _
   | exact ih5 _ _ _ _ _ _ _ _ _
   | exact ih6 _ _ _ _ _ _ _ _ _ _
   | exact jsonlex_Skip.mono _ _ _
   | exact jsonlex_number.mono _ _ _
   | exact jsonlex_text.mono _ _ _
   | exact LeO.none _
   | refine LeO.ite ?_ ?_
   | refine LeO.bind ?_ (fun _ => ?_)
  ·intro y0 y1 y2 y3 y4 y5 y6 y7 y8
   unfold jsonlex_Next.j5
   repeat' first
   | (with_reducible exact ih0 _ _ _)
   | (with_reducible exact ih1 _ _ _ _ _ _ _ _ _ _ _)
   | (with_reducible exact ih2 _ _ _ _ _ _ _ _ _ _ _)
   | (with_reducible exact ih3 _ _ _ _ _ _ _ _ _)
   | (with_reducible exact ih4 _ _ _ _ _ _ _ _ _)
   | (with_reducible exact ih5 _ _ _ _ _ _ _ _ _)
   | (with_reducible exact ih6 _ _ _ _ _ _ _ _ _ _)
   | (with_reducible exact jsonlex_Skip.mono _ _ _)
   | (with_reducible exact jsonlex_number.mono _ _ _)
   | (with_reducible exact jsonlex_text.mono _ _ _)
   | (with_reducible exact LeO.refl _)
   | (with_reducible exact LeO.none _)
   | (with_reducible refine LeO.ite ?_ ?_)
   | (with_reducible refine LeO.bind ?_ (fun _ => ?_))
   | exact ih0 _ _ _
   | exact ih1 _ _ _ _ _ _ _ _ _ _ _
   | exact ih2 _ _ _ _ _ _ _ _ _ _ _
   | exact ih3 _ _ _ _ _ _ _ _ _
   | exact ih4 _ _ _ _ _ _ _ _ _
   | exact ih5 _ _ _ _ _ _ _ _ _
   | exact ih6 _ _ _ _ _ _ _ _ _ _
   | exact jsonlex_Skip.mono _ _ _
   | exact jsonlex_number.mono _ _ _
   | exact jsonlex_text.mono _ _ _
   | exact LeO.none _
   | refine LeO.ite ?_ ?_
   | refine LeO.bind ?_ (fun _ => ?_)
  ·intro y0 y1 y2 y3 y4 y5 y6 y7 y8
   unfold jsonlex_Next.l0
   repeat' first
   | (with_reducible exact ih0 _ _ _)
   | (with_reducible exact ih1 _ _ _ _ _ _ _ _ _ _ _)
   | (with_reducible exact ih2 _ _ _ _ _ _ _ _ _ _ _)
   | (with_reducible exact ih3 _ _ _ _ _ _ _ _ _)
   | (with_reducible exact ih4 _ _ _ _ _ _ _ _ _)
   | (with_reducible exact ih5 _ _ _ _ _ _ _ _ _)
   | (with_reducible exact ih6 _ _ _ _ _ _ _ _ _ _)
   | (with_reducible exact jsonlex_Skip.mono _ _ _)
   | (with_reducible exact jsonlex_number.mono _ _ _)
   | (with_reducible exact jsonlex_text.mono _ _ _)
   | (with_reducible exact LeO.refl _)
   | (with_reducible exact LeO.none _)
   | (with_reducible refine LeO.ite ?_ ?_)
   | (with_reducible refine LeO.bind ?_ (fun _ => ?_))
   | exact ih0 _ _ _
   | exact ih1 _ _ _ _ _ _ _ _ _ _ _
   | exact ih2 _ _ _ _ _ _ _ _ _ _ _
   | exact ih3 _ _ _ _ _ _ _ _ _
   | exact ih4 _ _ _ _ _ _ _ _ _
   | exact ih5 _ _ _ _ _ _ _ _ _
   | exact ih6 _ _ _ _ _ _ _ _ _ _
   | exact jsonlex_Skip.mono _ _ _
   | exact jsonlex_number.mono _ _ _
   | exact jsonlex_text.mono _ _ _
   | exact LeO.none _
   | refine LeO.ite ?_ ?_
   | refine LeO.bind ?_ (fun _ => ?_)
  ·intro y0 y1 y2 y3 y4 y5 y6 y7 y8 y9
   unfold jsonlex_Next.j6
   repeat' first
   | (with_reducible exact ih0 _ _ _)
   | (with_reducible exact ih1 _ _ _ _ _ _ _ _ _ _ _)
   | (with_reducible exact ih2 _ _ _ _ _ _ _ _ _ _ _)
   | (with_reducible exact ih3 _ _ _ _ _ _ _ _ _)
   | (with_reducible exact ih4 _ _ _ _ _ _ _ _ _)
   | (with_reducible exact ih5 _ _ _ _ _ _ _ _ _)
   | (with_reducible exact ih6 _ _ _ _ _ _ _ _ _ _)
   | (with_reducible exact jsonlex_Skip.mono _ _ _)
   | (with_reducible exact jsonlex_number.mono _ _ _)
   | (with_reducible exact jsonlex_text.mono _ _ _)
   | (with_reducible exact LeO.refl _)
   | (with_reducible exact LeO.none _)
   | (with_reducible refine LeO.ite ?_ ?_)
   | (with_reducible refine LeO.bind ?_ (fun _ => ?_))
   | exact ih0 _ _ _
   | exact ih1 _ _ _ _ _ _ _ _ _ _ _
   | exact ih2 _ _ _ _ _ _ _ _ _ _ _
   | exact ih3 _ _ _ _ _ _ _ _ _
   | exact ih4 _ _ _ _ _ _ _ _ _
   | exact ih5 _ _ _ _ _ _ _ _ _
   | exact ih6 _ _ _ _ _ _ _ _ _ _
   | exact jsonlex_Skip.mono _ _ _
   | exact jsonlex_number.mono _ _ _
   | exact jsonlex_text.mono _ _ _
   | exact LeO.none _
   | refine LeO.ite ?_ ?_
   | refine LeO.bind ?_ (fun _ => ?_)
theorem jsonlex_Next.mono : ∀ a0 a1 k, LeO (jsonlex_Next.f k a0 a1) (jsonlex_Next.f (k + 1) a0 a1) := by
 intro a0 a1 k
 obtain ⟨ih0, ih1, ih2, ih3, ih4, ih5, ih6⟩ := jsonlex_Next.mono_l k
 unfold jsonlex_Next.f
 repeat' first
   | (with_reducible exact ih0 _ _ _)
   | (with_reducible exact ih1 _ _ _ _ _ _ _ _ _ _ _)
   | (with_reducible exact ih2 _ _ _ _ _ _ _ _ _ _ _)
   | (with_reducible exact ih3 _ _ _ _ _ _ _ _ _)
   | (with_reducible exact ih4 _ _ _ _ _ _ _ _ _)
   | (with_reducible exact ih5 _ _ _ _ _ _ _ _ _)
   | (with_reducible exact ih6 _ _ _ _ _ _ _ _ _ _)
   | (with_reducible exact jsonlex_Skip.mono _ _ _)
   | (with_reducible exact jsonlex_number.mono _ _ _)
   | (with_reducible exact jsonlex_text.mono _ _ _)
   | (with_reducible exact LeO.refl _)
   | (with_reducible exact LeO.none _)
   | (with_reducible refine LeO.ite ?_ ?_)
   | (with_reducible refine LeO.bind ?_ (fun _ => ?_))
   | exact ih0 _ _ _
   | exact ih1 _ _ _ _ _ _ _ _ _ _ _
   | exact ih2 _ _ _ _ _ _ _ _ _ _ _
   | exact ih3 _ _ _ _ _ _ _ _ _
   | exact ih4 _ _ _ _ _ _ _ _ _
   | exact ih5 _ _ _ _ _ _ _ _ _
   | exact ih6 _ _ _ _ _ _ _ _ _ _
   | exact jsonlex_Skip.mono _ _ _
   | exact jsonlex_number.mono _ _ _
   | exact jsonlex_text.mono _ _ _
   | exact LeO.none _
   | refine LeO.ite ?_ ?_
   | refine LeO.bind ?_ (fun _ => ?_)
set_option maxHeartbeats 8000000 in
set_option maxRecDepth 100000 in
theorem jsonlex_Next.calls (k : Nat) (a0 : ByteArray) (a1 : Int) (r1 : Int) (r2 : Int) (r3 : Int) (r4 : Int) (r5 : Int) (r6 : ByteArray) (r7 : Int) (r8 : Int) (w : World) (h : jsonlex_Next.f k a0 a1 = some (r1, r2, r3, r4, r5, r6, r7, r8)) :
  Calls Try.prog 9 #[.string a0, .int .i64 a1] w fun e w' => e = .returned (.tuple #[.agg #[.int .i64 r1, .int .i64 r2, .int .i64 r3, .int .u8 r4, .int .i64 r5, .string r6], .int .i64 r7, .int .i64 r8]) ∧ Below w.heap.size w w' := by
 have hu24 := Try.underlying24
 have HB := Aside0.mk (Below.refl w.heap.size w)
 have H : (if a1 < 0 then (jsonlex_Next.j0 k a0 a1 true) else (jsonlex_Next.j0 k a0 a1 (decide (a1 > (a0.size : Int))))) = some (r1, r2, r3, r4, r5, r6, r7, r8) := h
 clear h
 have HC3 := Aside0.mk H
 clear H
 go_enter Try.func9, Try.ntmps9
 go_upto_region 1 with (first | ((with_reducible refine gate_dst (N := 4) rfl ?_); (try (refine gate_guard (by rfl) ?_; dsimp only)); refine box_event ?hg (N := 4) ?hd (cs := #[.int .i64 0, .int .i64 0, .int .i64 0, .int .u8 0, .int .i64 0, .string (⟨#[]⟩ : ByteArray)]) (t := 24) ?hr ?_; (case hd => rfl); (case hg => rfl); (case hr => first | (go_simp; done) | (go_simp; rfl)); intro gb162 hg w4 hbox hb; have n0_ := Aside0.mk (below_step (by repeat (first | (with_reducible first | exact HB.out | apply wA | apply wN | apply wD) | exact HB.out)) hb); have n1_ := Aside0.mk (hbox); have n2_ := Aside0.mk ((by rw [hg]; exact (below_size (by repeat (first | (with_reducible first | exact HB.out | apply wA | apply wN | apply wD) | exact HB.out))) : w.heap.size ≤ gb162)); have n3_ := n2_; clear HB; have HB := n0_; have BK162 := n1_; have GW162 := n2_; have GE162 := n3_; clear n0_ n1_ n2_ n3_; clear hb hbox hg))
 (try simp only [Act.put, List.setIfInBounds_toArray, List.set_cons_zero, List.set_cons_succ])
 go_cut [18] (fun v18 wc => ∃ (kq : Nat) (x18_2 : Bool), v18 = .bool x18_2 ∧ Aside0 (jsonlex_Next.j0 kq a0 a1 x18_2 = some (r1, r2, r3, r4, r5, r6, r7, r8)) ∧ Aside0 (kq ≤ k) ∧ Aside0 (wc.heap[gb162]? = some (.cells #[.int .i64 0, .int .i64 0, .int .i64 0, .int .u8 0, .int .i64 0, .string (⟨#[]⟩ : ByteArray)] 24 (0, 0))) ∧ Aside0 (Below w.heap.size w wc))
 case first =>
  have H := HC3.out
  clear HC3
  by_cases c5 : a1 < 0
  ·rw [if_pos c5] at H
   have c5b0 : decide (a1 < 0) = true := decide_eq_true c5
   clear c5
   (first | rw [c5b0] | (simp only [i64_w, i32_w]; rw [c5b0]) | skip)
   have H' := Aside0.mk H
   clear H
   go_wp2
   go_meet
   case rel => exact ⟨_, (true), (by first | rfl | (simp; done) | (simp [*]; done)), H', ⟨by first | omega | exact Nat.le_refl _⟩, ⟨by (with_reducible repeat (first | refine bN ?_ _ | refine bD ?_ | refine bA ?_ _)); exact BK162.out⟩, ⟨by repeat (first | (with_reducible first | exact HB.out | apply wA | apply wN | apply wD | refine wS ?_ GE162.out) | exact HB.out)⟩⟩
  ·rw [if_neg c5] at H
   have c5b0 : decide (a1 < 0) = false := decide_eq_false c5
   clear c5
   (first | rw [c5b0] | (simp only [i64_w, i32_w]; rw [c5b0]) | skip)
   have H' := Aside0.mk H
   clear H
   go_wp2
   go_meet
   case rel => exact ⟨_, (decide (a1 > (a0.size : Int))), (by first | rfl | (simp; done) | (simp [*]; done)), H', ⟨by first | omega | exact Nat.le_refl _⟩, ⟨by (with_reducible repeat (first | refine bN ?_ _ | refine bD ?_ | refine bA ?_ _)); exact BK162.out⟩, ⟨by repeat (first | (with_reducible first | exact HB.out | apply wA | apply wN | apply wD | refine wS ?_ GE162.out) | exact HB.out)⟩⟩
 case rest =>
  clear HC3
  (try clear p2); (try clear c5); (try clear c5b0)
  obtain ⟨kq, x18_2, rfl, HA, HJ2, BK162, HB⟩ := hcut
  cases kq with
  | zero => exact absurd HA.out (by simp [jsonlex_Next.j0])
  | succ kj2 =>
   have H := HA.out
   clear HA
   simp only [jsonlex_Next.j0] at H
   by_cases c6 : x18_2 = true
   ·subst c6
    have H1 : (some (0, 0, 0, 0, 0, (⟨#[]⟩ : ByteArray), 0, 3)) = some (r1, r2, r3, r4, r5, r6, r7, r8) := by rw [if_pos rfl] at H; exact H
    clear H; have H := H1; clear H1
    simp only [Option.some.injEq, Prod.mk.injEq] at H
    obtain ⟨rfl, rfl, rfl, rfl, rfl, rfl, rfl, rfl⟩ := H
    have hcz7_0 : wc.cell? ⟨gb162, 0, none⟩ = some (.int .i64 0) := (blk_cell BK162.out 0).trans rfl; have hcz7_1 : wc.cell? ⟨gb162, 1, none⟩ = some (.int .i64 0) := (blk_cell BK162.out 1).trans rfl; have hcz7_2 : wc.cell? ⟨gb162, 2, none⟩ = some (.int .i64 0) := (blk_cell BK162.out 2).trans rfl; have hcz7_3 : wc.cell? ⟨gb162, 3, none⟩ = some (.int .u8 0) := (blk_cell BK162.out 3).trans rfl; have hcz7_4 : wc.cell? ⟨gb162, 4, none⟩ = some (.int .i64 0) := (blk_cell BK162.out 4).trans rfl; have hcz7_5 : wc.cell? ⟨gb162, 5, none⟩ = some (.string (⟨#[]⟩ : ByteArray)) := (blk_cell BK162.out 5).trans rfl; have hfz7_0 := blk_frozen BK162.out 0; have hfz7_1 := blk_frozen BK162.out 1; have hfz7_2 := blk_frozen BK162.out 2; have hfz7_3 := blk_frozen BK162.out 3; have hfz7_4 := blk_frozen BK162.out 4; have hfz7_5 := blk_frozen BK162.out 5
    go_wp2
    refine bodyPost_ret (results_ctt rfl _ _ gb162 24 #[.int .i64 0, .int .i64 0, .int .i64 0, .int .u8 0, .int .i64 0, .string (⟨#[]⟩ : ByteArray)] (0, 0) _ rfl (by (with_reducible repeat (first | refine bN ?_ _ | refine bD ?_ | refine bA ?_ _)); refine blk_put (cs := #[.int .i64 0, .int .i64 0, .int .i64 0, .int .u8 0, .int .i64 0, .string (⟨#[]⟩ : ByteArray)]) ?_ 5 _ rfl; (with_reducible repeat (first | refine bN ?_ _ | refine bD ?_ | refine bA ?_ _)); refine blk_put (cs := #[.int .i64 0, .int .i64 0, .int .i64 0, .int .u8 0, .int .i64 0, .string (⟨#[]⟩ : ByteArray)]) ?_ 4 _ rfl; (with_reducible repeat (first | refine bN ?_ _ | refine bD ?_ | refine bA ?_ _)); refine blk_put (cs := #[.int .i64 0, .int .i64 0, .int .i64 0, .int .u8 0, .int .i64 0, .string (⟨#[]⟩ : ByteArray)]) ?_ 3 _ rfl; (with_reducible repeat (first | refine bN ?_ _ | refine bD ?_ | refine bA ?_ _)); refine blk_put (cs := #[.int .i64 0, .int .i64 0, .int .i64 0, .int .u8 0, .int .i64 0, .string (⟨#[]⟩ : ByteArray)]) ?_ 2 _ rfl; (with_reducible repeat (first | refine bN ?_ _ | refine bD ?_ | refine bA ?_ _)); refine blk_put (cs := #[.int .i64 0, .int .i64 0, .int .i64 0, .int .u8 0, .int .i64 0, .string (⟨#[]⟩ : ByteArray)]) ?_ 1 _ rfl; (with_reducible repeat (first | refine bN ?_ _ | refine bD ?_ | refine bA ?_ _)); refine blk_put (cs := #[.int .i64 0, .int .i64 0, .int .i64 0, .int .u8 0, .int .i64 0, .string (⟨#[]⟩ : ByteArray)]) ?_ 0 _ rfl; (with_reducible repeat (first | refine bN ?_ _ | refine bD ?_ | refine bA ?_ _)); exact BK162.out) Try.underlying24 rfl (by kernel_rfl)) rfl ?_
    exact ⟨by first | rfl | (simp [errW_none, errW_some] <;> rfl) | (simp [*, errW_none, errW_some] <;> rfl), by repeat (first | (with_reducible first | exact HB.out | apply wA | apply wN | apply wD | refine wS ?_ GE162.out) | exact HB.out)⟩
   ·replace c6 := Bool.eq_false_iff.mpr c6
    subst c6
    have H1 : ((jsonlex_Skip.f kj2 a0 a1).bind fun t163 => (if t163 = (a0.size : Int) then (some (0, t163, t163, 0, 0, (⟨#[]⟩ : ByteArray), t163, 0)) else (if 0 ≤ t163 then (if t163 < (a0.size : Int) then (if (bt a0 t163) = 91 then (jsonlex_Next.j1 kj2 a0 t163 0 (bt a0 t163) true 0 t163 0 0 0 (⟨#[]⟩ : ByteArray)) else (if (bt a0 t163) = 93 then (jsonlex_Next.j1 kj2 a0 t163 0 (bt a0 t163) true 0 t163 0 0 0 (⟨#[]⟩ : ByteArray)) else (if (bt a0 t163) = 123 then (jsonlex_Next.j1 kj2 a0 t163 0 (bt a0 t163) true 0 t163 0 0 0 (⟨#[]⟩ : ByteArray)) else (if (bt a0 t163) = 125 then (jsonlex_Next.j1 kj2 a0 t163 0 (bt a0 t163) true 0 t163 0 0 0 (⟨#[]⟩ : ByteArray)) else (if (bt a0 t163) = 44 then (jsonlex_Next.j1 kj2 a0 t163 0 (bt a0 t163) true 0 t163 0 0 0 (⟨#[]⟩ : ByteArray)) else (jsonlex_Next.j1 kj2 a0 t163 0 (bt a0 t163) ((bt a0 t163) == 58) 0 t163 0 0 0 (⟨#[]⟩ : ByteArray))))))) else (none)) else (none)))) = some (r1, r2, r3, r4, r5, r6, r7, r8) := by rw [if_neg (show ¬ (false = true) by decide)] at H; exact H
    clear H; have H := H1; clear H1
    replace H := Option.bind_eq_some_iff.mp H
    obtain ⟨t163, A80, H⟩ := H
    replace H : (if t163 = (a0.size : Int) then (some (0, t163, t163, 0, 0, (⟨#[]⟩ : ByteArray), t163, 0)) else (if 0 ≤ t163 then (if t163 < (a0.size : Int) then (if (bt a0 t163) = 91 then (jsonlex_Next.j1 kj2 a0 t163 0 (bt a0 t163) true 0 t163 0 0 0 (⟨#[]⟩ : ByteArray)) else (if (bt a0 t163) = 93 then (jsonlex_Next.j1 kj2 a0 t163 0 (bt a0 t163) true 0 t163 0 0 0 (⟨#[]⟩ : ByteArray)) else (if (bt a0 t163) = 123 then (jsonlex_Next.j1 kj2 a0 t163 0 (bt a0 t163) true 0 t163 0 0 0 (⟨#[]⟩ : ByteArray)) else (if (bt a0 t163) = 125 then (jsonlex_Next.j1 kj2 a0 t163 0 (bt a0 t163) true 0 t163 0 0 0 (⟨#[]⟩ : ByteArray)) else (if (bt a0 t163) = 44 then (jsonlex_Next.j1 kj2 a0 t163 0 (bt a0 t163) true 0 t163 0 0 0 (⟨#[]⟩ : ByteArray)) else (jsonlex_Next.j1 kj2 a0 t163 0 (bt a0 t163) ((bt a0 t163) == 58) 0 t163 0 0 0 (⟨#[]⟩ : ByteArray))))))) else (none)) else (none))) = some (r1, r2, r3, r4, r5, r6, r7, r8) := H
    have A8 := Aside0.mk A80
    clear A80
    by_cases c9 : t163 = (a0.size : Int)
    ·rw [if_pos c9] at H
     have c9b0 : (t163 == (a0.size : Int)) = true := beq_iff_eq.mpr c9
     have c9b1 : (t163 != (a0.size : Int)) = false := bne_eq_false_iff_eq.mpr c9
     clear c9
     simp only [Option.some.injEq, Prod.mk.injEq] at H
     obtain ⟨rfl, rfl, rfl, rfl, rfl, rfl, rfl, rfl⟩ := H
     go_wp2_with (first | ((with_reducible refine gate_callee (f := 13) rfl ?_); refine goesL_ (some 22) rfl rfl Try.func13 (by kernel_rfl) rfl #[.string a0, .int .i64 a1] rfl (by (try simp only [List.map_toArray, List.map_cons, List.map_nil]); first | done | rfl | (simp only [List.length_drop, List.length_take]; rfl)) ?_; (with_reducible refine (jsonlex_Skip.calls kj2 a0 a1 t163 _ A8.out).mono ?_); rintro e w' ⟨rfl, ⟨nd, rfl⟩⟩; refine ⟨_, rfl, ?_⟩; (try (rw [drewN_self wc]; generalize hq_ : World.drewN wc _ = wc; have n0_ : Aside0 (wc.heap[gb162]? = some (.cells #[.int .i64 0, .int .i64 0, .int .i64 0, .int .u8 0, .int .i64 0, .string (⟨#[]⟩ : ByteArray)] 24 (0, 0))) := ⟨by rw [← hq_]; exact (by (with_reducible repeat (first | refine bN ?_ _ | refine bD ?_ | refine bA ?_ _)); exact BK162.out)⟩; have n1_ : Aside0 (Below w.heap.size w wc) := ⟨by rw [← hq_]; exact (by repeat (first | (with_reducible first | exact HB.out | apply wA | apply wN | apply wD | refine wS ?_ GE162.out) | exact HB.out))⟩; clear BK162 HB hq_; have BK162 := n0_; have HB := n1_; clear n0_ n1_)); have hcz10_0 : wc.cell? ⟨gb162, 0, none⟩ = some (.int .i64 0) := (blk_cell BK162.out 0).trans rfl; have hcz10_1 : wc.cell? ⟨gb162, 1, none⟩ = some (.int .i64 0) := (blk_cell BK162.out 1).trans rfl; have hcz10_2 : wc.cell? ⟨gb162, 2, none⟩ = some (.int .i64 0) := (blk_cell BK162.out 2).trans rfl; have hcz10_3 : wc.cell? ⟨gb162, 3, none⟩ = some (.int .u8 0) := (blk_cell BK162.out 3).trans rfl; have hcz10_4 : wc.cell? ⟨gb162, 4, none⟩ = some (.int .i64 0) := (blk_cell BK162.out 4).trans rfl; have hcz10_5 : wc.cell? ⟨gb162, 5, none⟩ = some (.string (⟨#[]⟩ : ByteArray)) := (blk_cell BK162.out 5).trans rfl; have hfz10_0 := blk_frozen BK162.out 0; have hfz10_1 := blk_frozen BK162.out 1; have hfz10_2 := blk_frozen BK162.out 2; have hfz10_3 := blk_frozen BK162.out 3; have hfz10_4 := blk_frozen BK162.out 4; have hfz10_5 := blk_frozen BK162.out 5))
     refine bodyPost_ret (results_ctt rfl _ _ gb162 24 #[.int .i64 0, .int .i64 t163, .int .i64 t163, .int .u8 0, .int .i64 0, .string (⟨#[]⟩ : ByteArray)] (0, 0) _ rfl (by (with_reducible repeat (first | refine bN ?_ _ | refine bD ?_ | refine bA ?_ _)); refine blk_put (cs := #[.int .i64 0, .int .i64 t163, .int .i64 t163, .int .u8 0, .int .i64 0, .string (⟨#[]⟩ : ByteArray)]) ?_ 5 _ rfl; (with_reducible repeat (first | refine bN ?_ _ | refine bD ?_ | refine bA ?_ _)); refine blk_put (cs := #[.int .i64 0, .int .i64 t163, .int .i64 t163, .int .u8 0, .int .i64 0, .string (⟨#[]⟩ : ByteArray)]) ?_ 4 _ rfl; (with_reducible repeat (first | refine bN ?_ _ | refine bD ?_ | refine bA ?_ _)); refine blk_put (cs := #[.int .i64 0, .int .i64 t163, .int .i64 t163, .int .u8 0, .int .i64 0, .string (⟨#[]⟩ : ByteArray)]) ?_ 3 _ rfl; (with_reducible repeat (first | refine bN ?_ _ | refine bD ?_ | refine bA ?_ _)); refine blk_put (cs := #[.int .i64 0, .int .i64 t163, .int .i64 0, .int .u8 0, .int .i64 0, .string (⟨#[]⟩ : ByteArray)]) ?_ 2 _ rfl; (with_reducible repeat (first | refine bN ?_ _ | refine bD ?_ | refine bA ?_ _)); refine blk_put (cs := #[.int .i64 0, .int .i64 0, .int .i64 0, .int .u8 0, .int .i64 0, .string (⟨#[]⟩ : ByteArray)]) ?_ 1 _ rfl; (with_reducible repeat (first | refine bN ?_ _ | refine bD ?_ | refine bA ?_ _)); refine blk_put (cs := #[.int .i64 0, .int .i64 0, .int .i64 0, .int .u8 0, .int .i64 0, .string (⟨#[]⟩ : ByteArray)]) ?_ 0 _ rfl; (with_reducible repeat (first | refine bN ?_ _ | refine bD ?_ | refine bA ?_ _)); exact BK162.out) Try.underlying24 rfl (by kernel_rfl)) rfl ?_
     exact ⟨by first | rfl | (simp [errW_none, errW_some] <;> rfl) | (simp [*, errW_none, errW_some] <;> rfl), by repeat (first | (with_reducible first | exact HB.out | apply wA | apply wN | apply wD | refine wS ?_ GE162.out) | exact HB.out)⟩
    ·rw [if_neg c9] at H
     have c9b0 : (t163 == (a0.size : Int)) = false := beq_eq_false_iff_ne.mpr c9
     have c9b1 : (t163 != (a0.size : Int)) = true := bne_iff_ne.mpr c9
     by_cases c11 : 0 ≤ t163
     ·rw [if_pos c11] at H
      have c11b0 : decide (0 ≤ t163) = true := decide_eq_true c11
      clear c11
      by_cases c12 : t163 < (a0.size : Int)
      ·rw [if_pos c12] at H
       have c12b0 : decide (t163 < (a0.size : Int)) = true := decide_eq_true c12
       clear c12
       have HC14 := Aside0.mk H
       clear H
       go_upto_region 10 with (first | ((with_reducible refine gate_callee (f := 13) rfl ?_); refine goesL_ (some 22) rfl rfl Try.func13 (by kernel_rfl) rfl #[.string a0, .int .i64 a1] rfl (by (try simp only [List.map_toArray, List.map_cons, List.map_nil]); first | done | rfl | (simp only [List.length_drop, List.length_take]; rfl)) ?_; (with_reducible refine (jsonlex_Skip.calls kj2 a0 a1 t163 _ A8.out).mono ?_); rintro e w' ⟨rfl, ⟨nd, rfl⟩⟩; refine ⟨_, rfl, ?_⟩; (try (rw [drewN_self wc]; generalize hq_ : World.drewN wc _ = wc; have n0_ : Aside0 (wc.heap[gb162]? = some (.cells #[.int .i64 0, .int .i64 0, .int .i64 0, .int .u8 0, .int .i64 0, .string (⟨#[]⟩ : ByteArray)] 24 (0, 0))) := ⟨by rw [← hq_]; exact (by (with_reducible repeat (first | refine bN ?_ _ | refine bD ?_ | refine bA ?_ _)); exact BK162.out)⟩; have n1_ : Aside0 (Below w.heap.size w wc) := ⟨by rw [← hq_]; exact (by repeat (first | (with_reducible first | exact HB.out | apply wA | apply wN | apply wD | refine wS ?_ GE162.out) | exact HB.out))⟩; clear BK162 HB hq_; have BK162 := n0_; have HB := n1_; clear n0_ n1_))) | ((with_reducible refine gate_dst (N := 7) rfl ?_); (try (refine gate_guard (by rfl) ?_; dsimp only)); refine box_event ?hg (N := 7) ?hd (cs := #[.int .i64 0, .int .i64 0, .int .i64 0, .int .u8 0, .int .i64 0, .string (⟨#[]⟩ : ByteArray)]) (t := 24) ?hr ?_; (case hd => rfl); (case hg => rfl); (case hr => first | (go_simp; done) | (go_simp; rfl)); intro gb164 hg w15 hbox hb; have n0_ := Aside0.mk (blk_below (g := gb162) (o := .cells #[.int .i64 0, .int .i64 0, .int .i64 0, .int .u8 0, .int .i64 0, .string (⟨#[]⟩ : ByteArray)] 24 (0, 0)) (by (with_reducible repeat (first | refine bN ?_ _ | refine bD ?_ | refine bA ?_ _)); exact BK162.out) hb); have n1_ := Aside0.mk (below_step (by repeat (first | (with_reducible first | exact HB.out | apply wA | apply wN | apply wD | refine wS ?_ GE162.out) | exact HB.out)) hb); have n2_ := Aside0.mk (hbox); have n3_ := Aside0.mk ((by rw [hg]; exact (below_size (by repeat (first | (with_reducible first | exact HB.out | apply wA | apply wN | apply wD | refine wS ?_ GE162.out) | exact HB.out))) : w.heap.size ≤ gb164)); have n4_ := n3_; have n5_ := Aside0.mk ((by rw [hg]; exact Nat.ne_of_lt (blk_lt (g := gb162) (o := .cells #[.int .i64 0, .int .i64 0, .int .i64 0, .int .u8 0, .int .i64 0, .string (⟨#[]⟩ : ByteArray)] 24 (0, 0)) (by (with_reducible repeat (first | refine bN ?_ _ | refine bD ?_ | refine bA ?_ _)); exact BK162.out)) : gb162 ≠ gb164)); have n6_ := Aside0.mk ((by rw [hg]; exact Nat.ne_of_gt (blk_lt (g := gb162) (o := .cells #[.int .i64 0, .int .i64 0, .int .i64 0, .int .u8 0, .int .i64 0, .string (⟨#[]⟩ : ByteArray)] 24 (0, 0)) (by (with_reducible repeat (first | refine bN ?_ _ | refine bD ?_ | refine bA ?_ _)); exact BK162.out)) : gb164 ≠ gb162)); clear BK162; clear HB; have BK162 := n0_; have HB := n1_; have BK164 := n2_; have GW164 := n3_; have GE164 := n4_; have NB162_164 := n5_; have NB164_162 := n6_; clear n0_ n1_ n2_ n3_ n4_ n5_ n6_; clear hb hbox hg; have hnb16 := NB164_162.out; have hnc16 := NB162_164.out; have hcz17_0 : w15.cell? ⟨gb164, 0, none⟩ = some (.int .i64 0) := (blk_cell BK164.out 0).trans rfl; have hcz17_1 : w15.cell? ⟨gb164, 1, none⟩ = some (.int .i64 0) := (blk_cell BK164.out 1).trans rfl; have hcz17_2 : w15.cell? ⟨gb164, 2, none⟩ = some (.int .i64 0) := (blk_cell BK164.out 2).trans rfl; have hcz17_3 : w15.cell? ⟨gb164, 3, none⟩ = some (.int .u8 0) := (blk_cell BK164.out 3).trans rfl; have hcz17_4 : w15.cell? ⟨gb164, 4, none⟩ = some (.int .i64 0) := (blk_cell BK164.out 4).trans rfl; have hcz17_5 : w15.cell? ⟨gb164, 5, none⟩ = some (.string (⟨#[]⟩ : ByteArray)) := (blk_cell BK164.out 5).trans rfl; have hfz17_0 := blk_frozen BK164.out 0; have hfz17_1 := blk_frozen BK164.out 1; have hfz17_2 := blk_frozen BK164.out 2; have hfz17_3 := blk_frozen BK164.out 3; have hfz17_4 := blk_frozen BK164.out 4; have hfz17_5 := blk_frozen BK164.out 5; have p13 : 0 ≤ (t163 : Int) := of_decide_eq_true (by first | (with_reducible assumption) | assumption); have q13 : t163 < (a0.size : Int) := of_decide_eq_true (by first | (with_reducible assumption) | assumption); have hx13 := bt_at a0 t163; replace p13 := eq_true p13; replace q13 := eq_true q13))
       (try simp only [Act.put, List.setIfInBounds_toArray, List.set_cons_zero, List.set_cons_succ])
       go_cut [38] (fun v38 wc => ∃ (kq : Nat) (x38_13 : Bool), v38 = .bool x38_13 ∧ Aside0 (jsonlex_Next.j1 kq a0 t163 0 (bt a0 t163) x38_13 0 t163 0 0 0 (⟨#[]⟩ : ByteArray) = some (r1, r2, r3, r4, r5, r6, r7, r8)) ∧ Aside0 (kq ≤ kj2) ∧ Aside0 (wc.heap[gb162]? = some (.cells #[.int .i64 0, .int .i64 0, .int .i64 0, .int .u8 0, .int .i64 0, .string (⟨#[]⟩ : ByteArray)] 24 (0, 0))) ∧ Aside0 (wc.heap[gb164]? = some (.cells #[.int .i64 0, .int .i64 t163, .int .i64 0, .int .u8 0, .int .i64 0, .string (⟨#[]⟩ : ByteArray)] 24 (0, 0))) ∧ Aside0 (Below w.heap.size w wc))
       case first =>
        have H := HC14.out
        clear HC14
        by_cases c18 : (bt a0 t163) = 91
        ·rw [if_pos c18] at H
         have c18b0 : ((bt a0 t163) == 91) = true := beq_iff_eq.mpr c18
         have c18b1 : ((bt a0 t163) != 91) = false := bne_eq_false_iff_eq.mpr c18
         clear c18
         (first | rw [c18b0] | (simp only [i64_w, i32_w]; rw [c18b0]) | skip)
         have H' := Aside0.mk H
         clear H
         go_wp2
         go_meet
         case rel => exact ⟨_, (true), (by first | rfl | (simp; done) | (simp [*]; done)), H', ⟨by have := HJ2.out; first | omega | exact Nat.le_refl _⟩, ⟨by (with_reducible repeat (first | refine bN ?_ _ | refine bD ?_ | refine bA ?_ _ | refine blk_far ?_ NB162_164.out _)); exact BK162.out⟩, ⟨by (with_reducible repeat (first | refine bN ?_ _ | refine bD ?_ | refine bA ?_ _)); refine blk_put (cs := #[.int .i64 0, .int .i64 t163, .int .i64 0, .int .u8 0, .int .i64 0, .string (⟨#[]⟩ : ByteArray)]) ?_ 5 _ rfl; (with_reducible repeat (first | refine bN ?_ _ | refine bD ?_ | refine bA ?_ _)); refine blk_put (cs := #[.int .i64 0, .int .i64 t163, .int .i64 0, .int .u8 0, .int .i64 0, .string (⟨#[]⟩ : ByteArray)]) ?_ 4 _ rfl; (with_reducible repeat (first | refine bN ?_ _ | refine bD ?_ | refine bA ?_ _)); refine blk_put (cs := #[.int .i64 0, .int .i64 t163, .int .i64 0, .int .u8 0, .int .i64 0, .string (⟨#[]⟩ : ByteArray)]) ?_ 3 _ rfl; (with_reducible repeat (first | refine bN ?_ _ | refine bD ?_ | refine bA ?_ _)); refine blk_put (cs := #[.int .i64 0, .int .i64 t163, .int .i64 0, .int .u8 0, .int .i64 0, .string (⟨#[]⟩ : ByteArray)]) ?_ 2 _ rfl; (with_reducible repeat (first | refine bN ?_ _ | refine bD ?_ | refine bA ?_ _)); refine blk_put (cs := #[.int .i64 0, .int .i64 0, .int .i64 0, .int .u8 0, .int .i64 0, .string (⟨#[]⟩ : ByteArray)]) ?_ 1 _ rfl; (with_reducible repeat (first | refine bN ?_ _ | refine bD ?_ | refine bA ?_ _)); refine blk_put (cs := #[.int .i64 0, .int .i64 0, .int .i64 0, .int .u8 0, .int .i64 0, .string (⟨#[]⟩ : ByteArray)]) ?_ 0 _ rfl; (with_reducible repeat (first | refine bN ?_ _ | refine bD ?_ | refine bA ?_ _)); exact BK164.out⟩, ⟨by repeat (first | (with_reducible first | exact HB.out | apply wA | apply wN | apply wD | refine wS ?_ GE162.out | refine wS ?_ GE164.out) | exact HB.out)⟩⟩
        ·rw [if_neg c18] at H
         have c18b0 : ((bt a0 t163) == 91) = false := beq_eq_false_iff_ne.mpr c18
         have c18b1 : ((bt a0 t163) != 91) = true := bne_iff_ne.mpr c18
         (first | rw [c18b0] | (simp only [i64_w, i32_w]; rw [c18b0]) | skip)
         by_cases c19 : (bt a0 t163) = 93
         ·rw [if_pos c19] at H
          have c19b0 : ((bt a0 t163) == 93) = true := beq_iff_eq.mpr c19
          have c19b1 : ((bt a0 t163) != 93) = false := bne_eq_false_iff_eq.mpr c19
          clear c19
          have H' := Aside0.mk H
          clear H
          go_wp2
          go_meet
          case rel => exact ⟨_, (true), (by first | rfl | (simp; done) | (simp [*]; done)), H', ⟨by have := HJ2.out; first | omega | exact Nat.le_refl _⟩, ⟨by (with_reducible repeat (first | refine bN ?_ _ | refine bD ?_ | refine bA ?_ _ | refine blk_far ?_ NB162_164.out _)); exact BK162.out⟩, ⟨by (with_reducible repeat (first | refine bN ?_ _ | refine bD ?_ | refine bA ?_ _)); refine blk_put (cs := #[.int .i64 0, .int .i64 t163, .int .i64 0, .int .u8 0, .int .i64 0, .string (⟨#[]⟩ : ByteArray)]) ?_ 5 _ rfl; (with_reducible repeat (first | refine bN ?_ _ | refine bD ?_ | refine bA ?_ _)); refine blk_put (cs := #[.int .i64 0, .int .i64 t163, .int .i64 0, .int .u8 0, .int .i64 0, .string (⟨#[]⟩ : ByteArray)]) ?_ 4 _ rfl; (with_reducible repeat (first | refine bN ?_ _ | refine bD ?_ | refine bA ?_ _)); refine blk_put (cs := #[.int .i64 0, .int .i64 t163, .int .i64 0, .int .u8 0, .int .i64 0, .string (⟨#[]⟩ : ByteArray)]) ?_ 3 _ rfl; (with_reducible repeat (first | refine bN ?_ _ | refine bD ?_ | refine bA ?_ _)); refine blk_put (cs := #[.int .i64 0, .int .i64 t163, .int .i64 0, .int .u8 0, .int .i64 0, .string (⟨#[]⟩ : ByteArray)]) ?_ 2 _ rfl; (with_reducible repeat (first | refine bN ?_ _ | refine bD ?_ | refine bA ?_ _)); refine blk_put (cs := #[.int .i64 0, .int .i64 0, .int .i64 0, .int .u8 0, .int .i64 0, .string (⟨#[]⟩ : ByteArray)]) ?_ 1 _ rfl; (with_reducible repeat (first | refine bN ?_ _ | refine bD ?_ | refine bA ?_ _)); refine blk_put (cs := #[.int .i64 0, .int .i64 0, .int .i64 0, .int .u8 0, .int .i64 0, .string (⟨#[]⟩ : ByteArray)]) ?_ 0 _ rfl; (with_reducible repeat (first | refine bN ?_ _ | refine bD ?_ | refine bA ?_ _)); exact BK164.out⟩, ⟨by repeat (first | (with_reducible first | exact HB.out | apply wA | apply wN | apply wD | refine wS ?_ GE162.out | refine wS ?_ GE164.out) | exact HB.out)⟩⟩
         ·rw [if_neg c19] at H
          have c19b0 : ((bt a0 t163) == 93) = false := beq_eq_false_iff_ne.mpr c19
          have c19b1 : ((bt a0 t163) != 93) = true := bne_iff_ne.mpr c19
          by_cases c20 : (bt a0 t163) = 123
          ·rw [if_pos c20] at H
           have c20b0 : ((bt a0 t163) == 123) = true := beq_iff_eq.mpr c20
           have c20b1 : ((bt a0 t163) != 123) = false := bne_eq_false_iff_eq.mpr c20
           clear c20
           have H' := Aside0.mk H
           clear H
           go_wp2
           go_meet
           case rel => exact ⟨_, (true), (by first | rfl | (simp; done) | (simp [*]; done)), H', ⟨by have := HJ2.out; first | omega | exact Nat.le_refl _⟩, ⟨by (with_reducible repeat (first | refine bN ?_ _ | refine bD ?_ | refine bA ?_ _ | refine blk_far ?_ NB162_164.out _)); exact BK162.out⟩, ⟨by (with_reducible repeat (first | refine bN ?_ _ | refine bD ?_ | refine bA ?_ _)); refine blk_put (cs := #[.int .i64 0, .int .i64 t163, .int .i64 0, .int .u8 0, .int .i64 0, .string (⟨#[]⟩ : ByteArray)]) ?_ 5 _ rfl; (with_reducible repeat (first | refine bN ?_ _ | refine bD ?_ | refine bA ?_ _)); refine blk_put (cs := #[.int .i64 0, .int .i64 t163, .int .i64 0, .int .u8 0, .int .i64 0, .string (⟨#[]⟩ : ByteArray)]) ?_ 4 _ rfl; (with_reducible repeat (first | refine bN ?_ _ | refine bD ?_ | refine bA ?_ _)); refine blk_put (cs := #[.int .i64 0, .int .i64 t163, .int .i64 0, .int .u8 0, .int .i64 0, .string (⟨#[]⟩ : ByteArray)]) ?_ 3 _ rfl; (with_reducible repeat (first | refine bN ?_ _ | refine bD ?_ | refine bA ?_ _)); refine blk_put (cs := #[.int .i64 0, .int .i64 t163, .int .i64 0, .int .u8 0, .int .i64 0, .string (⟨#[]⟩ : ByteArray)]) ?_ 2 _ rfl; (with_reducible repeat (first | refine bN ?_ _ | refine bD ?_ | refine bA ?_ _)); refine blk_put (cs := #[.int .i64 0, .int .i64 0, .int .i64 0, .int .u8 0, .int .i64 0, .string (⟨#[]⟩ : ByteArray)]) ?_ 1 _ rfl; (with_reducible repeat (first | refine bN ?_ _ | refine bD ?_ | refine bA ?_ _)); refine blk_put (cs := #[.int .i64 0, .int .i64 0, .int .i64 0, .int .u8 0, .int .i64 0, .string (⟨#[]⟩ : ByteArray)]) ?_ 0 _ rfl; (with_reducible repeat (first | refine bN ?_ _ | refine bD ?_ | refine bA ?_ _)); exact BK164.out⟩, ⟨by repeat (first | (with_reducible first | exact HB.out | apply wA | apply wN | apply wD | refine wS ?_ GE162.out | refine wS ?_ GE164.out) | exact HB.out)⟩⟩
          ·rw [if_neg c20] at H
           have c20b0 : ((bt a0 t163) == 123) = false := beq_eq_false_iff_ne.mpr c20
           have c20b1 : ((bt a0 t163) != 123) = true := bne_iff_ne.mpr c20
           by_cases c21 : (bt a0 t163) = 125
           ·rw [if_pos c21] at H
            have c21b0 : ((bt a0 t163) == 125) = true := beq_iff_eq.mpr c21
            have c21b1 : ((bt a0 t163) != 125) = false := bne_eq_false_iff_eq.mpr c21
            clear c21
            have H' := Aside0.mk H
            clear H
            go_wp2
            go_meet
            case rel => exact ⟨_, (true), (by first | rfl | (simp; done) | (simp [*]; done)), H', ⟨by have := HJ2.out; first | omega | exact Nat.le_refl _⟩, ⟨by (with_reducible repeat (first | refine bN ?_ _ | refine bD ?_ | refine bA ?_ _ | refine blk_far ?_ NB162_164.out _)); exact BK162.out⟩, ⟨by (with_reducible repeat (first | refine bN ?_ _ | refine bD ?_ | refine bA ?_ _)); refine blk_put (cs := #[.int .i64 0, .int .i64 t163, .int .i64 0, .int .u8 0, .int .i64 0, .string (⟨#[]⟩ : ByteArray)]) ?_ 5 _ rfl; (with_reducible repeat (first | refine bN ?_ _ | refine bD ?_ | refine bA ?_ _)); refine blk_put (cs := #[.int .i64 0, .int .i64 t163, .int .i64 0, .int .u8 0, .int .i64 0, .string (⟨#[]⟩ : ByteArray)]) ?_ 4 _ rfl; (with_reducible repeat (first | refine bN ?_ _ | refine bD ?_ | refine bA ?_ _)); refine blk_put (cs := #[.int .i64 0, .int .i64 t163, .int .i64 0, .int .u8 0, .int .i64 0, .string (⟨#[]⟩ : ByteArray)]) ?_ 3 _ rfl; (with_reducible repeat (first | refine bN ?_ _ | refine bD ?_ | refine bA ?_ _)); refine blk_put (cs := #[.int .i64 0, .int .i64 t163, .int .i64 0, .int .u8 0, .int .i64 0, .string (⟨#[]⟩ : ByteArray)]) ?_ 2 _ rfl; (with_reducible repeat (first | refine bN ?_ _ | refine bD ?_ | refine bA ?_ _)); refine blk_put (cs := #[.int .i64 0, .int .i64 0, .int .i64 0, .int .u8 0, .int .i64 0, .string (⟨#[]⟩ : ByteArray)]) ?_ 1 _ rfl; (with_reducible repeat (first | refine bN ?_ _ | refine bD ?_ | refine bA ?_ _)); refine blk_put (cs := #[.int .i64 0, .int .i64 0, .int .i64 0, .int .u8 0, .int .i64 0, .string (⟨#[]⟩ : ByteArray)]) ?_ 0 _ rfl; (with_reducible repeat (first | refine bN ?_ _ | refine bD ?_ | refine bA ?_ _)); exact BK164.out⟩, ⟨by repeat (first | (with_reducible first | exact HB.out | apply wA | apply wN | apply wD | refine wS ?_ GE162.out | refine wS ?_ GE164.out) | exact HB.out)⟩⟩
           ·rw [if_neg c21] at H
            have c21b0 : ((bt a0 t163) == 125) = false := beq_eq_false_iff_ne.mpr c21
            have c21b1 : ((bt a0 t163) != 125) = true := bne_iff_ne.mpr c21
            by_cases c22 : (bt a0 t163) = 44
            ·rw [if_pos c22] at H
             have c22b0 : ((bt a0 t163) == 44) = true := beq_iff_eq.mpr c22
             have c22b1 : ((bt a0 t163) != 44) = false := bne_eq_false_iff_eq.mpr c22
             clear c22
             have H' := Aside0.mk H
             clear H
             go_wp2
             go_meet
             case rel => exact ⟨_, (true), (by first | rfl | (simp; done) | (simp [*]; done)), H', ⟨by have := HJ2.out; first | omega | exact Nat.le_refl _⟩, ⟨by (with_reducible repeat (first | refine bN ?_ _ | refine bD ?_ | refine bA ?_ _ | refine blk_far ?_ NB162_164.out _)); exact BK162.out⟩, ⟨by (with_reducible repeat (first | refine bN ?_ _ | refine bD ?_ | refine bA ?_ _)); refine blk_put (cs := #[.int .i64 0, .int .i64 t163, .int .i64 0, .int .u8 0, .int .i64 0, .string (⟨#[]⟩ : ByteArray)]) ?_ 5 _ rfl; (with_reducible repeat (first | refine bN ?_ _ | refine bD ?_ | refine bA ?_ _)); refine blk_put (cs := #[.int .i64 0, .int .i64 t163, .int .i64 0, .int .u8 0, .int .i64 0, .string (⟨#[]⟩ : ByteArray)]) ?_ 4 _ rfl; (with_reducible repeat (first | refine bN ?_ _ | refine bD ?_ | refine bA ?_ _)); refine blk_put (cs := #[.int .i64 0, .int .i64 t163, .int .i64 0, .int .u8 0, .int .i64 0, .string (⟨#[]⟩ : ByteArray)]) ?_ 3 _ rfl; (with_reducible repeat (first | refine bN ?_ _ | refine bD ?_ | refine bA ?_ _)); refine blk_put (cs := #[.int .i64 0, .int .i64 t163, .int .i64 0, .int .u8 0, .int .i64 0, .string (⟨#[]⟩ : ByteArray)]) ?_ 2 _ rfl; (with_reducible repeat (first | refine bN ?_ _ | refine bD ?_ | refine bA ?_ _)); refine blk_put (cs := #[.int .i64 0, .int .i64 0, .int .i64 0, .int .u8 0, .int .i64 0, .string (⟨#[]⟩ : ByteArray)]) ?_ 1 _ rfl; (with_reducible repeat (first | refine bN ?_ _ | refine bD ?_ | refine bA ?_ _)); refine blk_put (cs := #[.int .i64 0, .int .i64 0, .int .i64 0, .int .u8 0, .int .i64 0, .string (⟨#[]⟩ : ByteArray)]) ?_ 0 _ rfl; (with_reducible repeat (first | refine bN ?_ _ | refine bD ?_ | refine bA ?_ _)); exact BK164.out⟩, ⟨by repeat (first | (with_reducible first | exact HB.out | apply wA | apply wN | apply wD | refine wS ?_ GE162.out | refine wS ?_ GE164.out) | exact HB.out)⟩⟩
            ·rw [if_neg c22] at H
             have c22b0 : ((bt a0 t163) == 44) = false := beq_eq_false_iff_ne.mpr c22
             have c22b1 : ((bt a0 t163) != 44) = true := bne_iff_ne.mpr c22
             have H' := Aside0.mk H
             clear H
             go_wp2
             go_meet
             case rel => exact ⟨_, (((bt a0 t163) == 58)), (by first | rfl | (simp; done) | (simp [*]; done)), H', ⟨by have := HJ2.out; first | omega | exact Nat.le_refl _⟩, ⟨by (with_reducible repeat (first | refine bN ?_ _ | refine bD ?_ | refine bA ?_ _ | refine blk_far ?_ NB162_164.out _)); exact BK162.out⟩, ⟨by (with_reducible repeat (first | refine bN ?_ _ | refine bD ?_ | refine bA ?_ _)); refine blk_put (cs := #[.int .i64 0, .int .i64 t163, .int .i64 0, .int .u8 0, .int .i64 0, .string (⟨#[]⟩ : ByteArray)]) ?_ 5 _ rfl; (with_reducible repeat (first | refine bN ?_ _ | refine bD ?_ | refine bA ?_ _)); refine blk_put (cs := #[.int .i64 0, .int .i64 t163, .int .i64 0, .int .u8 0, .int .i64 0, .string (⟨#[]⟩ : ByteArray)]) ?_ 4 _ rfl; (with_reducible repeat (first | refine bN ?_ _ | refine bD ?_ | refine bA ?_ _)); refine blk_put (cs := #[.int .i64 0, .int .i64 t163, .int .i64 0, .int .u8 0, .int .i64 0, .string (⟨#[]⟩ : ByteArray)]) ?_ 3 _ rfl; (with_reducible repeat (first | refine bN ?_ _ | refine bD ?_ | refine bA ?_ _)); refine blk_put (cs := #[.int .i64 0, .int .i64 t163, .int .i64 0, .int .u8 0, .int .i64 0, .string (⟨#[]⟩ : ByteArray)]) ?_ 2 _ rfl; (with_reducible repeat (first | refine bN ?_ _ | refine bD ?_ | refine bA ?_ _)); refine blk_put (cs := #[.int .i64 0, .int .i64 0, .int .i64 0, .int .u8 0, .int .i64 0, .string (⟨#[]⟩ : ByteArray)]) ?_ 1 _ rfl; (with_reducible repeat (first | refine bN ?_ _ | refine bD ?_ | refine bA ?_ _)); refine blk_put (cs := #[.int .i64 0, .int .i64 0, .int .i64 0, .int .u8 0, .int .i64 0, .string (⟨#[]⟩ : ByteArray)]) ?_ 0 _ rfl; (with_reducible repeat (first | refine bN ?_ _ | refine bD ?_ | refine bA ?_ _)); exact BK164.out⟩, ⟨by repeat (first | (with_reducible first | exact HB.out | apply wA | apply wN | apply wD | refine wS ?_ GE162.out | refine wS ?_ GE164.out) | exact HB.out)⟩⟩
       case rest =>
        clear HC14
        (try clear c1); (try clear p1); (try clear q1); (try clear hx1); (try clear c2); (try clear c6); (try clear c9); (try clear c9b0); (try clear c9b1); (try clear c11); (try clear c11b0); (try clear c12); (try clear c12b0); (try clear c13); (try clear p13); (try clear q13); (try clear hx13); (try clear c16); (try clear c18); (try clear c18b0); (try clear c18b1); (try clear c19); (try clear c19b0); (try clear c19b1); (try clear c20); (try clear c20b0); (try clear c20b1); (try clear c21); (try clear c21b0); (try clear c21b1); (try clear c22); (try clear c22b0); (try clear c22b1); (try clear hcz10_0); (try clear hcz10_1); (try clear hcz10_2); (try clear hcz10_3); (try clear hcz10_4); (try clear hcz10_5); (try clear hcz17_0); (try clear hcz17_1); (try clear hcz17_2); (try clear hcz17_3); (try clear hcz17_4); (try clear hcz17_5); (try clear hcz7_0); (try clear hcz7_1); (try clear hcz7_2); (try clear hcz7_3); (try clear hcz7_4); (try clear hcz7_5); (try clear hfz10_0); (try clear hfz10_1); (try clear hfz10_2); (try clear hfz10_3); (try clear hfz10_4); (try clear hfz10_5); (try clear hfz17_0); (try clear hfz17_1); (try clear hfz17_2); (try clear hfz17_3); (try clear hfz17_4); (try clear hfz17_5); (try clear hfz7_0); (try clear hfz7_1); (try clear hfz7_2); (try clear hfz7_3); (try clear hfz7_4); (try clear hfz7_5)
        obtain ⟨kq, x38_13, rfl, HA, HJ13, BK162, BK164, HB⟩ := hcut
        cases kq with
        | zero => exact absurd HA.out (by simp [jsonlex_Next.j1])
        | succ kj13 =>
         have H := HA.out
         clear HA
         simp only [jsonlex_Next.j1] at H
         by_cases c23 : x38_13 = true
         ·subst c23
          have H1 : (if 0 = 0 then (some (1, t163, wrap64 (t163 + 1), (bt a0 t163), 0, (⟨#[]⟩ : ByteArray), wrap64 (t163 + 1), 0)) else (some (0, 0, 0, 0, 0, (⟨#[]⟩ : ByteArray), wrap64 (t163 + 1), 0))) = some (r1, r2, r3, r4, r5, r6, r7, r8) := by rw [if_pos rfl] at H; exact H
          clear H; have H := H1; clear H1
          by_cases c24 : 0 = 0
          ·rw [if_pos c24] at H
           have c24b0 : (0 == 0) = true := beq_iff_eq.mpr c24
           have c24b1 : (0 != 0) = false := bne_eq_false_iff_eq.mpr c24
           clear c24
           simp only [Option.some.injEq, Prod.mk.injEq] at H
           obtain ⟨rfl, rfl, rfl, rfl, rfl, rfl, rfl, rfl⟩ := H
           have hnb25 := NB164_162.out; have hnc25 := NB162_164.out; have hcz26_0 : wc.cell? ⟨gb164, 0, none⟩ = some (.int .i64 0) := (blk_cell BK164.out 0).trans rfl; have hcz26_1 : wc.cell? ⟨gb164, 1, none⟩ = some (.int .i64 t163) := (blk_cell BK164.out 1).trans rfl; have hcz26_2 : wc.cell? ⟨gb164, 2, none⟩ = some (.int .i64 0) := (blk_cell BK164.out 2).trans rfl; have hcz26_3 : wc.cell? ⟨gb164, 3, none⟩ = some (.int .u8 0) := (blk_cell BK164.out 3).trans rfl; have hcz26_4 : wc.cell? ⟨gb164, 4, none⟩ = some (.int .i64 0) := (blk_cell BK164.out 4).trans rfl; have hcz26_5 : wc.cell? ⟨gb164, 5, none⟩ = some (.string (⟨#[]⟩ : ByteArray)) := (blk_cell BK164.out 5).trans rfl; have hfz26_0 := blk_frozen BK164.out 0; have hfz26_1 := blk_frozen BK164.out 1; have hfz26_2 := blk_frozen BK164.out 2; have hfz26_3 := blk_frozen BK164.out 3; have hfz26_4 := blk_frozen BK164.out 4; have hfz26_5 := blk_frozen BK164.out 5
           try go_wp2
           have n0_ : Aside0 ((((wc.setCell ⟨gb164, 0, none⟩ (.int .i64 1)).setCell ⟨gb164, 3, none⟩ (.int .u8 (bt a0 t163))).setCell ⟨gb164, 2, none⟩ (.int .i64 (wrap64 (t163 + 1)))).heap[gb162]? = some (.cells #[.int .i64 0, .int .i64 0, .int .i64 0, .int .u8 0, .int .i64 0, .string (⟨#[]⟩ : ByteArray)] 24 (0, 0))) := ⟨by (with_reducible repeat (first | refine bN ?_ _ | refine bD ?_ | refine bA ?_ _ | refine blk_far ?_ NB162_164.out _)); exact BK162.out⟩
           have n1_ : Aside0 ((((wc.setCell ⟨gb164, 0, none⟩ (.int .i64 1)).setCell ⟨gb164, 3, none⟩ (.int .u8 (bt a0 t163))).setCell ⟨gb164, 2, none⟩ (.int .i64 (wrap64 (t163 + 1)))).heap[gb164]? = some (.cells #[.int .i64 1, .int .i64 t163, .int .i64 (wrap64 (t163 + 1)), .int .u8 (bt a0 t163), .int .i64 0, .string (⟨#[]⟩ : ByteArray)] 24 (0, 0))) := ⟨by (with_reducible repeat (first | refine bN ?_ _ | refine bD ?_ | refine bA ?_ _)); refine blk_put (cs := #[.int .i64 1, .int .i64 t163, .int .i64 0, .int .u8 (bt a0 t163), .int .i64 0, .string (⟨#[]⟩ : ByteArray)]) ?_ 2 _ rfl; (with_reducible repeat (first | refine bN ?_ _ | refine bD ?_ | refine bA ?_ _)); refine blk_put (cs := #[.int .i64 1, .int .i64 t163, .int .i64 0, .int .u8 0, .int .i64 0, .string (⟨#[]⟩ : ByteArray)]) ?_ 3 _ rfl; (with_reducible repeat (first | refine bN ?_ _ | refine bD ?_ | refine bA ?_ _)); refine blk_put (cs := #[.int .i64 0, .int .i64 t163, .int .i64 0, .int .u8 0, .int .i64 0, .string (⟨#[]⟩ : ByteArray)]) ?_ 0 _ rfl; (with_reducible repeat (first | refine bN ?_ _ | refine bD ?_ | refine bA ?_ _)); exact BK164.out⟩
           have n2_ : Aside0 (Below w.heap.size w (((wc.setCell ⟨gb164, 0, none⟩ (.int .i64 1)).setCell ⟨gb164, 3, none⟩ (.int .u8 (bt a0 t163))).setCell ⟨gb164, 2, none⟩ (.int .i64 (wrap64 (t163 + 1))))) := ⟨by repeat (first | (with_reducible first | exact HB.out | apply wA | apply wN | apply wD | refine wS ?_ GE162.out | refine wS ?_ GE164.out) | exact HB.out)⟩
           (try clear BK162); (try clear BK164); (try clear HB)
           generalize (((wc.setCell ⟨gb164, 0, none⟩ (.int .i64 1)).setCell ⟨gb164, 3, none⟩ (.int .u8 (bt a0 t163))).setCell ⟨gb164, 2, none⟩ (.int .i64 (wrap64 (t163 + 1)))) = w27 at n0_ n1_ n2_ ⊢
           have BK162 := n0_
           have BK164 := n1_
           have HB := n2_
           clear n0_ n1_ n2_
           have n0_ := Aside0.mk (blk_drew BK162.out)
           have n1_ := Aside0.mk (blk_drew BK164.out)
           have n2_ := Aside0.mk (below_drew1 HB.out)
           clear BK162
           clear BK164
           clear HB
           have BK162 := n0_
           have BK164 := n1_
           have HB := n2_
           clear n0_ n1_ n2_
           refine start_ (n := 6) (S := fun w' => w'.cell? ⟨gb164, 0, none⟩ = some (.int .i64 1) ∧ w'.cell? ⟨gb164, 1, none⟩ = some (.int .i64 t163) ∧ w'.cell? ⟨gb164, 2, none⟩ = some (.int .i64 (wrap64 (t163 + 1))) ∧ w'.cell? ⟨gb164, 3, none⟩ = some (.int .u8 (bt a0 t163)) ∧ w'.cell? ⟨gb164, 4, none⟩ = some (.int .i64 0) ∧ w'.cell? ⟨gb164, 5, none⟩ = some (.string (⟨#[]⟩ : ByteArray))) (ds := []) #[false, false, false, false, false, false] (by kernel_rfl) rfl rfl ⟨(blk_cell BK164.out 0).trans rfl, (blk_cell BK164.out 1).trans rfl, (blk_cell BK164.out 2).trans rfl, (blk_cell BK164.out 3).trans rfl, (blk_cell BK164.out 4).trans rfl, (blk_cell BK164.out 5).trans rfl⟩ (fun hHeld => ?_)
           generalize w27.drew = w28 at BK162 BK164 HB hHeld ⊢
           refine pure_ (i := 1) (N := some 156) (v := ?_) (a' := ?_) #[false, true, false, false, false, false] rfl rfl (by kernel_rfl) (fun _ _ _ h => h) (Or.inl ⟨by rfl, ?_⟩) ?_ ?_
           rotate_left
           ·intro w'
            go_simp
            with_reducible rfl
           rotate_left
           ·simp only [Act.put, List.setIfInBounds_toArray, List.set_cons_zero, List.set_cons_succ, i64_w, i32_w]
            rfl
           refine take_ (i := 0) (N := some 155) (v := ?_) (a' := ?_) #[true, true, false, false, false, false] rfl rfl (by kernel_rfl) (fun _ _ _ h => h) (Or.inl ⟨by rfl, ?_⟩) hHeld ?_ ?_
           rotate_left
           ·rintro w' ⟨s0, s1, s2, s3, s4, s5⟩
            go_simp
            with_reducible rfl
           rotate_left
           ·simp only [Act.put, List.setIfInBounds_toArray, List.set_cons_zero, List.set_cons_succ, i64_w, i32_w]
            rfl
           refine take_ (i := 2) (N := some 157) (v := ?_) (a' := ?_) #[true, true, true, false, false, false] rfl rfl (by kernel_rfl) (fun _ _ _ h => h) (Or.inl ⟨by rfl, ?_⟩) hHeld ?_ ?_
           rotate_left
           ·rintro w' ⟨s0, s1, s2, s3, s4, s5⟩
            go_simp
            with_reducible rfl
           rotate_left
           ·simp only [Act.put, List.setIfInBounds_toArray, List.set_cons_zero, List.set_cons_succ, i64_w, i32_w]
            rfl
           refine one_ (i := 3) (N := none) #[true, true, true, true, false, false] rfl rfl (by kernel_rfl) (by decide) (fun K hK => ?_)
           have hs29 : w28.cell? ⟨gb162, 0, none⟩ = some (.int .i64 0) := (blk_cell BK162.out 0).trans rfl
           have hfs29 := blk_frozen BK162.out 0
           have hns29_1 := NB164_162.out
           have hms29_1 := NB162_164.out
           have hs30 : w28.cell? ⟨gb162, 1, none⟩ = some (.int .i64 0) := (blk_cell BK162.out 1).trans rfl
           have hfs30 := blk_frozen BK162.out 1
           have hns30_1 := NB164_162.out
           have hms30_1 := NB162_164.out
           have hs31 : w28.cell? ⟨gb162, 2, none⟩ = some (.int .i64 0) := (blk_cell BK162.out 2).trans rfl
           have hfs31 := blk_frozen BK162.out 2
           have hns31_1 := NB164_162.out
           have hms31_1 := NB162_164.out
           have hs32 : w28.cell? ⟨gb162, 3, none⟩ = some (.int .u8 0) := (blk_cell BK162.out 3).trans rfl
           have hfs32 := blk_frozen BK162.out 3
           have hns32_1 := NB164_162.out
           have hms32_1 := NB162_164.out
           have hs33 : w28.cell? ⟨gb162, 4, none⟩ = some (.int .i64 0) := (blk_cell BK162.out 4).trans rfl
           have hfs33 := blk_frozen BK162.out 4
           have hns33_1 := NB164_162.out
           have hms33_1 := NB162_164.out
           have hs34 : w28.cell? ⟨gb162, 5, none⟩ = some (.string (⟨#[]⟩ : ByteArray)) := (blk_cell BK162.out 5).trans rfl
           have hfs34 := blk_frozen BK162.out 5
           have hns34_1 := NB164_162.out
           have hms34_1 := NB162_164.out
           refine skip_ (w1 := ?_) (by rfl) rfl ?_ ?_
           rotate_left
           ·go_simp
            rfl
           refine hK.out _ _ ⟨((cell_far (p := ⟨gb162, _, none⟩) NB164_162.out _).trans (((cell_far (p := ⟨gb162, _, none⟩) NB164_162.out _).trans (((cell_far (p := ⟨gb162, _, none⟩) NB164_162.out _).trans (((cell_far (p := ⟨gb162, _, none⟩) NB164_162.out _).trans (((cell_far (p := ⟨gb162, _, none⟩) NB164_162.out _).trans (((cell_far (p := ⟨gb162, _, none⟩) NB164_162.out _).trans (hHeld.1)))))))))))), ((cell_far (p := ⟨gb162, _, none⟩) NB164_162.out _).trans (((cell_far (p := ⟨gb162, _, none⟩) NB164_162.out _).trans (((cell_far (p := ⟨gb162, _, none⟩) NB164_162.out _).trans (((cell_far (p := ⟨gb162, _, none⟩) NB164_162.out _).trans (((cell_far (p := ⟨gb162, _, none⟩) NB164_162.out _).trans (((cell_far (p := ⟨gb162, _, none⟩) NB164_162.out _).trans (hHeld.2.1)))))))))))), ((cell_far (p := ⟨gb162, _, none⟩) NB164_162.out _).trans (((cell_far (p := ⟨gb162, _, none⟩) NB164_162.out _).trans (((cell_far (p := ⟨gb162, _, none⟩) NB164_162.out _).trans (((cell_far (p := ⟨gb162, _, none⟩) NB164_162.out _).trans (((cell_far (p := ⟨gb162, _, none⟩) NB164_162.out _).trans (((cell_far (p := ⟨gb162, _, none⟩) NB164_162.out _).trans (hHeld.2.2.1)))))))))))), ((cell_far (p := ⟨gb162, _, none⟩) NB164_162.out _).trans (((cell_far (p := ⟨gb162, _, none⟩) NB164_162.out _).trans (((cell_far (p := ⟨gb162, _, none⟩) NB164_162.out _).trans (((cell_far (p := ⟨gb162, _, none⟩) NB164_162.out _).trans (((cell_far (p := ⟨gb162, _, none⟩) NB164_162.out _).trans (((cell_far (p := ⟨gb162, _, none⟩) NB164_162.out _).trans (hHeld.2.2.2.1)))))))))))), ((cell_far (p := ⟨gb162, _, none⟩) NB164_162.out _).trans (((cell_far (p := ⟨gb162, _, none⟩) NB164_162.out _).trans (((cell_far (p := ⟨gb162, _, none⟩) NB164_162.out _).trans (((cell_far (p := ⟨gb162, _, none⟩) NB164_162.out _).trans (((cell_far (p := ⟨gb162, _, none⟩) NB164_162.out _).trans (((cell_far (p := ⟨gb162, _, none⟩) NB164_162.out _).trans (hHeld.2.2.2.2.1)))))))))))), ((cell_far (p := ⟨gb162, _, none⟩) NB164_162.out _).trans (((cell_far (p := ⟨gb162, _, none⟩) NB164_162.out _).trans (((cell_far (p := ⟨gb162, _, none⟩) NB164_162.out _).trans (((cell_far (p := ⟨gb162, _, none⟩) NB164_162.out _).trans (((cell_far (p := ⟨gb162, _, none⟩) NB164_162.out _).trans (((cell_far (p := ⟨gb162, _, none⟩) NB164_162.out _).trans (hHeld.2.2.2.2.2))))))))))))⟩ (fun hHeld => ?_)
           clear hK K
           refine pure_ (i := 4) (N := some 5) (v := ?_) (a' := ?_) #[true, true, true, true, true, false] rfl rfl (by kernel_rfl) (fun _ _ _ h => h) (Or.inl ⟨by rfl, ?_⟩) ?_ ?_
           rotate_left
           ·intro w'
            go_simp
            with_reducible rfl
           rotate_left
           ·simp only [Act.put, List.setIfInBounds_toArray, List.set_cons_zero, List.set_cons_succ, i64_w, i32_w]
            rfl
           refine pure_ (i := 5) (N := some 6) (v := ?_) (a' := ?_) #[true, true, true, true, true, true] rfl rfl (by kernel_rfl) (fun _ _ _ h => h) (Or.inl ⟨by rfl, ?_⟩) ?_ ?_
           rotate_left
           ·intro w'
            go_simp
            with_reducible rfl
           rotate_left
           ·simp only [Act.put, List.setIfInBounds_toArray, List.set_cons_zero, List.set_cons_succ, i64_w, i32_w]
            rfl
           refine done_ (by kernel_rfl) ?_
           try go_wp2
           refine bodyPost_ret (results_ctt rfl _ _ gb162 24 #[.int .i64 1, .int .i64 t163, .int .i64 (wrap64 (t163 + 1)), .int .u8 (bt a0 t163), .int .i64 0, .string (⟨#[]⟩ : ByteArray)] (0, 0) _ rfl (by (with_reducible repeat (first | refine bN ?_ _ | refine bD ?_ | refine bA ?_ _)); refine blk_put (cs := #[.int .i64 1, .int .i64 t163, .int .i64 (wrap64 (t163 + 1)), .int .u8 (bt a0 t163), .int .i64 0, .string (⟨#[]⟩ : ByteArray)]) ?_ 5 _ rfl; (with_reducible repeat (first | refine bN ?_ _ | refine bD ?_ | refine bA ?_ _)); refine blk_put (cs := #[.int .i64 1, .int .i64 t163, .int .i64 (wrap64 (t163 + 1)), .int .u8 (bt a0 t163), .int .i64 0, .string (⟨#[]⟩ : ByteArray)]) ?_ 4 _ rfl; (with_reducible repeat (first | refine bN ?_ _ | refine bD ?_ | refine bA ?_ _)); refine blk_put (cs := #[.int .i64 1, .int .i64 t163, .int .i64 (wrap64 (t163 + 1)), .int .u8 0, .int .i64 0, .string (⟨#[]⟩ : ByteArray)]) ?_ 3 _ rfl; (with_reducible repeat (first | refine bN ?_ _ | refine bD ?_ | refine bA ?_ _)); refine blk_put (cs := #[.int .i64 1, .int .i64 t163, .int .i64 0, .int .u8 0, .int .i64 0, .string (⟨#[]⟩ : ByteArray)]) ?_ 2 _ rfl; (with_reducible repeat (first | refine bN ?_ _ | refine bD ?_ | refine bA ?_ _)); refine blk_put (cs := #[.int .i64 1, .int .i64 0, .int .i64 0, .int .u8 0, .int .i64 0, .string (⟨#[]⟩ : ByteArray)]) ?_ 1 _ rfl; (with_reducible repeat (first | refine bN ?_ _ | refine bD ?_ | refine bA ?_ _)); refine blk_put (cs := #[.int .i64 0, .int .i64 0, .int .i64 0, .int .u8 0, .int .i64 0, .string (⟨#[]⟩ : ByteArray)]) ?_ 0 _ rfl; (with_reducible repeat (first | refine bN ?_ _ | refine bD ?_ | refine bA ?_ _)); exact BK162.out) Try.underlying24 rfl (by kernel_rfl)) rfl ?_
           exact ⟨by first | rfl | (simp [errW_none, errW_some] <;> rfl) | (simp [*, errW_none, errW_some] <;> rfl), by repeat (first | (with_reducible first | exact HB.out | apply wA | apply wN | apply wD | refine wS ?_ GE162.out | refine wS ?_ GE164.out) | exact HB.out)⟩
          ·exact absurd rfl c24
         ·replace c23 := Bool.eq_false_iff.mpr c23
          subst c23
          have H1 : (if (bt a0 t163) ≥ 97 then (jsonlex_Next.j2 kj13 a0 t163 0 (bt a0 t163) (decide ((bt a0 t163) ≤ 122)) 0 t163 0 0 0 (⟨#[]⟩ : ByteArray)) else (jsonlex_Next.j2 kj13 a0 t163 0 (bt a0 t163) false 0 t163 0 0 0 (⟨#[]⟩ : ByteArray))) = some (r1, r2, r3, r4, r5, r6, r7, r8) := by rw [if_neg (show ¬ (false = true) by decide)] at H; exact H
          clear H; have H := H1; clear H1
          have HC35 := Aside0.mk H
          clear H
          go_upto_region 12 with (fail)
          go_cut [67] (fun v67 wc => ∃ (kq : Nat) (x67_34 : Bool), v67 = .bool x67_34 ∧ Aside0 (jsonlex_Next.j2 kq a0 t163 0 (bt a0 t163) x67_34 0 t163 0 0 0 (⟨#[]⟩ : ByteArray) = some (r1, r2, r3, r4, r5, r6, r7, r8)) ∧ Aside0 (kq ≤ kj13) ∧ Aside0 (wc.heap[gb162]? = some (.cells #[.int .i64 0, .int .i64 0, .int .i64 0, .int .u8 0, .int .i64 0, .string (⟨#[]⟩ : ByteArray)] 24 (0, 0))) ∧ Aside0 (wc.heap[gb164]? = some (.cells #[.int .i64 0, .int .i64 t163, .int .i64 0, .int .u8 0, .int .i64 0, .string (⟨#[]⟩ : ByteArray)] 24 (0, 0))) ∧ Aside0 (Below w.heap.size w wc))
          case first =>
           have H := HC35.out
           clear HC35
           by_cases c36 : (bt a0 t163) ≥ 97
           ·rw [if_pos c36] at H
            have c36b0 : decide (97 ≤ (bt a0 t163)) = true := decide_eq_true c36
            clear c36
            (first | rw [c36b0] | (simp only [i64_w, i32_w]; rw [c36b0]) | skip)
            have H' := Aside0.mk H
            clear H
            go_wp2
            go_meet
            case rel => exact ⟨_, (decide ((bt a0 t163) ≤ 122)), (by first | rfl | (simp; done) | (simp [*]; done)), H', ⟨by have := HJ2.out; have := HJ13.out; first | omega | exact Nat.le_refl _⟩, ⟨by (with_reducible repeat (first | refine bN ?_ _ | refine bD ?_ | refine bA ?_ _)); exact BK162.out⟩, ⟨by (with_reducible repeat (first | refine bN ?_ _ | refine bD ?_ | refine bA ?_ _)); exact BK164.out⟩, ⟨by repeat (first | (with_reducible first | exact HB.out | apply wA | apply wN | apply wD | refine wS ?_ GE162.out | refine wS ?_ GE164.out) | exact HB.out)⟩⟩
           ·rw [if_neg c36] at H
            have c36b0 : decide (97 ≤ (bt a0 t163)) = false := decide_eq_false c36
            clear c36
            (first | rw [c36b0] | (simp only [i64_w, i32_w]; rw [c36b0]) | skip)
            have H' := Aside0.mk H
            clear H
            go_wp2
            go_meet
            case rel => exact ⟨_, (false), (by first | rfl | (simp; done) | (simp [*]; done)), H', ⟨by have := HJ2.out; have := HJ13.out; first | omega | exact Nat.le_refl _⟩, ⟨by (with_reducible repeat (first | refine bN ?_ _ | refine bD ?_ | refine bA ?_ _)); exact BK162.out⟩, ⟨by (with_reducible repeat (first | refine bN ?_ _ | refine bD ?_ | refine bA ?_ _)); exact BK164.out⟩, ⟨by repeat (first | (with_reducible first | exact HB.out | apply wA | apply wN | apply wD | refine wS ?_ GE162.out | refine wS ?_ GE164.out) | exact HB.out)⟩⟩
          case rest =>
           clear HC35
           (try clear c3); (try clear p6); (try clear c23); (try clear c24); (try clear c24b0); (try clear c24b1); (try clear c25); (try clear c36); (try clear c36b0); (try clear hcz26_0); (try clear hcz26_1); (try clear hcz26_2); (try clear hcz26_3); (try clear hcz26_4); (try clear hcz26_5); (try clear hfz26_0); (try clear hfz26_1); (try clear hfz26_2); (try clear hfz26_3); (try clear hfz26_4); (try clear hfz26_5)
           obtain ⟨kq, x67_34, rfl, HA, HJ34, BK162, BK164, HB⟩ := hcut
           cases kq with
           | zero => exact absurd HA.out (by simp [jsonlex_Next.j2])
           | succ kj34 =>
            have H := HA.out
            clear HA
            simp only [jsonlex_Next.j2] at H
            by_cases c37 : x67_34 = true
            ·subst c37
             have H1 : (jsonlex_Next.l0 kj34 a0 t163 0 2 t163 t163 (bt a0 t163) 0 (⟨#[]⟩ : ByteArray)) = some (r1, r2, r3, r4, r5, r6, r7, r8) := by rw [if_pos rfl] at H; exact H
             clear H; have H := H1; clear H1
             have HC38 := Aside0.mk H
             clear H; have hnb39 := NB164_162.out; have hnc39 := NB162_164.out; have hcz40_0 : wc.cell? ⟨gb164, 0, none⟩ = some (.int .i64 0) := (blk_cell BK164.out 0).trans rfl; have hcz40_1 : wc.cell? ⟨gb164, 1, none⟩ = some (.int .i64 t163) := (blk_cell BK164.out 1).trans rfl; have hcz40_2 : wc.cell? ⟨gb164, 2, none⟩ = some (.int .i64 0) := (blk_cell BK164.out 2).trans rfl; have hcz40_3 : wc.cell? ⟨gb164, 3, none⟩ = some (.int .u8 0) := (blk_cell BK164.out 3).trans rfl; have hcz40_4 : wc.cell? ⟨gb164, 4, none⟩ = some (.int .i64 0) := (blk_cell BK164.out 4).trans rfl; have hcz40_5 : wc.cell? ⟨gb164, 5, none⟩ = some (.string (⟨#[]⟩ : ByteArray)) := (blk_cell BK164.out 5).trans rfl; have hfz40_0 := blk_frozen BK164.out 0; have hfz40_1 := blk_frozen BK164.out 1; have hfz40_2 := blk_frozen BK164.out 2; have hfz40_3 := blk_frozen BK164.out 3; have hfz40_4 := blk_frozen BK164.out 4; have hfz40_5 := blk_frozen BK164.out 5
             go_upto_block 1 with (fail)
             go_cut [] (fun wc => ∃ (kq : Nat) (x165002_37 : Int), Aside0 (jsonlex_Next.j4 kq a0 t163 0 2 t163 x165002_37 (bt a0 t163) 0 (⟨#[]⟩ : ByteArray) = some (r1, r2, r3, r4, r5, r6, r7, r8)) ∧ Aside0 (kq ≤ kj34) ∧ Aside0 (wc.heap[gb162]? = some (.cells #[.int .i64 0, .int .i64 0, .int .i64 0, .int .u8 0, .int .i64 0, .string (⟨#[]⟩ : ByteArray)] 24 (0, 0))) ∧ Aside0 (wc.heap[gb164]? = some (.cells #[.int .i64 2, .int .i64 t163, .int .i64 x165002_37, .int .u8 (bt a0 t163), .int .i64 0, .string (⟨#[]⟩ : ByteArray)] 24 (0, 0))) ∧ Aside0 (Below w.heap.size w wc))
             case first =>
              have H := HC38.out
              clear HC38
              have H' := Aside0.mk H
              clear H
              go_wp2
              go_loopg [] kj34 (fun kq w' => ∃ (x165002_4 : Int), Aside0 (jsonlex_Next.l0 kq a0 t163 0 2 t163 x165002_4 (bt a0 t163) 0 (⟨#[]⟩ : ByteArray) = some (r1, r2, r3, r4, r5, r6, r7, r8)) ∧ Aside0 (kq ≤ kj34) ∧ Aside0 (w'.heap[gb162]? = some (.cells #[.int .i64 0, .int .i64 0, .int .i64 0, .int .u8 0, .int .i64 0, .string (⟨#[]⟩ : ByteArray)] 24 (0, 0))) ∧ Aside0 (w'.heap[gb164]? = some (.cells #[.int .i64 2, .int .i64 t163, .int .i64 x165002_4, .int .u8 (bt a0 t163), .int .i64 0, .string (⟨#[]⟩ : ByteArray)] 24 (0, 0))) ∧ Aside0 (Below w.heap.size w w'))
              case atStart => exact ⟨(t163), H', ⟨Nat.le_refl _⟩, ⟨by (with_reducible repeat (first | refine bN ?_ _ | refine bD ?_ | refine bA ?_ _ | refine blk_far ?_ NB162_164.out _)); exact BK162.out⟩, ⟨by (with_reducible repeat (first | refine bN ?_ _ | refine bD ?_ | refine bA ?_ _)); refine blk_put (cs := #[.int .i64 2, .int .i64 t163, .int .i64 0, .int .u8 (bt a0 t163), .int .i64 0, .string (⟨#[]⟩ : ByteArray)]) ?_ 2 _ rfl; (with_reducible repeat (first | refine bN ?_ _ | refine bD ?_ | refine bA ?_ _)); refine blk_put (cs := #[.int .i64 2, .int .i64 t163, .int .i64 0, .int .u8 0, .int .i64 0, .string (⟨#[]⟩ : ByteArray)]) ?_ 3 _ rfl; (with_reducible repeat (first | refine bN ?_ _ | refine bD ?_ | refine bA ?_ _)); refine blk_put (cs := #[.int .i64 0, .int .i64 t163, .int .i64 0, .int .u8 0, .int .i64 0, .string (⟨#[]⟩ : ByteArray)]) ?_ 0 _ rfl; (with_reducible repeat (first | refine bN ?_ _ | refine bD ?_ | refine bA ?_ _)); exact BK164.out⟩, ⟨by repeat (first | (with_reducible first | exact HB.out | apply wA | apply wN | apply wD | refine wS ?_ GE162.out | refine wS ?_ GE164.out) | exact HB.out)⟩⟩
              case round =>
               clear H'
               (try clear c37); (try clear c39); (try clear hcz40_0); (try clear hcz40_1); (try clear hcz40_2); (try clear hcz40_3); (try clear hcz40_4); (try clear hcz40_5); (try clear hfz40_0); (try clear hfz40_1); (try clear hfz40_2); (try clear hfz40_3); (try clear hfz40_4); (try clear hfz40_5)
               obtain ⟨x165002_4, HA, HK4, BK162, BK164, HB⟩ := hrel
               cases gk with
               | zero => exact absurd HA.out (by simp [jsonlex_Next.l0])
               | succ k4 =>
                have H := HA.out
                clear HA
                simp only [jsonlex_Next.l0] at H
                by_cases c41 : x165002_4 < (a0.size : Int)
                ·rw [if_pos c41] at H
                 have c41b0 : decide (x165002_4 < (a0.size : Int)) = true := decide_eq_true c41
                 clear c41
                 (first | rw [c41b0] | (simp only [i64_w, i32_w]; rw [c41b0]) | skip)
                 by_cases c42 : 0 ≤ x165002_4
                 ·rw [if_pos c42] at H
                  have c42b0 : decide (0 ≤ x165002_4) = true := decide_eq_true c42
                  clear c42
                  by_cases c44 : (bt a0 x165002_4) ≥ 97
                  ·rw [if_pos c44] at H
                   have c44b0 : decide (97 ≤ (bt a0 x165002_4)) = true := decide_eq_true c44
                   clear c44
                   by_cases c46 : (bt a0 x165002_4) ≤ 122
                   ·rw [if_pos c46] at H
                    have c46b0 : decide ((bt a0 x165002_4) ≤ 122) = true := decide_eq_true c46
                    clear c46
                    have H' := Aside0.mk H
                    clear H; have hnb47 := NB164_162.out; have hnc47 := NB162_164.out; have hcz48_0 : wr.cell? ⟨gb164, 0, none⟩ = some (.int .i64 2) := (blk_cell BK164.out 0).trans rfl; have hcz48_1 : wr.cell? ⟨gb164, 1, none⟩ = some (.int .i64 t163) := (blk_cell BK164.out 1).trans rfl; have hcz48_2 : wr.cell? ⟨gb164, 2, none⟩ = some (.int .i64 x165002_4) := (blk_cell BK164.out 2).trans rfl; have hcz48_3 : wr.cell? ⟨gb164, 3, none⟩ = some (.int .u8 (bt a0 t163)) := (blk_cell BK164.out 3).trans rfl; have hcz48_4 : wr.cell? ⟨gb164, 4, none⟩ = some (.int .i64 0) := (blk_cell BK164.out 4).trans rfl; have hcz48_5 : wr.cell? ⟨gb164, 5, none⟩ = some (.string (⟨#[]⟩ : ByteArray)) := (blk_cell BK164.out 5).trans rfl; have hfz48_0 := blk_frozen BK164.out 0; have hfz48_1 := blk_frozen BK164.out 1; have hfz48_2 := blk_frozen BK164.out 2; have hfz48_3 := blk_frozen BK164.out 3; have hfz48_4 := blk_frozen BK164.out 4; have hfz48_5 := blk_frozen BK164.out 5
                    have p43 : 0 ≤ (x165002_4 : Int) := of_decide_eq_true (by first | (with_reducible assumption) | assumption)
                    have q43 : x165002_4 < (a0.size : Int) := of_decide_eq_true (by first | (with_reducible assumption) | assumption)
                    have hx43 := bt_at a0 x165002_4
                    replace p43 := eq_true p43; replace q43 := eq_true q43
                    have p45 : 0 ≤ (x165002_4 : Int) := of_decide_eq_true (by first | (with_reducible assumption) | assumption)
                    have q45 : x165002_4 < (a0.size : Int) := of_decide_eq_true (by first | (with_reducible assumption) | assumption)
                    have hx45 := bt_at a0 x165002_4
                    replace p45 := eq_true p45; replace q45 := eq_true q45
                    go_wp2
                    go_roundg k4
                    case measure => have := HJ2.out; have := HJ13.out; have := HJ34.out; have := HK4.out; omega
                    case rel => exact ⟨(wrap64 (x165002_4 + 1)), H', ⟨by have := HJ2.out; have := HJ13.out; have := HJ34.out; have := HK4.out; omega⟩, ⟨by (with_reducible repeat (first | refine bN ?_ _ | refine bD ?_ | refine bA ?_ _ | refine blk_far ?_ NB162_164.out _)); exact BK162.out⟩, ⟨by (with_reducible repeat (first | refine bN ?_ _ | refine bD ?_ | refine bA ?_ _)); refine blk_put (cs := #[.int .i64 2, .int .i64 t163, .int .i64 x165002_4, .int .u8 (bt a0 t163), .int .i64 0, .string (⟨#[]⟩ : ByteArray)]) ?_ 2 _ rfl; (with_reducible repeat (first | refine bN ?_ _ | refine bD ?_ | refine bA ?_ _)); exact BK164.out⟩, ⟨by repeat (first | (with_reducible first | exact HB.out | apply wA | apply wN | apply wD | refine wS ?_ GE162.out | refine wS ?_ GE164.out) | exact HB.out)⟩⟩
                   ·rw [if_neg c46] at H
                    have c46b0 : decide ((bt a0 x165002_4) ≤ 122) = false := decide_eq_false c46
                    clear c46
                    have H' := Aside0.mk H
                    clear H; have hnb49 := NB164_162.out; have hnc49 := NB162_164.out; have hcz50_0 : wr.cell? ⟨gb164, 0, none⟩ = some (.int .i64 2) := (blk_cell BK164.out 0).trans rfl; have hcz50_1 : wr.cell? ⟨gb164, 1, none⟩ = some (.int .i64 t163) := (blk_cell BK164.out 1).trans rfl; have hcz50_2 : wr.cell? ⟨gb164, 2, none⟩ = some (.int .i64 x165002_4) := (blk_cell BK164.out 2).trans rfl; have hcz50_3 : wr.cell? ⟨gb164, 3, none⟩ = some (.int .u8 (bt a0 t163)) := (blk_cell BK164.out 3).trans rfl; have hcz50_4 : wr.cell? ⟨gb164, 4, none⟩ = some (.int .i64 0) := (blk_cell BK164.out 4).trans rfl; have hcz50_5 : wr.cell? ⟨gb164, 5, none⟩ = some (.string (⟨#[]⟩ : ByteArray)) := (blk_cell BK164.out 5).trans rfl; have hfz50_0 := blk_frozen BK164.out 0; have hfz50_1 := blk_frozen BK164.out 1; have hfz50_2 := blk_frozen BK164.out 2; have hfz50_3 := blk_frozen BK164.out 3; have hfz50_4 := blk_frozen BK164.out 4; have hfz50_5 := blk_frozen BK164.out 5
                    have p43 : 0 ≤ (x165002_4 : Int) := of_decide_eq_true (by first | (with_reducible assumption) | assumption)
                    have q43 : x165002_4 < (a0.size : Int) := of_decide_eq_true (by first | (with_reducible assumption) | assumption)
                    have hx43 := bt_at a0 x165002_4
                    replace p43 := eq_true p43; replace q43 := eq_true q43
                    have p45 : 0 ≤ (x165002_4 : Int) := of_decide_eq_true (by first | (with_reducible assumption) | assumption)
                    have q45 : x165002_4 < (a0.size : Int) := of_decide_eq_true (by first | (with_reducible assumption) | assumption)
                    have hx45 := bt_at a0 x165002_4
                    replace p45 := eq_true p45; replace q45 := eq_true q45
                    go_wp2
                    go_meet
                    case rel => exact ⟨_, (x165002_4), H', ⟨by have := HJ2.out; have := HJ13.out; have := HJ34.out; have := HK4.out; first | omega | exact Nat.le_refl _⟩, ⟨by (with_reducible repeat (first | refine bN ?_ _ | refine bD ?_ | refine bA ?_ _)); exact BK162.out⟩, ⟨by (with_reducible repeat (first | refine bN ?_ _ | refine bD ?_ | refine bA ?_ _)); exact BK164.out⟩, ⟨by repeat (first | (with_reducible first | exact HB.out | apply wA | apply wN | apply wD | refine wS ?_ GE162.out | refine wS ?_ GE164.out) | exact HB.out)⟩⟩
                  ·rw [if_neg c44] at H
                   have c44b0 : decide (97 ≤ (bt a0 x165002_4)) = false := decide_eq_false c44
                   clear c44
                   have H' := Aside0.mk H
                   clear H; have hnb51 := NB164_162.out; have hnc51 := NB162_164.out; have hcz52_0 : wr.cell? ⟨gb164, 0, none⟩ = some (.int .i64 2) := (blk_cell BK164.out 0).trans rfl; have hcz52_1 : wr.cell? ⟨gb164, 1, none⟩ = some (.int .i64 t163) := (blk_cell BK164.out 1).trans rfl; have hcz52_2 : wr.cell? ⟨gb164, 2, none⟩ = some (.int .i64 x165002_4) := (blk_cell BK164.out 2).trans rfl; have hcz52_3 : wr.cell? ⟨gb164, 3, none⟩ = some (.int .u8 (bt a0 t163)) := (blk_cell BK164.out 3).trans rfl; have hcz52_4 : wr.cell? ⟨gb164, 4, none⟩ = some (.int .i64 0) := (blk_cell BK164.out 4).trans rfl; have hcz52_5 : wr.cell? ⟨gb164, 5, none⟩ = some (.string (⟨#[]⟩ : ByteArray)) := (blk_cell BK164.out 5).trans rfl; have hfz52_0 := blk_frozen BK164.out 0; have hfz52_1 := blk_frozen BK164.out 1; have hfz52_2 := blk_frozen BK164.out 2; have hfz52_3 := blk_frozen BK164.out 3; have hfz52_4 := blk_frozen BK164.out 4; have hfz52_5 := blk_frozen BK164.out 5
                   have p43 : 0 ≤ (x165002_4 : Int) := of_decide_eq_true (by first | (with_reducible assumption) | assumption)
                   have q43 : x165002_4 < (a0.size : Int) := of_decide_eq_true (by first | (with_reducible assumption) | assumption)
                   have hx43 := bt_at a0 x165002_4
                   replace p43 := eq_true p43; replace q43 := eq_true q43
                   go_wp2
                   go_meet
                   case rel => exact ⟨_, (x165002_4), H', ⟨by have := HJ2.out; have := HJ13.out; have := HJ34.out; have := HK4.out; first | omega | exact Nat.le_refl _⟩, ⟨by (with_reducible repeat (first | refine bN ?_ _ | refine bD ?_ | refine bA ?_ _)); exact BK162.out⟩, ⟨by (with_reducible repeat (first | refine bN ?_ _ | refine bD ?_ | refine bA ?_ _)); exact BK164.out⟩, ⟨by repeat (first | (with_reducible first | exact HB.out | apply wA | apply wN | apply wD | refine wS ?_ GE162.out | refine wS ?_ GE164.out) | exact HB.out)⟩⟩
                 ·rw [if_neg c42] at H
                  exact absurd H (by simp)
                ·rw [if_neg c41] at H
                 have c41b0 : decide (x165002_4 < (a0.size : Int)) = false := decide_eq_false c41
                 clear c41
                 (first | rw [c41b0] | (simp only [i64_w, i32_w]; rw [c41b0]) | skip)
                 have H' := Aside0.mk H
                 clear H; have hnb53 := NB164_162.out; have hnc53 := NB162_164.out; have hcz54_0 : wr.cell? ⟨gb164, 0, none⟩ = some (.int .i64 2) := (blk_cell BK164.out 0).trans rfl; have hcz54_1 : wr.cell? ⟨gb164, 1, none⟩ = some (.int .i64 t163) := (blk_cell BK164.out 1).trans rfl; have hcz54_2 : wr.cell? ⟨gb164, 2, none⟩ = some (.int .i64 x165002_4) := (blk_cell BK164.out 2).trans rfl; have hcz54_3 : wr.cell? ⟨gb164, 3, none⟩ = some (.int .u8 (bt a0 t163)) := (blk_cell BK164.out 3).trans rfl; have hcz54_4 : wr.cell? ⟨gb164, 4, none⟩ = some (.int .i64 0) := (blk_cell BK164.out 4).trans rfl; have hcz54_5 : wr.cell? ⟨gb164, 5, none⟩ = some (.string (⟨#[]⟩ : ByteArray)) := (blk_cell BK164.out 5).trans rfl; have hfz54_0 := blk_frozen BK164.out 0; have hfz54_1 := blk_frozen BK164.out 1; have hfz54_2 := blk_frozen BK164.out 2; have hfz54_3 := blk_frozen BK164.out 3; have hfz54_4 := blk_frozen BK164.out 4; have hfz54_5 := blk_frozen BK164.out 5
                 go_wp2
                 go_meet
                 case rel => exact ⟨_, (x165002_4), H', ⟨by have := HJ2.out; have := HJ13.out; have := HJ34.out; have := HK4.out; first | omega | exact Nat.le_refl _⟩, ⟨by (with_reducible repeat (first | refine bN ?_ _ | refine bD ?_ | refine bA ?_ _)); exact BK162.out⟩, ⟨by (with_reducible repeat (first | refine bN ?_ _ | refine bD ?_ | refine bA ?_ _)); exact BK164.out⟩, ⟨by repeat (first | (with_reducible first | exact HB.out | apply wA | apply wN | apply wD | refine wS ?_ GE162.out | refine wS ?_ GE164.out) | exact HB.out)⟩⟩
             case rest =>
              clear HC38
              (try clear c4); (try clear p4); (try clear q4); (try clear hx4); (try clear c37); (try clear c39); (try clear c41); (try clear c41b0); (try clear c42); (try clear c42b0); (try clear p43); (try clear q43); (try clear hx43); (try clear c44); (try clear c44b0); (try clear p45); (try clear q45); (try clear hx45); (try clear c46); (try clear c46b0); (try clear c47); (try clear c49); (try clear c51); (try clear c53); (try clear hcz40_0); (try clear hcz40_1); (try clear hcz40_2); (try clear hcz40_3); (try clear hcz40_4); (try clear hcz40_5); (try clear hcz48_0); (try clear hcz48_1); (try clear hcz48_2); (try clear hcz48_3); (try clear hcz48_4); (try clear hcz48_5); (try clear hcz50_0); (try clear hcz50_1); (try clear hcz50_2); (try clear hcz50_3); (try clear hcz50_4); (try clear hcz50_5); (try clear hcz52_0); (try clear hcz52_1); (try clear hcz52_2); (try clear hcz52_3); (try clear hcz52_4); (try clear hcz52_5); (try clear hcz54_0); (try clear hcz54_1); (try clear hcz54_2); (try clear hcz54_3); (try clear hcz54_4); (try clear hcz54_5); (try clear hfz40_0); (try clear hfz40_1); (try clear hfz40_2); (try clear hfz40_3); (try clear hfz40_4); (try clear hfz40_5); (try clear hfz48_0); (try clear hfz48_1); (try clear hfz48_2); (try clear hfz48_3); (try clear hfz48_4); (try clear hfz48_5); (try clear hfz50_0); (try clear hfz50_1); (try clear hfz50_2); (try clear hfz50_3); (try clear hfz50_4); (try clear hfz50_5); (try clear hfz52_0); (try clear hfz52_1); (try clear hfz52_2); (try clear hfz52_3); (try clear hfz52_4); (try clear hfz52_5); (try clear hfz54_0); (try clear hfz54_1); (try clear hfz54_2); (try clear hfz54_3); (try clear hfz54_4); (try clear hfz54_5)
              obtain ⟨kq, x165002_37, HA, HJ37, BK162, BK164, HB⟩ := hcut
              cases kq with
              | zero => exact absurd HA.out (by simp [jsonlex_Next.j4])
              | succ kj37 =>
               have H := HA.out
               clear HA
               simp only [jsonlex_Next.j4] at H
               by_cases c55 : 0 ≤ t163
               ·rw [if_pos c55] at H
                have c55b0 := eq_true c55
                have c55b1 : decide (0 ≤ t163) = true := decide_eq_true c55
                clear c55
                by_cases c56 : t163 ≤ x165002_37
                ·rw [if_pos c56] at H
                 have c56b0 := eq_true c56
                 have c56b1 : decide (t163 ≤ x165002_37) = true := decide_eq_true c56
                 clear c56
                 by_cases c57 : x165002_37 ≤ (a0.size : Int)
                 ·rw [if_pos c57] at H
                  have c57b0 := eq_true c57
                  have c57b1 : decide (x165002_37 ≤ (a0.size : Int)) = true := decide_eq_true c57
                  clear c57
                  have HC58 := Aside0.mk H
                  clear H; have hnb59 := NB164_162.out; have hnc59 := NB162_164.out; have hcz60_0 : wc.cell? ⟨gb164, 0, none⟩ = some (.int .i64 2) := (blk_cell BK164.out 0).trans rfl; have hcz60_1 : wc.cell? ⟨gb164, 1, none⟩ = some (.int .i64 t163) := (blk_cell BK164.out 1).trans rfl; have hcz60_2 : wc.cell? ⟨gb164, 2, none⟩ = some (.int .i64 x165002_37) := (blk_cell BK164.out 2).trans rfl; have hcz60_3 : wc.cell? ⟨gb164, 3, none⟩ = some (.int .u8 (bt a0 t163)) := (blk_cell BK164.out 3).trans rfl; have hcz60_4 : wc.cell? ⟨gb164, 4, none⟩ = some (.int .i64 0) := (blk_cell BK164.out 4).trans rfl; have hcz60_5 : wc.cell? ⟨gb164, 5, none⟩ = some (.string (⟨#[]⟩ : ByteArray)) := (blk_cell BK164.out 5).trans rfl; have hfz60_0 := blk_frozen BK164.out 0; have hfz60_1 := blk_frozen BK164.out 1; have hfz60_2 := blk_frozen BK164.out 2; have hfz60_3 := blk_frozen BK164.out 3; have hfz60_4 := blk_frozen BK164.out 4; have hfz60_5 := blk_frozen BK164.out 5
                  go_upto_region 17 with (fail)
                  go_cut [116] (fun v116 wc => ∃ (kq : Nat) (x116_57 : Bool), v116 = .bool x116_57 ∧ Aside0 (jsonlex_Next.j5 kq t163 0 x116_57 2 t163 x165002_37 (bt a0 t163) 0 (⟨#[]⟩ : ByteArray) = some (r1, r2, r3, r4, r5, r6, r7, r8)) ∧ Aside0 (kq ≤ kj37) ∧ Aside0 (wc.heap[gb162]? = some (.cells #[.int .i64 0, .int .i64 0, .int .i64 0, .int .u8 0, .int .i64 0, .string (⟨#[]⟩ : ByteArray)] 24 (0, 0))) ∧ Aside0 (wc.heap[gb164]? = some (.cells #[.int .i64 2, .int .i64 t163, .int .i64 x165002_37, .int .u8 (bt a0 t163), .int .i64 0, .string (⟨#[]⟩ : ByteArray)] 24 (0, 0))) ∧ Aside0 (Below w.heap.size w wc))
                  case first =>
                   have H := HC58.out
                   clear HC58
                   by_cases c61 : (a0.extract (t163 : Int).toNat (x165002_37 : Int).toNat).toList = ([110, 117, 108, 108] : List UInt8)
                   ·rw [if_pos c61] at H
                    have c61b0 : ((a0.extract (t163 : Int).toNat (x165002_37 : Int).toNat).toList == ([110, 117, 108, 108] : List UInt8)) = true := beq_iff_eq.mpr c61
                    have c61b1 : ((a0.extract (t163 : Int).toNat (x165002_37 : Int).toNat).toList != ([110, 117, 108, 108] : List UInt8)) = false := bne_eq_false_iff_eq.mpr c61
                    clear c61
                    (first | rw [c61b0] | (simp only [i64_w, i32_w]; rw [c61b0]) | skip)
                    have H' := Aside0.mk H
                    clear H
                    go_wp2
                    go_meet
                    case rel => exact ⟨_, (false), (by first | rfl | (simp; done) | (simp [*]; done)), H', ⟨by have := HJ2.out; have := HJ13.out; have := HJ34.out; have := HJ37.out; first | omega | exact Nat.le_refl _⟩, ⟨by (with_reducible repeat (first | refine bN ?_ _ | refine bD ?_ | refine bA ?_ _)); exact BK162.out⟩, ⟨by (with_reducible repeat (first | refine bN ?_ _ | refine bD ?_ | refine bA ?_ _)); exact BK164.out⟩, ⟨by repeat (first | (with_reducible first | exact HB.out | apply wA | apply wN | apply wD | refine wS ?_ GE162.out | refine wS ?_ GE164.out) | exact HB.out)⟩⟩
                   ·rw [if_neg c61] at H
                    have c61b0 : ((a0.extract (t163 : Int).toNat (x165002_37 : Int).toNat).toList == ([110, 117, 108, 108] : List UInt8)) = false := beq_eq_false_iff_ne.mpr c61
                    have c61b1 : ((a0.extract (t163 : Int).toNat (x165002_37 : Int).toNat).toList != ([110, 117, 108, 108] : List UInt8)) = true := bne_iff_ne.mpr c61
                    (first | rw [c61b0] | (simp only [i64_w, i32_w]; rw [c61b0]) | skip)
                    by_cases c62 : (a0.extract (t163 : Int).toNat (x165002_37 : Int).toNat).toList = ([116, 114, 117, 101] : List UInt8)
                    ·rw [if_pos c62] at H
                     have c62b0 : ((a0.extract (t163 : Int).toNat (x165002_37 : Int).toNat).toList == ([116, 114, 117, 101] : List UInt8)) = true := beq_iff_eq.mpr c62
                     have c62b1 : ((a0.extract (t163 : Int).toNat (x165002_37 : Int).toNat).toList != ([116, 114, 117, 101] : List UInt8)) = false := bne_eq_false_iff_eq.mpr c62
                     clear c62
                     have H' := Aside0.mk H
                     clear H
                     go_wp2
                     go_meet
                     case rel => exact ⟨_, (false), (by first | rfl | (simp; done) | (simp [*]; done)), H', ⟨by have := HJ2.out; have := HJ13.out; have := HJ34.out; have := HJ37.out; first | omega | exact Nat.le_refl _⟩, ⟨by (with_reducible repeat (first | refine bN ?_ _ | refine bD ?_ | refine bA ?_ _)); exact BK162.out⟩, ⟨by (with_reducible repeat (first | refine bN ?_ _ | refine bD ?_ | refine bA ?_ _)); exact BK164.out⟩, ⟨by repeat (first | (with_reducible first | exact HB.out | apply wA | apply wN | apply wD | refine wS ?_ GE162.out | refine wS ?_ GE164.out) | exact HB.out)⟩⟩
                    ·rw [if_neg c62] at H
                     have c62b0 : ((a0.extract (t163 : Int).toNat (x165002_37 : Int).toNat).toList == ([116, 114, 117, 101] : List UInt8)) = false := beq_eq_false_iff_ne.mpr c62
                     have c62b1 : ((a0.extract (t163 : Int).toNat (x165002_37 : Int).toNat).toList != ([116, 114, 117, 101] : List UInt8)) = true := bne_iff_ne.mpr c62
                     have H' := Aside0.mk H
                     clear H
                     go_wp2
                     go_meet
                     case rel => exact ⟨_, (((a0.extract (t163 : Int).toNat (x165002_37 : Int).toNat).toList != ([102, 97, 108, 115, 101] : List UInt8))), (by first | rfl | (simp; done) | (simp [*]; done)), H', ⟨by have := HJ2.out; have := HJ13.out; have := HJ34.out; have := HJ37.out; first | omega | exact Nat.le_refl _⟩, ⟨by (with_reducible repeat (first | refine bN ?_ _ | refine bD ?_ | refine bA ?_ _)); exact BK162.out⟩, ⟨by (with_reducible repeat (first | refine bN ?_ _ | refine bD ?_ | refine bA ?_ _)); exact BK164.out⟩, ⟨by repeat (first | (with_reducible first | exact HB.out | apply wA | apply wN | apply wD | refine wS ?_ GE162.out | refine wS ?_ GE164.out) | exact HB.out)⟩⟩
                  case rest =>
                   clear HC58
                   (try clear c55); (try clear c55b0); (try clear c55b1); (try clear c56); (try clear c56b0); (try clear c56b1); (try clear c57); (try clear c57b0); (try clear c57b1); (try clear c59); (try clear c61); (try clear c61b0); (try clear c61b1); (try clear c62); (try clear c62b0); (try clear c62b1); (try clear hcz60_0); (try clear hcz60_1); (try clear hcz60_2); (try clear hcz60_3); (try clear hcz60_4); (try clear hcz60_5); (try clear hfz60_0); (try clear hfz60_1); (try clear hfz60_2); (try clear hfz60_3); (try clear hfz60_4); (try clear hfz60_5)
                   obtain ⟨kq, x116_57, rfl, HA, HJ57, BK162, BK164, HB⟩ := hcut
                   cases kq with
                   | zero => exact absurd HA.out (by simp [jsonlex_Next.j5])
                   | succ kj57 =>
                    have H := HA.out
                    clear HA
                    simp only [jsonlex_Next.j5] at H
                    by_cases c63 : x116_57 = true
                    ·subst c63
                     have H1 : (some (0, 0, 0, 0, 0, (⟨#[]⟩ : ByteArray), t163, 4)) = some (r1, r2, r3, r4, r5, r6, r7, r8) := by rw [if_pos rfl] at H; exact H
                     clear H; have H := H1; clear H1
                     simp only [Option.some.injEq, Prod.mk.injEq] at H
                     obtain ⟨rfl, rfl, rfl, rfl, rfl, rfl, rfl, rfl⟩ := H
                     have hnb64 := NB162_164.out; have hnc64 := NB164_162.out; have hcz65_0 : wc.cell? ⟨gb162, 0, none⟩ = some (.int .i64 0) := (blk_cell BK162.out 0).trans rfl; have hcz65_1 : wc.cell? ⟨gb162, 1, none⟩ = some (.int .i64 0) := (blk_cell BK162.out 1).trans rfl; have hcz65_2 : wc.cell? ⟨gb162, 2, none⟩ = some (.int .i64 0) := (blk_cell BK162.out 2).trans rfl; have hcz65_3 : wc.cell? ⟨gb162, 3, none⟩ = some (.int .u8 0) := (blk_cell BK162.out 3).trans rfl; have hcz65_4 : wc.cell? ⟨gb162, 4, none⟩ = some (.int .i64 0) := (blk_cell BK162.out 4).trans rfl; have hcz65_5 : wc.cell? ⟨gb162, 5, none⟩ = some (.string (⟨#[]⟩ : ByteArray)) := (blk_cell BK162.out 5).trans rfl; have hfz65_0 := blk_frozen BK162.out 0; have hfz65_1 := blk_frozen BK162.out 1; have hfz65_2 := blk_frozen BK162.out 2; have hfz65_3 := blk_frozen BK162.out 3; have hfz65_4 := blk_frozen BK162.out 4; have hfz65_5 := blk_frozen BK162.out 5
                     go_wp2
                     refine bodyPost_ret (results_ctt rfl _ _ gb162 24 #[.int .i64 0, .int .i64 0, .int .i64 0, .int .u8 0, .int .i64 0, .string (⟨#[]⟩ : ByteArray)] (0, 0) _ rfl (by (with_reducible repeat (first | refine bN ?_ _ | refine bD ?_ | refine bA ?_ _)); refine blk_put (cs := #[.int .i64 0, .int .i64 0, .int .i64 0, .int .u8 0, .int .i64 0, .string (⟨#[]⟩ : ByteArray)]) ?_ 5 _ rfl; (with_reducible repeat (first | refine bN ?_ _ | refine bD ?_ | refine bA ?_ _)); refine blk_put (cs := #[.int .i64 0, .int .i64 0, .int .i64 0, .int .u8 0, .int .i64 0, .string (⟨#[]⟩ : ByteArray)]) ?_ 4 _ rfl; (with_reducible repeat (first | refine bN ?_ _ | refine bD ?_ | refine bA ?_ _)); refine blk_put (cs := #[.int .i64 0, .int .i64 0, .int .i64 0, .int .u8 0, .int .i64 0, .string (⟨#[]⟩ : ByteArray)]) ?_ 3 _ rfl; (with_reducible repeat (first | refine bN ?_ _ | refine bD ?_ | refine bA ?_ _)); refine blk_put (cs := #[.int .i64 0, .int .i64 0, .int .i64 0, .int .u8 0, .int .i64 0, .string (⟨#[]⟩ : ByteArray)]) ?_ 2 _ rfl; (with_reducible repeat (first | refine bN ?_ _ | refine bD ?_ | refine bA ?_ _)); refine blk_put (cs := #[.int .i64 0, .int .i64 0, .int .i64 0, .int .u8 0, .int .i64 0, .string (⟨#[]⟩ : ByteArray)]) ?_ 1 _ rfl; (with_reducible repeat (first | refine bN ?_ _ | refine bD ?_ | refine bA ?_ _)); refine blk_put (cs := #[.int .i64 0, .int .i64 0, .int .i64 0, .int .u8 0, .int .i64 0, .string (⟨#[]⟩ : ByteArray)]) ?_ 0 _ rfl; (with_reducible repeat (first | refine bN ?_ _ | refine bD ?_ | refine bA ?_ _)); exact BK162.out) Try.underlying24 rfl (by kernel_rfl)) rfl ?_
                     exact ⟨by first | rfl | (simp [errW_none, errW_some] <;> rfl) | (simp [*, errW_none, errW_some] <;> rfl), by repeat (first | (with_reducible first | exact HB.out | apply wA | apply wN | apply wD | refine wS ?_ GE162.out | refine wS ?_ GE164.out) | exact HB.out)⟩
                    ·replace c63 := Bool.eq_false_iff.mpr c63
                     subst c63
                     have H1 : (if 0 = 0 then (some (2, t163, x165002_37, (bt a0 t163), 0, (⟨#[]⟩ : ByteArray), x165002_37, 0)) else (some (0, 0, 0, 0, 0, (⟨#[]⟩ : ByteArray), x165002_37, 0))) = some (r1, r2, r3, r4, r5, r6, r7, r8) := by rw [if_neg (show ¬ (false = true) by decide)] at H; exact H
                     clear H; have H := H1; clear H1
                     by_cases c66 : 0 = 0
                     ·rw [if_pos c66] at H
                      have c66b0 : (0 == 0) = true := beq_iff_eq.mpr c66
                      have c66b1 : (0 != 0) = false := bne_eq_false_iff_eq.mpr c66
                      clear c66
                      simp only [Option.some.injEq, Prod.mk.injEq] at H
                      obtain ⟨rfl, rfl, rfl, rfl, rfl, rfl, rfl, rfl⟩ := H
                      try go_wp2
                      have n0_ := Aside0.mk (blk_drew BK162.out)
                      have n1_ := Aside0.mk (blk_drew BK164.out)
                      have n2_ := Aside0.mk (below_drew1 HB.out)
                      clear BK162
                      clear BK164
                      clear HB
                      have BK162 := n0_
                      have BK164 := n1_
                      have HB := n2_
                      clear n0_ n1_ n2_
                      refine start_ (n := 6) (S := fun w' => w'.cell? ⟨gb164, 0, none⟩ = some (.int .i64 2) ∧ w'.cell? ⟨gb164, 1, none⟩ = some (.int .i64 t163) ∧ w'.cell? ⟨gb164, 2, none⟩ = some (.int .i64 x165002_37) ∧ w'.cell? ⟨gb164, 3, none⟩ = some (.int .u8 (bt a0 t163)) ∧ w'.cell? ⟨gb164, 4, none⟩ = some (.int .i64 0) ∧ w'.cell? ⟨gb164, 5, none⟩ = some (.string (⟨#[]⟩ : ByteArray))) (ds := []) #[false, false, false, false, false, false] (by kernel_rfl) rfl rfl ⟨(blk_cell BK164.out 0).trans rfl, (blk_cell BK164.out 1).trans rfl, (blk_cell BK164.out 2).trans rfl, (blk_cell BK164.out 3).trans rfl, (blk_cell BK164.out 4).trans rfl, (blk_cell BK164.out 5).trans rfl⟩ (fun hHeld => ?_)
                      generalize wc.drew = w67 at BK162 BK164 HB hHeld ⊢
                      refine pure_ (i := 1) (N := some 156) (v := ?_) (a' := ?_) #[false, true, false, false, false, false] rfl rfl (by kernel_rfl) (fun _ _ _ h => h) (Or.inl ⟨by rfl, ?_⟩) ?_ ?_
                      rotate_left
                      ·intro w'
                       go_simp
                       with_reducible rfl
                      rotate_left
                      ·simp only [Act.put, List.setIfInBounds_toArray, List.set_cons_zero, List.set_cons_succ, i64_w, i32_w]
                       rfl
                      refine take_ (i := 0) (N := some 155) (v := ?_) (a' := ?_) #[true, true, false, false, false, false] rfl rfl (by kernel_rfl) (fun _ _ _ h => h) (Or.inl ⟨by rfl, ?_⟩) hHeld ?_ ?_
                      rotate_left
                      ·rintro w' ⟨s0, s1, s2, s3, s4, s5⟩
                       go_simp
                       with_reducible rfl
                      rotate_left
                      ·simp only [Act.put, List.setIfInBounds_toArray, List.set_cons_zero, List.set_cons_succ, i64_w, i32_w]
                       rfl
                      refine take_ (i := 2) (N := some 157) (v := ?_) (a' := ?_) #[true, true, true, false, false, false] rfl rfl (by kernel_rfl) (fun _ _ _ h => h) (Or.inl ⟨by rfl, ?_⟩) hHeld ?_ ?_
                      rotate_left
                      ·rintro w' ⟨s0, s1, s2, s3, s4, s5⟩
                       go_simp
                       with_reducible rfl
                      rotate_left
                      ·simp only [Act.put, List.setIfInBounds_toArray, List.set_cons_zero, List.set_cons_succ, i64_w, i32_w]
                       rfl
                      refine one_ (i := 3) (N := none) #[true, true, true, true, false, false] rfl rfl (by kernel_rfl) (by decide) (fun K hK => ?_)
                      have hs68 : w67.cell? ⟨gb162, 0, none⟩ = some (.int .i64 0) := (blk_cell BK162.out 0).trans rfl
                      have hfs68 := blk_frozen BK162.out 0
                      have hns68_1 := NB164_162.out
                      have hms68_1 := NB162_164.out
                      have hs69 : w67.cell? ⟨gb162, 1, none⟩ = some (.int .i64 0) := (blk_cell BK162.out 1).trans rfl
                      have hfs69 := blk_frozen BK162.out 1
                      have hns69_1 := NB164_162.out
                      have hms69_1 := NB162_164.out
                      have hs70 : w67.cell? ⟨gb162, 2, none⟩ = some (.int .i64 0) := (blk_cell BK162.out 2).trans rfl
                      have hfs70 := blk_frozen BK162.out 2
                      have hns70_1 := NB164_162.out
                      have hms70_1 := NB162_164.out
                      have hs71 : w67.cell? ⟨gb162, 3, none⟩ = some (.int .u8 0) := (blk_cell BK162.out 3).trans rfl
                      have hfs71 := blk_frozen BK162.out 3
                      have hns71_1 := NB164_162.out
                      have hms71_1 := NB162_164.out
                      have hs72 : w67.cell? ⟨gb162, 4, none⟩ = some (.int .i64 0) := (blk_cell BK162.out 4).trans rfl
                      have hfs72 := blk_frozen BK162.out 4
                      have hns72_1 := NB164_162.out
                      have hms72_1 := NB162_164.out
                      have hs73 : w67.cell? ⟨gb162, 5, none⟩ = some (.string (⟨#[]⟩ : ByteArray)) := (blk_cell BK162.out 5).trans rfl
                      have hfs73 := blk_frozen BK162.out 5
                      have hns73_1 := NB164_162.out
                      have hms73_1 := NB162_164.out
                      refine skip_ (w1 := ?_) (by rfl) rfl ?_ ?_
                      rotate_left
                      ·go_simp
                       rfl
                      refine hK.out _ _ ⟨((cell_far (p := ⟨gb162, _, none⟩) NB164_162.out _).trans (((cell_far (p := ⟨gb162, _, none⟩) NB164_162.out _).trans (((cell_far (p := ⟨gb162, _, none⟩) NB164_162.out _).trans (((cell_far (p := ⟨gb162, _, none⟩) NB164_162.out _).trans (((cell_far (p := ⟨gb162, _, none⟩) NB164_162.out _).trans (((cell_far (p := ⟨gb162, _, none⟩) NB164_162.out _).trans (hHeld.1)))))))))))), ((cell_far (p := ⟨gb162, _, none⟩) NB164_162.out _).trans (((cell_far (p := ⟨gb162, _, none⟩) NB164_162.out _).trans (((cell_far (p := ⟨gb162, _, none⟩) NB164_162.out _).trans (((cell_far (p := ⟨gb162, _, none⟩) NB164_162.out _).trans (((cell_far (p := ⟨gb162, _, none⟩) NB164_162.out _).trans (((cell_far (p := ⟨gb162, _, none⟩) NB164_162.out _).trans (hHeld.2.1)))))))))))), ((cell_far (p := ⟨gb162, _, none⟩) NB164_162.out _).trans (((cell_far (p := ⟨gb162, _, none⟩) NB164_162.out _).trans (((cell_far (p := ⟨gb162, _, none⟩) NB164_162.out _).trans (((cell_far (p := ⟨gb162, _, none⟩) NB164_162.out _).trans (((cell_far (p := ⟨gb162, _, none⟩) NB164_162.out _).trans (((cell_far (p := ⟨gb162, _, none⟩) NB164_162.out _).trans (hHeld.2.2.1)))))))))))), ((cell_far (p := ⟨gb162, _, none⟩) NB164_162.out _).trans (((cell_far (p := ⟨gb162, _, none⟩) NB164_162.out _).trans (((cell_far (p := ⟨gb162, _, none⟩) NB164_162.out _).trans (((cell_far (p := ⟨gb162, _, none⟩) NB164_162.out _).trans (((cell_far (p := ⟨gb162, _, none⟩) NB164_162.out _).trans (((cell_far (p := ⟨gb162, _, none⟩) NB164_162.out _).trans (hHeld.2.2.2.1)))))))))))), ((cell_far (p := ⟨gb162, _, none⟩) NB164_162.out _).trans (((cell_far (p := ⟨gb162, _, none⟩) NB164_162.out _).trans (((cell_far (p := ⟨gb162, _, none⟩) NB164_162.out _).trans (((cell_far (p := ⟨gb162, _, none⟩) NB164_162.out _).trans (((cell_far (p := ⟨gb162, _, none⟩) NB164_162.out _).trans (((cell_far (p := ⟨gb162, _, none⟩) NB164_162.out _).trans (hHeld.2.2.2.2.1)))))))))))), ((cell_far (p := ⟨gb162, _, none⟩) NB164_162.out _).trans (((cell_far (p := ⟨gb162, _, none⟩) NB164_162.out _).trans (((cell_far (p := ⟨gb162, _, none⟩) NB164_162.out _).trans (((cell_far (p := ⟨gb162, _, none⟩) NB164_162.out _).trans (((cell_far (p := ⟨gb162, _, none⟩) NB164_162.out _).trans (((cell_far (p := ⟨gb162, _, none⟩) NB164_162.out _).trans (hHeld.2.2.2.2.2))))))))))))⟩ (fun hHeld => ?_)
                      clear hK K
                      refine pure_ (i := 4) (N := some 5) (v := ?_) (a' := ?_) #[true, true, true, true, true, false] rfl rfl (by kernel_rfl) (fun _ _ _ h => h) (Or.inl ⟨by rfl, ?_⟩) ?_ ?_
                      rotate_left
                      ·intro w'
                       go_simp
                       with_reducible rfl
                      rotate_left
                      ·simp only [Act.put, List.setIfInBounds_toArray, List.set_cons_zero, List.set_cons_succ, i64_w, i32_w]
                       rfl
                      refine pure_ (i := 5) (N := some 6) (v := ?_) (a' := ?_) #[true, true, true, true, true, true] rfl rfl (by kernel_rfl) (fun _ _ _ h => h) (Or.inl ⟨by rfl, ?_⟩) ?_ ?_
                      rotate_left
                      ·intro w'
                       go_simp
                       with_reducible rfl
                      rotate_left
                      ·simp only [Act.put, List.setIfInBounds_toArray, List.set_cons_zero, List.set_cons_succ, i64_w, i32_w]
                       rfl
                      refine done_ (by kernel_rfl) ?_
                      try go_wp2
                      refine bodyPost_ret (results_ctt rfl _ _ gb162 24 #[.int .i64 2, .int .i64 t163, .int .i64 x165002_37, .int .u8 (bt a0 t163), .int .i64 0, .string (⟨#[]⟩ : ByteArray)] (0, 0) _ rfl (by (with_reducible repeat (first | refine bN ?_ _ | refine bD ?_ | refine bA ?_ _)); refine blk_put (cs := #[.int .i64 2, .int .i64 t163, .int .i64 x165002_37, .int .u8 (bt a0 t163), .int .i64 0, .string (⟨#[]⟩ : ByteArray)]) ?_ 5 _ rfl; (with_reducible repeat (first | refine bN ?_ _ | refine bD ?_ | refine bA ?_ _)); refine blk_put (cs := #[.int .i64 2, .int .i64 t163, .int .i64 x165002_37, .int .u8 (bt a0 t163), .int .i64 0, .string (⟨#[]⟩ : ByteArray)]) ?_ 4 _ rfl; (with_reducible repeat (first | refine bN ?_ _ | refine bD ?_ | refine bA ?_ _)); refine blk_put (cs := #[.int .i64 2, .int .i64 t163, .int .i64 x165002_37, .int .u8 0, .int .i64 0, .string (⟨#[]⟩ : ByteArray)]) ?_ 3 _ rfl; (with_reducible repeat (first | refine bN ?_ _ | refine bD ?_ | refine bA ?_ _)); refine blk_put (cs := #[.int .i64 2, .int .i64 t163, .int .i64 0, .int .u8 0, .int .i64 0, .string (⟨#[]⟩ : ByteArray)]) ?_ 2 _ rfl; (with_reducible repeat (first | refine bN ?_ _ | refine bD ?_ | refine bA ?_ _)); refine blk_put (cs := #[.int .i64 2, .int .i64 0, .int .i64 0, .int .u8 0, .int .i64 0, .string (⟨#[]⟩ : ByteArray)]) ?_ 1 _ rfl; (with_reducible repeat (first | refine bN ?_ _ | refine bD ?_ | refine bA ?_ _)); refine blk_put (cs := #[.int .i64 0, .int .i64 0, .int .i64 0, .int .u8 0, .int .i64 0, .string (⟨#[]⟩ : ByteArray)]) ?_ 0 _ rfl; (with_reducible repeat (first | refine bN ?_ _ | refine bD ?_ | refine bA ?_ _)); exact BK162.out) Try.underlying24 rfl (by kernel_rfl)) rfl ?_
                      exact ⟨by first | rfl | (simp [errW_none, errW_some] <;> rfl) | (simp [*, errW_none, errW_some] <;> rfl), by repeat (first | (with_reducible first | exact HB.out | apply wA | apply wN | apply wD | refine wS ?_ GE162.out | refine wS ?_ GE164.out) | exact HB.out)⟩
                     ·exact absurd rfl c66
                 ·rw [if_neg c57] at H
                  exact absurd H (by simp)
                ·rw [if_neg c56] at H
                 exact absurd H (by simp)
               ·rw [if_neg c55] at H
                exact absurd H (by simp)
            ·replace c37 := Bool.eq_false_iff.mpr c37
             subst c37
             have H1 : (if (bt a0 t163) = 45 then (jsonlex_Next.j6 kj34 a0 t163 (bt a0 t163) true 0 t163 0 0 0 (⟨#[]⟩ : ByteArray)) else ((jsonlex_digit.f (bt a0 t163)).bind fun t165 => (jsonlex_Next.j6 kj34 a0 t163 (bt a0 t163) t165 0 t163 0 0 0 (⟨#[]⟩ : ByteArray)))) = some (r1, r2, r3, r4, r5, r6, r7, r8) := by rw [if_neg (show ¬ (false = true) by decide)] at H; exact H
             clear H; have H := H1; clear H1
             have HC74 := Aside0.mk H
             clear H
             go_upto_region 19 with (fail)
             go_cut [119] (fun v119 wc => ∃ (kq : Nat) (x119_73 : Bool), v119 = .bool x119_73 ∧ Aside0 (jsonlex_Next.j6 kq a0 t163 (bt a0 t163) x119_73 0 t163 0 0 0 (⟨#[]⟩ : ByteArray) = some (r1, r2, r3, r4, r5, r6, r7, r8)) ∧ Aside0 (kq ≤ kj34) ∧ Aside0 (wc.heap[gb162]? = some (.cells #[.int .i64 0, .int .i64 0, .int .i64 0, .int .u8 0, .int .i64 0, .string (⟨#[]⟩ : ByteArray)] 24 (0, 0))) ∧ Aside0 (wc.heap[gb164]? = some (.cells #[.int .i64 0, .int .i64 t163, .int .i64 0, .int .u8 0, .int .i64 0, .string (⟨#[]⟩ : ByteArray)] 24 (0, 0))) ∧ Aside0 (Below w.heap.size w wc))
             case first =>
              have H := HC74.out
              clear HC74
              by_cases c75 : (bt a0 t163) = 45
              ·rw [if_pos c75] at H
               have c75b0 : ((bt a0 t163) == 45) = true := beq_iff_eq.mpr c75
               have c75b1 : ((bt a0 t163) != 45) = false := bne_eq_false_iff_eq.mpr c75
               clear c75
               (first | rw [c75b0] | (simp only [i64_w, i32_w]; rw [c75b0]) | skip)
               have H' := Aside0.mk H
               clear H
               go_wp2
               go_meet
               case rel => exact ⟨_, (true), (by first | rfl | (simp; done) | (simp [*]; done)), H', ⟨by have := HJ2.out; have := HJ13.out; have := HJ34.out; first | omega | exact Nat.le_refl _⟩, ⟨by (with_reducible repeat (first | refine bN ?_ _ | refine bD ?_ | refine bA ?_ _)); exact BK162.out⟩, ⟨by (with_reducible repeat (first | refine bN ?_ _ | refine bD ?_ | refine bA ?_ _)); exact BK164.out⟩, ⟨by repeat (first | (with_reducible first | exact HB.out | apply wA | apply wN | apply wD | refine wS ?_ GE162.out | refine wS ?_ GE164.out) | exact HB.out)⟩⟩
              ·rw [if_neg c75] at H
               have c75b0 : ((bt a0 t163) == 45) = false := beq_eq_false_iff_ne.mpr c75
               have c75b1 : ((bt a0 t163) != 45) = true := bne_iff_ne.mpr c75
               (first | rw [c75b0] | (simp only [i64_w, i32_w]; rw [c75b0]) | skip)
               replace H := Option.bind_eq_some_iff.mp H
               obtain ⟨t165, A760, H⟩ := H
               replace H : (jsonlex_Next.j6 kj34 a0 t163 (bt a0 t163) t165 0 t163 0 0 0 (⟨#[]⟩ : ByteArray)) = some (r1, r2, r3, r4, r5, r6, r7, r8) := H
               have A76 := Aside0.mk A760
               clear A760
               have H' := Aside0.mk H
               clear H
               go_wp2_with (first | (go_at_call 19; (with_reducible refine (jsonlex_digit.calls (bt a0 t163) t165 _ A76.out).mono ?_); rintro e w' ⟨rfl, ⟨nd, rfl⟩⟩))
               go_meet
               case rel => exact ⟨_, (t165), (by first | rfl | (simp; done) | (simp [*]; done)), H', ⟨by have := HJ2.out; have := HJ13.out; have := HJ34.out; first | omega | exact Nat.le_refl _⟩, ⟨by (with_reducible repeat (first | refine bN ?_ _ | refine bD ?_ | refine bA ?_ _)); exact BK162.out⟩, ⟨by (with_reducible repeat (first | refine bN ?_ _ | refine bD ?_ | refine bA ?_ _)); exact BK164.out⟩, ⟨by repeat (first | (with_reducible first | exact HB.out | apply wA | apply wN | apply wD | refine wS ?_ GE162.out | refine wS ?_ GE164.out) | exact HB.out)⟩⟩
             case rest =>
              clear HC74
              (try clear c4); (try clear p4); (try clear q4); (try clear hx4); (try clear c7); (try clear c37); (try clear c39); (try clear c41); (try clear c41b0); (try clear c42); (try clear c42b0); (try clear p43); (try clear q43); (try clear hx43); (try clear c44); (try clear c44b0); (try clear p45); (try clear q45); (try clear hx45); (try clear c46); (try clear c46b0); (try clear c47); (try clear c49); (try clear c51); (try clear c53); (try clear c55); (try clear c55b0); (try clear c55b1); (try clear c56); (try clear c56b0); (try clear c56b1); (try clear c57); (try clear c57b0); (try clear c57b1); (try clear c59); (try clear c61); (try clear c61b0); (try clear c61b1); (try clear c62); (try clear c62b0); (try clear c62b1); (try clear c63); (try clear c64); (try clear c66); (try clear c66b0); (try clear c66b1); (try clear c75); (try clear c75b0); (try clear c75b1); (try clear hcz40_0); (try clear hcz40_1); (try clear hcz40_2); (try clear hcz40_3); (try clear hcz40_4); (try clear hcz40_5); (try clear hcz48_0); (try clear hcz48_1); (try clear hcz48_2); (try clear hcz48_3); (try clear hcz48_4); (try clear hcz48_5); (try clear hcz50_0); (try clear hcz50_1); (try clear hcz50_2); (try clear hcz50_3); (try clear hcz50_4); (try clear hcz50_5); (try clear hcz52_0); (try clear hcz52_1); (try clear hcz52_2); (try clear hcz52_3); (try clear hcz52_4); (try clear hcz52_5); (try clear hcz54_0); (try clear hcz54_1); (try clear hcz54_2); (try clear hcz54_3); (try clear hcz54_4); (try clear hcz54_5); (try clear hcz60_0); (try clear hcz60_1); (try clear hcz60_2); (try clear hcz60_3); (try clear hcz60_4); (try clear hcz60_5); (try clear hcz65_0); (try clear hcz65_1); (try clear hcz65_2); (try clear hcz65_3); (try clear hcz65_4); (try clear hcz65_5); (try clear hfz40_0); (try clear hfz40_1); (try clear hfz40_2); (try clear hfz40_3); (try clear hfz40_4); (try clear hfz40_5); (try clear hfz48_0); (try clear hfz48_1); (try clear hfz48_2); (try clear hfz48_3); (try clear hfz48_4); (try clear hfz48_5); (try clear hfz50_0); (try clear hfz50_1); (try clear hfz50_2); (try clear hfz50_3); (try clear hfz50_4); (try clear hfz50_5); (try clear hfz52_0); (try clear hfz52_1); (try clear hfz52_2); (try clear hfz52_3); (try clear hfz52_4); (try clear hfz52_5); (try clear hfz54_0); (try clear hfz54_1); (try clear hfz54_2); (try clear hfz54_3); (try clear hfz54_4); (try clear hfz54_5); (try clear hfz60_0); (try clear hfz60_1); (try clear hfz60_2); (try clear hfz60_3); (try clear hfz60_4); (try clear hfz60_5); (try clear hfz65_0); (try clear hfz65_1); (try clear hfz65_2); (try clear hfz65_3); (try clear hfz65_4); (try clear hfz65_5)
              obtain ⟨kq, x119_73, rfl, HA, HJ73, BK162, BK164, HB⟩ := hcut
              cases kq with
              | zero => exact absurd HA.out (by simp [jsonlex_Next.j6])
              | succ kj73 =>
               have H := HA.out
               clear HA
               simp only [jsonlex_Next.j6] at H
               by_cases c77 : x119_73 = true
               ·subst c77
                have H1 : ((jsonlex_number.f kj73 a0 t163).bind fun bt166 => (if bt166.2.2 = 0 then (some (3, t163, bt166.2.1, 0, bt166.1, (⟨#[]⟩ : ByteArray), bt166.2.1, 0)) else (some (0, 0, 0, 0, 0, (⟨#[]⟩ : ByteArray), bt166.2.1, bt166.2.2)))) = some (r1, r2, r3, r4, r5, r6, r7, r8) := by rw [if_pos rfl] at H; exact H
                clear H; have H := H1; clear H1
                replace H := Option.bind_eq_some_iff.mp H
                obtain ⟨⟨t166, t167, t168⟩, A780, H⟩ := H
                replace H : (if t168 = 0 then (some (3, t163, t167, 0, t166, (⟨#[]⟩ : ByteArray), t167, 0)) else (some (0, 0, 0, 0, 0, (⟨#[]⟩ : ByteArray), t167, t168))) = some (r1, r2, r3, r4, r5, r6, r7, r8) := H
                have A78 := Aside0.mk A780
                clear A780
                by_cases c79 : t168 = 0
                ·rw [if_pos c79] at H
                 have c79b0 : (t168 == 0) = true := beq_iff_eq.mpr c79
                 have c79b1 : (t168 != 0) = false := bne_eq_false_iff_eq.mpr c79
                 clear c79
                 simp only [Option.some.injEq, Prod.mk.injEq] at H
                 obtain ⟨rfl, rfl, rfl, rfl, rfl, rfl, rfl, rfl⟩ := H
                 have hnb80 := NB164_162.out; have hnc80 := NB162_164.out; have hcz81_0 : wc.cell? ⟨gb164, 0, none⟩ = some (.int .i64 0) := (blk_cell BK164.out 0).trans rfl; have hcz81_1 : wc.cell? ⟨gb164, 1, none⟩ = some (.int .i64 t163) := (blk_cell BK164.out 1).trans rfl; have hcz81_2 : wc.cell? ⟨gb164, 2, none⟩ = some (.int .i64 0) := (blk_cell BK164.out 2).trans rfl; have hcz81_3 : wc.cell? ⟨gb164, 3, none⟩ = some (.int .u8 0) := (blk_cell BK164.out 3).trans rfl; have hcz81_4 : wc.cell? ⟨gb164, 4, none⟩ = some (.int .i64 0) := (blk_cell BK164.out 4).trans rfl; have hcz81_5 : wc.cell? ⟨gb164, 5, none⟩ = some (.string (⟨#[]⟩ : ByteArray)) := (blk_cell BK164.out 5).trans rfl; have hfz81_0 := blk_frozen BK164.out 0; have hfz81_1 := blk_frozen BK164.out 1; have hfz81_2 := blk_frozen BK164.out 2; have hfz81_3 := blk_frozen BK164.out 3; have hfz81_4 := blk_frozen BK164.out 4; have hfz81_5 := blk_frozen BK164.out 5
                 try go_wp2_with (first | ((with_reducible refine gate_callee (f := 20) rfl ?_); refine goesL_ (some 130) rfl rfl Try.func20 (by kernel_rfl) rfl #[.string a0, .int .i64 t163] rfl (by (try simp only [List.map_toArray, List.map_cons, List.map_nil]); first | done | rfl | (simp only [List.length_drop, List.length_take]; rfl)) ?_; (with_reducible refine (jsonlex_number.calls kj73 a0 t163 t166 t167 t168 _ A78.out).mono ?_); rintro e w' ⟨rfl, ⟨nd, rfl⟩⟩; refine ⟨_, rfl, ?_⟩))
                 have n0_ : Aside0 ((((wc.setCell ⟨gb164, 0, none⟩ (.int .i64 3)).setCell ⟨gb164, 4, none⟩ (.int .i64 t166)).setCell ⟨gb164, 2, none⟩ (.int .i64 t167)).heap[gb162]? = some (.cells #[.int .i64 0, .int .i64 0, .int .i64 0, .int .u8 0, .int .i64 0, .string (⟨#[]⟩ : ByteArray)] 24 (0, 0))) := ⟨by (with_reducible repeat (first | refine bN ?_ _ | refine bD ?_ | refine bA ?_ _ | refine blk_far ?_ NB162_164.out _)); exact BK162.out⟩
                 have n1_ : Aside0 ((((wc.setCell ⟨gb164, 0, none⟩ (.int .i64 3)).setCell ⟨gb164, 4, none⟩ (.int .i64 t166)).setCell ⟨gb164, 2, none⟩ (.int .i64 t167)).heap[gb164]? = some (.cells #[.int .i64 3, .int .i64 t163, .int .i64 t167, .int .u8 0, .int .i64 t166, .string (⟨#[]⟩ : ByteArray)] 24 (0, 0))) := ⟨by (with_reducible repeat (first | refine bN ?_ _ | refine bD ?_ | refine bA ?_ _)); refine blk_put (cs := #[.int .i64 3, .int .i64 t163, .int .i64 0, .int .u8 0, .int .i64 t166, .string (⟨#[]⟩ : ByteArray)]) ?_ 2 _ rfl; (with_reducible repeat (first | refine bN ?_ _ | refine bD ?_ | refine bA ?_ _)); refine blk_put (cs := #[.int .i64 3, .int .i64 t163, .int .i64 0, .int .u8 0, .int .i64 0, .string (⟨#[]⟩ : ByteArray)]) ?_ 4 _ rfl; (with_reducible repeat (first | refine bN ?_ _ | refine bD ?_ | refine bA ?_ _)); refine blk_put (cs := #[.int .i64 0, .int .i64 t163, .int .i64 0, .int .u8 0, .int .i64 0, .string (⟨#[]⟩ : ByteArray)]) ?_ 0 _ rfl; (with_reducible repeat (first | refine bN ?_ _ | refine bD ?_ | refine bA ?_ _)); exact BK164.out⟩
                 have n2_ : Aside0 (Below w.heap.size w (((wc.setCell ⟨gb164, 0, none⟩ (.int .i64 3)).setCell ⟨gb164, 4, none⟩ (.int .i64 t166)).setCell ⟨gb164, 2, none⟩ (.int .i64 t167))) := ⟨by repeat (first | (with_reducible first | exact HB.out | apply wA | apply wN | apply wD | refine wS ?_ GE162.out | refine wS ?_ GE164.out) | exact HB.out)⟩
                 (try clear BK162); (try clear BK164); (try clear HB)
                 (repeat rw [setCell_drewN])
                 generalize (((wc.setCell ⟨gb164, 0, none⟩ (.int .i64 3)).setCell ⟨gb164, 4, none⟩ (.int .i64 t166)).setCell ⟨gb164, 2, none⟩ (.int .i64 t167)) = w82 at n0_ n1_ n2_ ⊢
                 have BK162 := n0_
                 have BK164 := n1_
                 have HB := n2_
                 clear n0_ n1_ n2_
                 (try (rw [drewN_self w82]; generalize hq_ : World.drewN w82 _ = w82; have n0_ : Aside0 (w82.heap[gb162]? = some (.cells #[.int .i64 0, .int .i64 0, .int .i64 0, .int .u8 0, .int .i64 0, .string (⟨#[]⟩ : ByteArray)] 24 (0, 0))) := ⟨by rw [← hq_]; exact (by (with_reducible repeat (first | refine bN ?_ _ | refine bD ?_ | refine bA ?_ _)); exact BK162.out)⟩; have n1_ : Aside0 (w82.heap[gb164]? = some (.cells #[.int .i64 3, .int .i64 t163, .int .i64 t167, .int .u8 0, .int .i64 t166, .string (⟨#[]⟩ : ByteArray)] 24 (0, 0))) := ⟨by rw [← hq_]; exact (by (with_reducible repeat (first | refine bN ?_ _ | refine bD ?_ | refine bA ?_ _)); exact BK164.out)⟩; have n2_ : Aside0 (Below w.heap.size w w82) := ⟨by rw [← hq_]; exact (by repeat (first | (with_reducible first | exact HB.out | apply wA | apply wN | apply wD | refine wS ?_ GE162.out | refine wS ?_ GE164.out) | exact HB.out))⟩; clear BK162 BK164 HB hq_; have BK162 := n0_; have BK164 := n1_; have HB := n2_; clear n0_ n1_ n2_))
                 have n0_ := Aside0.mk (blk_drew BK162.out)
                 have n1_ := Aside0.mk (blk_drew BK164.out)
                 have n2_ := Aside0.mk (below_drew1 HB.out)
                 clear BK162
                 clear BK164
                 clear HB
                 have BK162 := n0_
                 have BK164 := n1_
                 have HB := n2_
                 clear n0_ n1_ n2_
                 refine start_ (n := 6) (S := fun w' => w'.cell? ⟨gb164, 0, none⟩ = some (.int .i64 3) ∧ w'.cell? ⟨gb164, 1, none⟩ = some (.int .i64 t163) ∧ w'.cell? ⟨gb164, 2, none⟩ = some (.int .i64 t167) ∧ w'.cell? ⟨gb164, 3, none⟩ = some (.int .u8 0) ∧ w'.cell? ⟨gb164, 4, none⟩ = some (.int .i64 t166) ∧ w'.cell? ⟨gb164, 5, none⟩ = some (.string (⟨#[]⟩ : ByteArray))) (ds := []) #[false, false, false, false, false, false] (by kernel_rfl) rfl rfl ⟨(blk_cell BK164.out 0).trans rfl, (blk_cell BK164.out 1).trans rfl, (blk_cell BK164.out 2).trans rfl, (blk_cell BK164.out 3).trans rfl, (blk_cell BK164.out 4).trans rfl, (blk_cell BK164.out 5).trans rfl⟩ (fun hHeld => ?_)
                 generalize w82.drew = w83 at BK162 BK164 HB hHeld ⊢
                 refine pure_ (i := 1) (N := some 156) (v := ?_) (a' := ?_) #[false, true, false, false, false, false] rfl rfl (by kernel_rfl) (fun _ _ _ h => h) (Or.inl ⟨by rfl, ?_⟩) ?_ ?_
                 rotate_left
                 ·intro w'
                  go_simp
                  with_reducible rfl
                 rotate_left
                 ·simp only [Act.put, List.setIfInBounds_toArray, List.set_cons_zero, List.set_cons_succ, i64_w, i32_w]
                  rfl
                 refine take_ (i := 0) (N := some 155) (v := ?_) (a' := ?_) #[true, true, false, false, false, false] rfl rfl (by kernel_rfl) (fun _ _ _ h => h) (Or.inl ⟨by rfl, ?_⟩) hHeld ?_ ?_
                 rotate_left
                 ·rintro w' ⟨s0, s1, s2, s3, s4, s5⟩
                  go_simp
                  with_reducible rfl
                 rotate_left
                 ·simp only [Act.put, List.setIfInBounds_toArray, List.set_cons_zero, List.set_cons_succ, i64_w, i32_w]
                  rfl
                 refine take_ (i := 2) (N := some 157) (v := ?_) (a' := ?_) #[true, true, true, false, false, false] rfl rfl (by kernel_rfl) (fun _ _ _ h => h) (Or.inl ⟨by rfl, ?_⟩) hHeld ?_ ?_
                 rotate_left
                 ·rintro w' ⟨s0, s1, s2, s3, s4, s5⟩
                  go_simp
                  with_reducible rfl
                 rotate_left
                 ·simp only [Act.put, List.setIfInBounds_toArray, List.set_cons_zero, List.set_cons_succ, i64_w, i32_w]
                  rfl
                 refine one_ (i := 3) (N := none) #[true, true, true, true, false, false] rfl rfl (by kernel_rfl) (by decide) (fun K hK => ?_)
                 have hs84 : w83.cell? ⟨gb162, 0, none⟩ = some (.int .i64 0) := (blk_cell BK162.out 0).trans rfl
                 have hfs84 := blk_frozen BK162.out 0
                 have hns84_1 := NB164_162.out
                 have hms84_1 := NB162_164.out
                 have hs85 : w83.cell? ⟨gb162, 1, none⟩ = some (.int .i64 0) := (blk_cell BK162.out 1).trans rfl
                 have hfs85 := blk_frozen BK162.out 1
                 have hns85_1 := NB164_162.out
                 have hms85_1 := NB162_164.out
                 have hs86 : w83.cell? ⟨gb162, 2, none⟩ = some (.int .i64 0) := (blk_cell BK162.out 2).trans rfl
                 have hfs86 := blk_frozen BK162.out 2
                 have hns86_1 := NB164_162.out
                 have hms86_1 := NB162_164.out
                 have hs87 : w83.cell? ⟨gb162, 3, none⟩ = some (.int .u8 0) := (blk_cell BK162.out 3).trans rfl
                 have hfs87 := blk_frozen BK162.out 3
                 have hns87_1 := NB164_162.out
                 have hms87_1 := NB162_164.out
                 have hs88 : w83.cell? ⟨gb162, 4, none⟩ = some (.int .i64 0) := (blk_cell BK162.out 4).trans rfl
                 have hfs88 := blk_frozen BK162.out 4
                 have hns88_1 := NB164_162.out
                 have hms88_1 := NB162_164.out
                 have hs89 : w83.cell? ⟨gb162, 5, none⟩ = some (.string (⟨#[]⟩ : ByteArray)) := (blk_cell BK162.out 5).trans rfl
                 have hfs89 := blk_frozen BK162.out 5
                 have hns89_1 := NB164_162.out
                 have hms89_1 := NB162_164.out
                 refine skip_ (w1 := ?_) (by rfl) rfl ?_ ?_
                 rotate_left
                 ·go_simp
                  rfl
                 refine hK.out _ _ ⟨((cell_far (p := ⟨gb162, _, none⟩) NB164_162.out _).trans (((cell_far (p := ⟨gb162, _, none⟩) NB164_162.out _).trans (((cell_far (p := ⟨gb162, _, none⟩) NB164_162.out _).trans (((cell_far (p := ⟨gb162, _, none⟩) NB164_162.out _).trans (((cell_far (p := ⟨gb162, _, none⟩) NB164_162.out _).trans (((cell_far (p := ⟨gb162, _, none⟩) NB164_162.out _).trans (hHeld.1)))))))))))), ((cell_far (p := ⟨gb162, _, none⟩) NB164_162.out _).trans (((cell_far (p := ⟨gb162, _, none⟩) NB164_162.out _).trans (((cell_far (p := ⟨gb162, _, none⟩) NB164_162.out _).trans (((cell_far (p := ⟨gb162, _, none⟩) NB164_162.out _).trans (((cell_far (p := ⟨gb162, _, none⟩) NB164_162.out _).trans (((cell_far (p := ⟨gb162, _, none⟩) NB164_162.out _).trans (hHeld.2.1)))))))))))), ((cell_far (p := ⟨gb162, _, none⟩) NB164_162.out _).trans (((cell_far (p := ⟨gb162, _, none⟩) NB164_162.out _).trans (((cell_far (p := ⟨gb162, _, none⟩) NB164_162.out _).trans (((cell_far (p := ⟨gb162, _, none⟩) NB164_162.out _).trans (((cell_far (p := ⟨gb162, _, none⟩) NB164_162.out _).trans (((cell_far (p := ⟨gb162, _, none⟩) NB164_162.out _).trans (hHeld.2.2.1)))))))))))), ((cell_far (p := ⟨gb162, _, none⟩) NB164_162.out _).trans (((cell_far (p := ⟨gb162, _, none⟩) NB164_162.out _).trans (((cell_far (p := ⟨gb162, _, none⟩) NB164_162.out _).trans (((cell_far (p := ⟨gb162, _, none⟩) NB164_162.out _).trans (((cell_far (p := ⟨gb162, _, none⟩) NB164_162.out _).trans (((cell_far (p := ⟨gb162, _, none⟩) NB164_162.out _).trans (hHeld.2.2.2.1)))))))))))), ((cell_far (p := ⟨gb162, _, none⟩) NB164_162.out _).trans (((cell_far (p := ⟨gb162, _, none⟩) NB164_162.out _).trans (((cell_far (p := ⟨gb162, _, none⟩) NB164_162.out _).trans (((cell_far (p := ⟨gb162, _, none⟩) NB164_162.out _).trans (((cell_far (p := ⟨gb162, _, none⟩) NB164_162.out _).trans (((cell_far (p := ⟨gb162, _, none⟩) NB164_162.out _).trans (hHeld.2.2.2.2.1)))))))))))), ((cell_far (p := ⟨gb162, _, none⟩) NB164_162.out _).trans (((cell_far (p := ⟨gb162, _, none⟩) NB164_162.out _).trans (((cell_far (p := ⟨gb162, _, none⟩) NB164_162.out _).trans (((cell_far (p := ⟨gb162, _, none⟩) NB164_162.out _).trans (((cell_far (p := ⟨gb162, _, none⟩) NB164_162.out _).trans (((cell_far (p := ⟨gb162, _, none⟩) NB164_162.out _).trans (hHeld.2.2.2.2.2))))))))))))⟩ (fun hHeld => ?_)
                 clear hK K
                 refine pure_ (i := 4) (N := some 5) (v := ?_) (a' := ?_) #[true, true, true, true, true, false] rfl rfl (by kernel_rfl) (fun _ _ _ h => h) (Or.inl ⟨by rfl, ?_⟩) ?_ ?_
                 rotate_left
                 ·intro w'
                  go_simp
                  with_reducible rfl
                 rotate_left
                 ·simp only [Act.put, List.setIfInBounds_toArray, List.set_cons_zero, List.set_cons_succ, i64_w, i32_w]
                  rfl
                 refine pure_ (i := 5) (N := some 6) (v := ?_) (a' := ?_) #[true, true, true, true, true, true] rfl rfl (by kernel_rfl) (fun _ _ _ h => h) (Or.inl ⟨by rfl, ?_⟩) ?_ ?_
                 rotate_left
                 ·intro w'
                  go_simp
                  with_reducible rfl
                 rotate_left
                 ·simp only [Act.put, List.setIfInBounds_toArray, List.set_cons_zero, List.set_cons_succ, i64_w, i32_w]
                  rfl
                 refine done_ (by kernel_rfl) ?_
                 try go_wp2
                 refine bodyPost_ret (results_ctt rfl _ _ gb162 24 #[.int .i64 3, .int .i64 t163, .int .i64 t167, .int .u8 0, .int .i64 t166, .string (⟨#[]⟩ : ByteArray)] (0, 0) _ rfl (by (with_reducible repeat (first | refine bN ?_ _ | refine bD ?_ | refine bA ?_ _)); refine blk_put (cs := #[.int .i64 3, .int .i64 t163, .int .i64 t167, .int .u8 0, .int .i64 t166, .string (⟨#[]⟩ : ByteArray)]) ?_ 5 _ rfl; (with_reducible repeat (first | refine bN ?_ _ | refine bD ?_ | refine bA ?_ _)); refine blk_put (cs := #[.int .i64 3, .int .i64 t163, .int .i64 t167, .int .u8 0, .int .i64 0, .string (⟨#[]⟩ : ByteArray)]) ?_ 4 _ rfl; (with_reducible repeat (first | refine bN ?_ _ | refine bD ?_ | refine bA ?_ _)); refine blk_put (cs := #[.int .i64 3, .int .i64 t163, .int .i64 t167, .int .u8 0, .int .i64 0, .string (⟨#[]⟩ : ByteArray)]) ?_ 3 _ rfl; (with_reducible repeat (first | refine bN ?_ _ | refine bD ?_ | refine bA ?_ _)); refine blk_put (cs := #[.int .i64 3, .int .i64 t163, .int .i64 0, .int .u8 0, .int .i64 0, .string (⟨#[]⟩ : ByteArray)]) ?_ 2 _ rfl; (with_reducible repeat (first | refine bN ?_ _ | refine bD ?_ | refine bA ?_ _)); refine blk_put (cs := #[.int .i64 3, .int .i64 0, .int .i64 0, .int .u8 0, .int .i64 0, .string (⟨#[]⟩ : ByteArray)]) ?_ 1 _ rfl; (with_reducible repeat (first | refine bN ?_ _ | refine bD ?_ | refine bA ?_ _)); refine blk_put (cs := #[.int .i64 0, .int .i64 0, .int .i64 0, .int .u8 0, .int .i64 0, .string (⟨#[]⟩ : ByteArray)]) ?_ 0 _ rfl; (with_reducible repeat (first | refine bN ?_ _ | refine bD ?_ | refine bA ?_ _)); exact BK162.out) Try.underlying24 rfl (by kernel_rfl)) rfl ?_
                 exact ⟨by first | rfl | (simp [errW_none, errW_some] <;> rfl) | (simp [*, errW_none, errW_some] <;> rfl), by repeat (first | (with_reducible first | exact HB.out | apply wA | apply wN | apply wD | refine wS ?_ GE162.out | refine wS ?_ GE164.out) | exact HB.out)⟩
                ·rw [if_neg c79] at H
                 have c79b0 : (t168 == 0) = false := beq_eq_false_iff_ne.mpr c79
                 have c79b1 : (t168 != 0) = true := bne_iff_ne.mpr c79
                 simp only [Option.some.injEq, Prod.mk.injEq] at H
                 obtain ⟨rfl, rfl, rfl, rfl, rfl, rfl, rfl, rfl⟩ := H
                 have hnb90 := NB164_162.out; have hnc90 := NB162_164.out; have hcz91_0 : wc.cell? ⟨gb164, 0, none⟩ = some (.int .i64 0) := (blk_cell BK164.out 0).trans rfl; have hcz91_1 : wc.cell? ⟨gb164, 1, none⟩ = some (.int .i64 t163) := (blk_cell BK164.out 1).trans rfl; have hcz91_2 : wc.cell? ⟨gb164, 2, none⟩ = some (.int .i64 0) := (blk_cell BK164.out 2).trans rfl; have hcz91_3 : wc.cell? ⟨gb164, 3, none⟩ = some (.int .u8 0) := (blk_cell BK164.out 3).trans rfl; have hcz91_4 : wc.cell? ⟨gb164, 4, none⟩ = some (.int .i64 0) := (blk_cell BK164.out 4).trans rfl; have hcz91_5 : wc.cell? ⟨gb164, 5, none⟩ = some (.string (⟨#[]⟩ : ByteArray)) := (blk_cell BK164.out 5).trans rfl; have hfz91_0 := blk_frozen BK164.out 0; have hfz91_1 := blk_frozen BK164.out 1; have hfz91_2 := blk_frozen BK164.out 2; have hfz91_3 := blk_frozen BK164.out 3; have hfz91_4 := blk_frozen BK164.out 4; have hfz91_5 := blk_frozen BK164.out 5
                 try go_wp2_with (first | ((with_reducible refine gate_callee (f := 20) rfl ?_); refine goesL_ (some 130) rfl rfl Try.func20 (by kernel_rfl) rfl #[.string a0, .int .i64 t163] rfl (by (try simp only [List.map_toArray, List.map_cons, List.map_nil]); first | done | rfl | (simp only [List.length_drop, List.length_take]; rfl)) ?_; (with_reducible refine (jsonlex_number.calls kj73 a0 t163 t166 t167 t168 _ A78.out).mono ?_); rintro e w' ⟨rfl, ⟨nd, rfl⟩⟩; refine ⟨_, rfl, ?_⟩))
                 have n0_ : Aside0 ((((wc.setCell ⟨gb164, 0, none⟩ (.int .i64 3)).setCell ⟨gb164, 4, none⟩ (.int .i64 t166)).setCell ⟨gb164, 2, none⟩ (.int .i64 t167)).heap[gb162]? = some (.cells #[.int .i64 0, .int .i64 0, .int .i64 0, .int .u8 0, .int .i64 0, .string (⟨#[]⟩ : ByteArray)] 24 (0, 0))) := ⟨by (with_reducible repeat (first | refine bN ?_ _ | refine bD ?_ | refine bA ?_ _ | refine blk_far ?_ NB162_164.out _)); exact BK162.out⟩
                 have n1_ : Aside0 ((((wc.setCell ⟨gb164, 0, none⟩ (.int .i64 3)).setCell ⟨gb164, 4, none⟩ (.int .i64 t166)).setCell ⟨gb164, 2, none⟩ (.int .i64 t167)).heap[gb164]? = some (.cells #[.int .i64 3, .int .i64 t163, .int .i64 t167, .int .u8 0, .int .i64 t166, .string (⟨#[]⟩ : ByteArray)] 24 (0, 0))) := ⟨by (with_reducible repeat (first | refine bN ?_ _ | refine bD ?_ | refine bA ?_ _)); refine blk_put (cs := #[.int .i64 3, .int .i64 t163, .int .i64 0, .int .u8 0, .int .i64 t166, .string (⟨#[]⟩ : ByteArray)]) ?_ 2 _ rfl; (with_reducible repeat (first | refine bN ?_ _ | refine bD ?_ | refine bA ?_ _)); refine blk_put (cs := #[.int .i64 3, .int .i64 t163, .int .i64 0, .int .u8 0, .int .i64 0, .string (⟨#[]⟩ : ByteArray)]) ?_ 4 _ rfl; (with_reducible repeat (first | refine bN ?_ _ | refine bD ?_ | refine bA ?_ _)); refine blk_put (cs := #[.int .i64 0, .int .i64 t163, .int .i64 0, .int .u8 0, .int .i64 0, .string (⟨#[]⟩ : ByteArray)]) ?_ 0 _ rfl; (with_reducible repeat (first | refine bN ?_ _ | refine bD ?_ | refine bA ?_ _)); exact BK164.out⟩
                 have n2_ : Aside0 (Below w.heap.size w (((wc.setCell ⟨gb164, 0, none⟩ (.int .i64 3)).setCell ⟨gb164, 4, none⟩ (.int .i64 t166)).setCell ⟨gb164, 2, none⟩ (.int .i64 t167))) := ⟨by repeat (first | (with_reducible first | exact HB.out | apply wA | apply wN | apply wD | refine wS ?_ GE162.out | refine wS ?_ GE164.out) | exact HB.out)⟩
                 (try clear BK162); (try clear BK164); (try clear HB)
                 (repeat rw [setCell_drewN])
                 generalize (((wc.setCell ⟨gb164, 0, none⟩ (.int .i64 3)).setCell ⟨gb164, 4, none⟩ (.int .i64 t166)).setCell ⟨gb164, 2, none⟩ (.int .i64 t167)) = w92 at n0_ n1_ n2_ ⊢
                 have BK162 := n0_
                 have BK164 := n1_
                 have HB := n2_
                 clear n0_ n1_ n2_
                 (try (rw [drewN_self w92]; generalize hq_ : World.drewN w92 _ = w92; have n0_ : Aside0 (w92.heap[gb162]? = some (.cells #[.int .i64 0, .int .i64 0, .int .i64 0, .int .u8 0, .int .i64 0, .string (⟨#[]⟩ : ByteArray)] 24 (0, 0))) := ⟨by rw [← hq_]; exact (by (with_reducible repeat (first | refine bN ?_ _ | refine bD ?_ | refine bA ?_ _)); exact BK162.out)⟩; have n1_ : Aside0 (w92.heap[gb164]? = some (.cells #[.int .i64 3, .int .i64 t163, .int .i64 t167, .int .u8 0, .int .i64 t166, .string (⟨#[]⟩ : ByteArray)] 24 (0, 0))) := ⟨by rw [← hq_]; exact (by (with_reducible repeat (first | refine bN ?_ _ | refine bD ?_ | refine bA ?_ _)); exact BK164.out)⟩; have n2_ : Aside0 (Below w.heap.size w w92) := ⟨by rw [← hq_]; exact (by repeat (first | (with_reducible first | exact HB.out | apply wA | apply wN | apply wD | refine wS ?_ GE162.out | refine wS ?_ GE164.out) | exact HB.out))⟩; clear BK162 BK164 HB hq_; have BK162 := n0_; have BK164 := n1_; have HB := n2_; clear n0_ n1_ n2_))
                 have n0_ := Aside0.mk (blk_drew BK162.out)
                 have n1_ := Aside0.mk (blk_drew BK164.out)
                 have n2_ := Aside0.mk (below_drew1 HB.out)
                 clear BK162
                 clear BK164
                 clear HB
                 have BK162 := n0_
                 have BK164 := n1_
                 have HB := n2_
                 clear n0_ n1_ n2_
                 refine start_ (n := 7) (S := fun w' => w'.cell? ⟨gb164, 0, none⟩ = some (.int .i64 3) ∧ w'.cell? ⟨gb164, 1, none⟩ = some (.int .i64 t163) ∧ w'.cell? ⟨gb164, 2, none⟩ = some (.int .i64 t167) ∧ w'.cell? ⟨gb164, 3, none⟩ = some (.int .u8 0) ∧ w'.cell? ⟨gb164, 4, none⟩ = some (.int .i64 t166) ∧ w'.cell? ⟨gb164, 5, none⟩ = some (.string (⟨#[]⟩ : ByteArray))) (ds := []) #[false, false, false, false, false, false, false] (by kernel_rfl) rfl rfl ⟨(blk_cell BK164.out 0).trans rfl, (blk_cell BK164.out 1).trans rfl, (blk_cell BK164.out 2).trans rfl, (blk_cell BK164.out 3).trans rfl, (blk_cell BK164.out 4).trans rfl, (blk_cell BK164.out 5).trans rfl⟩ (fun hHeld => ?_)
                 generalize w92.drew = w93 at BK162 BK164 HB hHeld ⊢
                 refine pure_ (i := 0) (N := some 151) (v := ?_) (a' := ?_) #[true, false, false, false, false, false, false] rfl rfl (by kernel_rfl) (fun _ _ _ h => h) (Or.inl ⟨by rfl, ?_⟩) ?_ ?_
                 rotate_left
                 ·intro w'
                  go_simp
                  with_reducible rfl
                 rotate_left
                 ·simp only [Act.put, List.setIfInBounds_toArray, List.set_cons_zero, List.set_cons_succ, i64_w, i32_w]
                  rfl
                 refine pure_ (i := 1) (N := some 152) (v := ?_) (a' := ?_) #[true, true, false, false, false, false, false] rfl rfl (by kernel_rfl) (fun _ _ _ h => h) (Or.inl ⟨by rfl, ?_⟩) ?_ ?_
                 rotate_left
                 ·intro w'
                  go_simp
                  with_reducible rfl
                 rotate_left
                 ·simp only [Act.put, List.setIfInBounds_toArray, List.set_cons_zero, List.set_cons_succ, i64_w, i32_w]
                  rfl
                 refine pure_ (i := 3) (N := some 154) (v := ?_) (a' := ?_) #[true, true, false, true, false, false, false] rfl rfl (by kernel_rfl) (fun _ _ _ h => h) (Or.inl ⟨by rfl, ?_⟩) ?_ ?_
                 rotate_left
                 ·intro w'
                  go_simp
                  with_reducible rfl
                 rotate_left
                 ·simp only [Act.put, List.setIfInBounds_toArray, List.set_cons_zero, List.set_cons_succ, i64_w, i32_w]
                  rfl
                 refine take_ (i := 2) (N := some 153) (v := ?_) (a' := ?_) #[true, true, true, true, false, false, false] rfl rfl (by kernel_rfl) (fun _ _ _ h => h) (Or.inl ⟨by rfl, ?_⟩) hHeld ?_ ?_
                 rotate_left
                 ·rintro w' ⟨s0, s1, s2, s3, s4, s5⟩
                  go_simp
                  with_reducible rfl
                 rotate_left
                 ·simp only [Act.put, List.setIfInBounds_toArray, List.set_cons_zero, List.set_cons_succ, i64_w, i32_w]
                  rfl
                 refine one_ (i := 4) (N := none) #[true, true, true, true, true, false, false] rfl rfl (by kernel_rfl) (by decide) (fun K hK => ?_)
                 have hs94 : w93.cell? ⟨gb162, 0, none⟩ = some (.int .i64 0) := (blk_cell BK162.out 0).trans rfl
                 have hfs94 := blk_frozen BK162.out 0
                 have hns94_1 := NB164_162.out
                 have hms94_1 := NB162_164.out
                 have hs95 : w93.cell? ⟨gb162, 1, none⟩ = some (.int .i64 0) := (blk_cell BK162.out 1).trans rfl
                 have hfs95 := blk_frozen BK162.out 1
                 have hns95_1 := NB164_162.out
                 have hms95_1 := NB162_164.out
                 have hs96 : w93.cell? ⟨gb162, 2, none⟩ = some (.int .i64 0) := (blk_cell BK162.out 2).trans rfl
                 have hfs96 := blk_frozen BK162.out 2
                 have hns96_1 := NB164_162.out
                 have hms96_1 := NB162_164.out
                 have hs97 : w93.cell? ⟨gb162, 3, none⟩ = some (.int .u8 0) := (blk_cell BK162.out 3).trans rfl
                 have hfs97 := blk_frozen BK162.out 3
                 have hns97_1 := NB164_162.out
                 have hms97_1 := NB162_164.out
                 have hs98 : w93.cell? ⟨gb162, 4, none⟩ = some (.int .i64 0) := (blk_cell BK162.out 4).trans rfl
                 have hfs98 := blk_frozen BK162.out 4
                 have hns98_1 := NB164_162.out
                 have hms98_1 := NB162_164.out
                 have hs99 : w93.cell? ⟨gb162, 5, none⟩ = some (.string (⟨#[]⟩ : ByteArray)) := (blk_cell BK162.out 5).trans rfl
                 have hfs99 := blk_frozen BK162.out 5
                 have hns99_1 := NB164_162.out
                 have hms99_1 := NB162_164.out
                 refine skip_ (w1 := ?_) (by rfl) rfl ?_ ?_
                 rotate_left
                 ·go_simp
                  rfl
                 refine hK.out _ _ ⟨((cell_far (p := ⟨gb162, _, none⟩) NB164_162.out _).trans (((cell_far (p := ⟨gb162, _, none⟩) NB164_162.out _).trans (((cell_far (p := ⟨gb162, _, none⟩) NB164_162.out _).trans (((cell_far (p := ⟨gb162, _, none⟩) NB164_162.out _).trans (((cell_far (p := ⟨gb162, _, none⟩) NB164_162.out _).trans (((cell_far (p := ⟨gb162, _, none⟩) NB164_162.out _).trans (hHeld.1)))))))))))), ((cell_far (p := ⟨gb162, _, none⟩) NB164_162.out _).trans (((cell_far (p := ⟨gb162, _, none⟩) NB164_162.out _).trans (((cell_far (p := ⟨gb162, _, none⟩) NB164_162.out _).trans (((cell_far (p := ⟨gb162, _, none⟩) NB164_162.out _).trans (((cell_far (p := ⟨gb162, _, none⟩) NB164_162.out _).trans (((cell_far (p := ⟨gb162, _, none⟩) NB164_162.out _).trans (hHeld.2.1)))))))))))), ((cell_far (p := ⟨gb162, _, none⟩) NB164_162.out _).trans (((cell_far (p := ⟨gb162, _, none⟩) NB164_162.out _).trans (((cell_far (p := ⟨gb162, _, none⟩) NB164_162.out _).trans (((cell_far (p := ⟨gb162, _, none⟩) NB164_162.out _).trans (((cell_far (p := ⟨gb162, _, none⟩) NB164_162.out _).trans (((cell_far (p := ⟨gb162, _, none⟩) NB164_162.out _).trans (hHeld.2.2.1)))))))))))), ((cell_far (p := ⟨gb162, _, none⟩) NB164_162.out _).trans (((cell_far (p := ⟨gb162, _, none⟩) NB164_162.out _).trans (((cell_far (p := ⟨gb162, _, none⟩) NB164_162.out _).trans (((cell_far (p := ⟨gb162, _, none⟩) NB164_162.out _).trans (((cell_far (p := ⟨gb162, _, none⟩) NB164_162.out _).trans (((cell_far (p := ⟨gb162, _, none⟩) NB164_162.out _).trans (hHeld.2.2.2.1)))))))))))), ((cell_far (p := ⟨gb162, _, none⟩) NB164_162.out _).trans (((cell_far (p := ⟨gb162, _, none⟩) NB164_162.out _).trans (((cell_far (p := ⟨gb162, _, none⟩) NB164_162.out _).trans (((cell_far (p := ⟨gb162, _, none⟩) NB164_162.out _).trans (((cell_far (p := ⟨gb162, _, none⟩) NB164_162.out _).trans (((cell_far (p := ⟨gb162, _, none⟩) NB164_162.out _).trans (hHeld.2.2.2.2.1)))))))))))), ((cell_far (p := ⟨gb162, _, none⟩) NB164_162.out _).trans (((cell_far (p := ⟨gb162, _, none⟩) NB164_162.out _).trans (((cell_far (p := ⟨gb162, _, none⟩) NB164_162.out _).trans (((cell_far (p := ⟨gb162, _, none⟩) NB164_162.out _).trans (((cell_far (p := ⟨gb162, _, none⟩) NB164_162.out _).trans (((cell_far (p := ⟨gb162, _, none⟩) NB164_162.out _).trans (hHeld.2.2.2.2.2))))))))))))⟩ (fun hHeld => ?_)
                 clear hK K
                 refine pure_ (i := 5) (N := some 5) (v := ?_) (a' := ?_) #[true, true, true, true, true, true, false] rfl rfl (by kernel_rfl) (fun _ _ _ h => h) (Or.inl ⟨by rfl, ?_⟩) ?_ ?_
                 rotate_left
                 ·intro w'
                  go_simp
                  with_reducible rfl
                 rotate_left
                 ·simp only [Act.put, List.setIfInBounds_toArray, List.set_cons_zero, List.set_cons_succ, i64_w, i32_w]
                  rfl
                 refine pure_ (i := 6) (N := some 6) (v := ?_) (a' := ?_) #[true, true, true, true, true, true, true] rfl rfl (by kernel_rfl) (fun _ _ _ h => h) (Or.inl ⟨by rfl, ?_⟩) ?_ ?_
                 rotate_left
                 ·intro w'
                  go_simp
                  with_reducible rfl
                 rotate_left
                 ·simp only [Act.put, List.setIfInBounds_toArray, List.set_cons_zero, List.set_cons_succ, i64_w, i32_w]
                  rfl
                 refine done_ (by kernel_rfl) ?_
                 try go_wp2
                 refine bodyPost_ret (results_ctt rfl _ _ gb162 24 #[.int .i64 0, .int .i64 0, .int .i64 0, .int .u8 0, .int .i64 0, .string (⟨#[]⟩ : ByteArray)] (0, 0) _ rfl (by (with_reducible repeat (first | refine bN ?_ _ | refine bD ?_ | refine bA ?_ _)); refine blk_put (cs := #[.int .i64 0, .int .i64 0, .int .i64 0, .int .u8 0, .int .i64 0, .string (⟨#[]⟩ : ByteArray)]) ?_ 5 _ rfl; (with_reducible repeat (first | refine bN ?_ _ | refine bD ?_ | refine bA ?_ _)); refine blk_put (cs := #[.int .i64 0, .int .i64 0, .int .i64 0, .int .u8 0, .int .i64 0, .string (⟨#[]⟩ : ByteArray)]) ?_ 4 _ rfl; (with_reducible repeat (first | refine bN ?_ _ | refine bD ?_ | refine bA ?_ _)); refine blk_put (cs := #[.int .i64 0, .int .i64 0, .int .i64 0, .int .u8 0, .int .i64 0, .string (⟨#[]⟩ : ByteArray)]) ?_ 3 _ rfl; (with_reducible repeat (first | refine bN ?_ _ | refine bD ?_ | refine bA ?_ _)); refine blk_put (cs := #[.int .i64 0, .int .i64 0, .int .i64 0, .int .u8 0, .int .i64 0, .string (⟨#[]⟩ : ByteArray)]) ?_ 2 _ rfl; (with_reducible repeat (first | refine bN ?_ _ | refine bD ?_ | refine bA ?_ _)); refine blk_put (cs := #[.int .i64 0, .int .i64 0, .int .i64 0, .int .u8 0, .int .i64 0, .string (⟨#[]⟩ : ByteArray)]) ?_ 1 _ rfl; (with_reducible repeat (first | refine bN ?_ _ | refine bD ?_ | refine bA ?_ _)); refine blk_put (cs := #[.int .i64 0, .int .i64 0, .int .i64 0, .int .u8 0, .int .i64 0, .string (⟨#[]⟩ : ByteArray)]) ?_ 0 _ rfl; (with_reducible repeat (first | refine bN ?_ _ | refine bD ?_ | refine bA ?_ _)); exact BK162.out) Try.underlying24 rfl (by kernel_rfl)) rfl ?_
                 exact ⟨by first | rfl | (simp [errW_none, errW_some] <;> rfl) | (simp [*, errW_none, errW_some] <;> rfl), by repeat (first | (with_reducible first | exact HB.out | apply wA | apply wN | apply wD | refine wS ?_ GE162.out | refine wS ?_ GE164.out) | exact HB.out)⟩
               ·replace c77 := Bool.eq_false_iff.mpr c77
                subst c77
                have H1 : (if (bt a0 t163) = 34 then ((jsonlex_text.f kj73 a0 t163).bind fun bt169 => (if bt169.2.2 = 0 then (some (4, t163, bt169.2.1, 0, 0, bt169.1, bt169.2.1, 0)) else (some (0, 0, 0, 0, 0, (⟨#[]⟩ : ByteArray), bt169.2.1, bt169.2.2)))) else (some (0, 0, 0, 0, 0, (⟨#[]⟩ : ByteArray), t163, 4))) = some (r1, r2, r3, r4, r5, r6, r7, r8) := by rw [if_neg (show ¬ (false = true) by decide)] at H; exact H
                clear H; have H := H1; clear H1
                by_cases c100 : (bt a0 t163) = 34
                ·rw [if_pos c100] at H
                 have c100b0 : ((bt a0 t163) == 34) = true := beq_iff_eq.mpr c100
                 have c100b1 : ((bt a0 t163) != 34) = false := bne_eq_false_iff_eq.mpr c100
                 clear c100
                 replace H := Option.bind_eq_some_iff.mp H
                 obtain ⟨⟨t169, t170, t171⟩, A1010, H⟩ := H
                 replace H : (if t171 = 0 then (some (4, t163, t170, 0, 0, t169, t170, 0)) else (some (0, 0, 0, 0, 0, (⟨#[]⟩ : ByteArray), t170, t171))) = some (r1, r2, r3, r4, r5, r6, r7, r8) := H
                 have A101 := Aside0.mk A1010
                 clear A1010
                 by_cases c102 : t171 = 0
                 ·rw [if_pos c102] at H
                  have c102b0 : (t171 == 0) = true := beq_iff_eq.mpr c102
                  have c102b1 : (t171 != 0) = false := bne_eq_false_iff_eq.mpr c102
                  clear c102
                  simp only [Option.some.injEq, Prod.mk.injEq] at H
                  obtain ⟨rfl, rfl, rfl, rfl, rfl, rfl, rfl, rfl⟩ := H
                  have hnb103 := NB164_162.out; have hnc103 := NB162_164.out; have hcz104_0 : wc.cell? ⟨gb164, 0, none⟩ = some (.int .i64 0) := (blk_cell BK164.out 0).trans rfl; have hcz104_1 : wc.cell? ⟨gb164, 1, none⟩ = some (.int .i64 t163) := (blk_cell BK164.out 1).trans rfl; have hcz104_2 : wc.cell? ⟨gb164, 2, none⟩ = some (.int .i64 0) := (blk_cell BK164.out 2).trans rfl; have hcz104_3 : wc.cell? ⟨gb164, 3, none⟩ = some (.int .u8 0) := (blk_cell BK164.out 3).trans rfl; have hcz104_4 : wc.cell? ⟨gb164, 4, none⟩ = some (.int .i64 0) := (blk_cell BK164.out 4).trans rfl; have hcz104_5 : wc.cell? ⟨gb164, 5, none⟩ = some (.string (⟨#[]⟩ : ByteArray)) := (blk_cell BK164.out 5).trans rfl; have hfz104_0 := blk_frozen BK164.out 0; have hfz104_1 := blk_frozen BK164.out 1; have hfz104_2 := blk_frozen BK164.out 2; have hfz104_3 := blk_frozen BK164.out 3; have hfz104_4 := blk_frozen BK164.out 4; have hfz104_5 := blk_frozen BK164.out 5
                  try go_wp2_with (first | ((with_reducible refine gate_callee (f := 21) rfl ?_); refine goesL_ (some 143) rfl rfl Try.func21 (by kernel_rfl) rfl #[.string a0, .int .i64 t163] rfl (by (try simp only [List.map_toArray, List.map_cons, List.map_nil]); first | done | rfl | (simp only [List.length_drop, List.length_take]; rfl)) ?_; (with_reducible refine (jsonlex_text.calls kj73 a0 t163 t169 t170 t171 _ A101.out).mono ?_); rintro e w105 ⟨rfl, hb⟩; refine ⟨_, rfl, ?_⟩; have n0_ := Aside0.mk (blk_below (g := gb162) (o := .cells #[.int .i64 0, .int .i64 0, .int .i64 0, .int .u8 0, .int .i64 0, .string (⟨#[]⟩ : ByteArray)] 24 (0, 0)) (by (with_reducible repeat (first | refine bN ?_ _ | refine bD ?_ | refine bA ?_ _ | refine blk_far ?_ NB162_164.out _)); exact BK162.out) hb); have n1_ := Aside0.mk (blk_below (g := gb164) (o := .cells #[.int .i64 4, .int .i64 t163, .int .i64 0, .int .u8 0, .int .i64 0, .string (⟨#[]⟩ : ByteArray)] 24 (0, 0)) (by (with_reducible repeat (first | refine bN ?_ _ | refine bD ?_ | refine bA ?_ _)); refine blk_put (cs := #[.int .i64 0, .int .i64 t163, .int .i64 0, .int .u8 0, .int .i64 0, .string (⟨#[]⟩ : ByteArray)]) ?_ 0 _ rfl; (with_reducible repeat (first | refine bN ?_ _ | refine bD ?_ | refine bA ?_ _)); exact BK164.out) hb); have n2_ := Aside0.mk (below_step (by repeat (first | (with_reducible first | exact HB.out | apply wA | apply wN | apply wD | refine wS ?_ GE162.out | refine wS ?_ GE164.out) | exact HB.out)) hb); clear BK162; clear BK164; clear HB; have BK162 := n0_; have BK164 := n1_; have HB := n2_; clear n0_ n1_ n2_; (try clear hb); (try clear hb2); (try clear hk); (try clear hi); have hcz106_0 : w105.cell? ⟨gb164, 0, none⟩ = some (.int .i64 4) := (blk_cell BK164.out 0).trans rfl; have hcz106_1 : w105.cell? ⟨gb164, 1, none⟩ = some (.int .i64 t163) := (blk_cell BK164.out 1).trans rfl; have hcz106_2 : w105.cell? ⟨gb164, 2, none⟩ = some (.int .i64 0) := (blk_cell BK164.out 2).trans rfl; have hcz106_3 : w105.cell? ⟨gb164, 3, none⟩ = some (.int .u8 0) := (blk_cell BK164.out 3).trans rfl; have hcz106_4 : w105.cell? ⟨gb164, 4, none⟩ = some (.int .i64 0) := (blk_cell BK164.out 4).trans rfl; have hcz106_5 : w105.cell? ⟨gb164, 5, none⟩ = some (.string (⟨#[]⟩ : ByteArray)) := (blk_cell BK164.out 5).trans rfl; have hfz106_0 := blk_frozen BK164.out 0; have hfz106_1 := blk_frozen BK164.out 1; have hfz106_2 := blk_frozen BK164.out 2; have hfz106_3 := blk_frozen BK164.out 3; have hfz106_4 := blk_frozen BK164.out 4; have hfz106_5 := blk_frozen BK164.out 5))
                  have n0_ : Aside0 (((w105.setCell ⟨gb164, 5, none⟩ (.string t169)).setCell ⟨gb164, 2, none⟩ (.int .i64 t170)).heap[gb162]? = some (.cells #[.int .i64 0, .int .i64 0, .int .i64 0, .int .u8 0, .int .i64 0, .string (⟨#[]⟩ : ByteArray)] 24 (0, 0))) := ⟨by (with_reducible repeat (first | refine bN ?_ _ | refine bD ?_ | refine bA ?_ _ | refine blk_far ?_ NB162_164.out _)); exact BK162.out⟩
                  have n1_ : Aside0 (((w105.setCell ⟨gb164, 5, none⟩ (.string t169)).setCell ⟨gb164, 2, none⟩ (.int .i64 t170)).heap[gb164]? = some (.cells #[.int .i64 4, .int .i64 t163, .int .i64 t170, .int .u8 0, .int .i64 0, .string t169] 24 (0, 0))) := ⟨by (with_reducible repeat (first | refine bN ?_ _ | refine bD ?_ | refine bA ?_ _)); refine blk_put (cs := #[.int .i64 4, .int .i64 t163, .int .i64 0, .int .u8 0, .int .i64 0, .string t169]) ?_ 2 _ rfl; (with_reducible repeat (first | refine bN ?_ _ | refine bD ?_ | refine bA ?_ _)); refine blk_put (cs := #[.int .i64 4, .int .i64 t163, .int .i64 0, .int .u8 0, .int .i64 0, .string (⟨#[]⟩ : ByteArray)]) ?_ 5 _ rfl; (with_reducible repeat (first | refine bN ?_ _ | refine bD ?_ | refine bA ?_ _)); exact BK164.out⟩
                  have n2_ : Aside0 (Below w.heap.size w ((w105.setCell ⟨gb164, 5, none⟩ (.string t169)).setCell ⟨gb164, 2, none⟩ (.int .i64 t170))) := ⟨by repeat (first | (with_reducible first | exact HB.out | apply wA | apply wN | apply wD | refine wS ?_ GE162.out | refine wS ?_ GE164.out) | exact HB.out)⟩
                  (try clear BK162); (try clear BK164); (try clear HB)
                  generalize ((w105.setCell ⟨gb164, 5, none⟩ (.string t169)).setCell ⟨gb164, 2, none⟩ (.int .i64 t170)) = w107 at n0_ n1_ n2_ ⊢
                  have BK162 := n0_
                  have BK164 := n1_
                  have HB := n2_
                  clear n0_ n1_ n2_
                  have n0_ := Aside0.mk (blk_drew BK162.out)
                  have n1_ := Aside0.mk (blk_drew BK164.out)
                  have n2_ := Aside0.mk (below_drew1 HB.out)
                  clear BK162
                  clear BK164
                  clear HB
                  have BK162 := n0_
                  have BK164 := n1_
                  have HB := n2_
                  clear n0_ n1_ n2_
                  refine start_ (n := 6) (S := fun w' => w'.cell? ⟨gb164, 0, none⟩ = some (.int .i64 4) ∧ w'.cell? ⟨gb164, 1, none⟩ = some (.int .i64 t163) ∧ w'.cell? ⟨gb164, 2, none⟩ = some (.int .i64 t170) ∧ w'.cell? ⟨gb164, 3, none⟩ = some (.int .u8 0) ∧ w'.cell? ⟨gb164, 4, none⟩ = some (.int .i64 0) ∧ w'.cell? ⟨gb164, 5, none⟩ = some (.string t169)) (ds := []) #[false, false, false, false, false, false] (by kernel_rfl) rfl rfl ⟨(blk_cell BK164.out 0).trans rfl, (blk_cell BK164.out 1).trans rfl, (blk_cell BK164.out 2).trans rfl, (blk_cell BK164.out 3).trans rfl, (blk_cell BK164.out 4).trans rfl, (blk_cell BK164.out 5).trans rfl⟩ (fun hHeld => ?_)
                  generalize w107.drew = w108 at BK162 BK164 HB hHeld ⊢
                  refine pure_ (i := 1) (N := some 156) (v := ?_) (a' := ?_) #[false, true, false, false, false, false] rfl rfl (by kernel_rfl) (fun _ _ _ h => h) (Or.inl ⟨by rfl, ?_⟩) ?_ ?_
                  rotate_left
                  ·intro w'
                   go_simp
                   with_reducible rfl
                  rotate_left
                  ·simp only [Act.put, List.setIfInBounds_toArray, List.set_cons_zero, List.set_cons_succ, i64_w, i32_w]
                   rfl
                  refine take_ (i := 0) (N := some 155) (v := ?_) (a' := ?_) #[true, true, false, false, false, false] rfl rfl (by kernel_rfl) (fun _ _ _ h => h) (Or.inl ⟨by rfl, ?_⟩) hHeld ?_ ?_
                  rotate_left
                  ·rintro w' ⟨s0, s1, s2, s3, s4, s5⟩
                   go_simp
                   with_reducible rfl
                  rotate_left
                  ·simp only [Act.put, List.setIfInBounds_toArray, List.set_cons_zero, List.set_cons_succ, i64_w, i32_w]
                   rfl
                  refine take_ (i := 2) (N := some 157) (v := ?_) (a' := ?_) #[true, true, true, false, false, false] rfl rfl (by kernel_rfl) (fun _ _ _ h => h) (Or.inl ⟨by rfl, ?_⟩) hHeld ?_ ?_
                  rotate_left
                  ·rintro w' ⟨s0, s1, s2, s3, s4, s5⟩
                   go_simp
                   with_reducible rfl
                  rotate_left
                  ·simp only [Act.put, List.setIfInBounds_toArray, List.set_cons_zero, List.set_cons_succ, i64_w, i32_w]
                   rfl
                  refine one_ (i := 3) (N := none) #[true, true, true, true, false, false] rfl rfl (by kernel_rfl) (by decide) (fun K hK => ?_)
                  have hs109 : w108.cell? ⟨gb162, 0, none⟩ = some (.int .i64 0) := (blk_cell BK162.out 0).trans rfl
                  have hfs109 := blk_frozen BK162.out 0
                  have hns109_1 := NB164_162.out
                  have hms109_1 := NB162_164.out
                  have hs110 : w108.cell? ⟨gb162, 1, none⟩ = some (.int .i64 0) := (blk_cell BK162.out 1).trans rfl
                  have hfs110 := blk_frozen BK162.out 1
                  have hns110_1 := NB164_162.out
                  have hms110_1 := NB162_164.out
                  have hs111 : w108.cell? ⟨gb162, 2, none⟩ = some (.int .i64 0) := (blk_cell BK162.out 2).trans rfl
                  have hfs111 := blk_frozen BK162.out 2
                  have hns111_1 := NB164_162.out
                  have hms111_1 := NB162_164.out
                  have hs112 : w108.cell? ⟨gb162, 3, none⟩ = some (.int .u8 0) := (blk_cell BK162.out 3).trans rfl
                  have hfs112 := blk_frozen BK162.out 3
                  have hns112_1 := NB164_162.out
                  have hms112_1 := NB162_164.out
                  have hs113 : w108.cell? ⟨gb162, 4, none⟩ = some (.int .i64 0) := (blk_cell BK162.out 4).trans rfl
                  have hfs113 := blk_frozen BK162.out 4
                  have hns113_1 := NB164_162.out
                  have hms113_1 := NB162_164.out
                  have hs114 : w108.cell? ⟨gb162, 5, none⟩ = some (.string (⟨#[]⟩ : ByteArray)) := (blk_cell BK162.out 5).trans rfl
                  have hfs114 := blk_frozen BK162.out 5
                  have hns114_1 := NB164_162.out
                  have hms114_1 := NB162_164.out
                  refine skip_ (w1 := ?_) (by rfl) rfl ?_ ?_
                  rotate_left
                  ·go_simp
                   rfl
                  refine hK.out _ _ ⟨((cell_far (p := ⟨gb162, _, none⟩) NB164_162.out _).trans (((cell_far (p := ⟨gb162, _, none⟩) NB164_162.out _).trans (((cell_far (p := ⟨gb162, _, none⟩) NB164_162.out _).trans (((cell_far (p := ⟨gb162, _, none⟩) NB164_162.out _).trans (((cell_far (p := ⟨gb162, _, none⟩) NB164_162.out _).trans (((cell_far (p := ⟨gb162, _, none⟩) NB164_162.out _).trans (hHeld.1)))))))))))), ((cell_far (p := ⟨gb162, _, none⟩) NB164_162.out _).trans (((cell_far (p := ⟨gb162, _, none⟩) NB164_162.out _).trans (((cell_far (p := ⟨gb162, _, none⟩) NB164_162.out _).trans (((cell_far (p := ⟨gb162, _, none⟩) NB164_162.out _).trans (((cell_far (p := ⟨gb162, _, none⟩) NB164_162.out _).trans (((cell_far (p := ⟨gb162, _, none⟩) NB164_162.out _).trans (hHeld.2.1)))))))))))), ((cell_far (p := ⟨gb162, _, none⟩) NB164_162.out _).trans (((cell_far (p := ⟨gb162, _, none⟩) NB164_162.out _).trans (((cell_far (p := ⟨gb162, _, none⟩) NB164_162.out _).trans (((cell_far (p := ⟨gb162, _, none⟩) NB164_162.out _).trans (((cell_far (p := ⟨gb162, _, none⟩) NB164_162.out _).trans (((cell_far (p := ⟨gb162, _, none⟩) NB164_162.out _).trans (hHeld.2.2.1)))))))))))), ((cell_far (p := ⟨gb162, _, none⟩) NB164_162.out _).trans (((cell_far (p := ⟨gb162, _, none⟩) NB164_162.out _).trans (((cell_far (p := ⟨gb162, _, none⟩) NB164_162.out _).trans (((cell_far (p := ⟨gb162, _, none⟩) NB164_162.out _).trans (((cell_far (p := ⟨gb162, _, none⟩) NB164_162.out _).trans (((cell_far (p := ⟨gb162, _, none⟩) NB164_162.out _).trans (hHeld.2.2.2.1)))))))))))), ((cell_far (p := ⟨gb162, _, none⟩) NB164_162.out _).trans (((cell_far (p := ⟨gb162, _, none⟩) NB164_162.out _).trans (((cell_far (p := ⟨gb162, _, none⟩) NB164_162.out _).trans (((cell_far (p := ⟨gb162, _, none⟩) NB164_162.out _).trans (((cell_far (p := ⟨gb162, _, none⟩) NB164_162.out _).trans (((cell_far (p := ⟨gb162, _, none⟩) NB164_162.out _).trans (hHeld.2.2.2.2.1)))))))))))), ((cell_far (p := ⟨gb162, _, none⟩) NB164_162.out _).trans (((cell_far (p := ⟨gb162, _, none⟩) NB164_162.out _).trans (((cell_far (p := ⟨gb162, _, none⟩) NB164_162.out _).trans (((cell_far (p := ⟨gb162, _, none⟩) NB164_162.out _).trans (((cell_far (p := ⟨gb162, _, none⟩) NB164_162.out _).trans (((cell_far (p := ⟨gb162, _, none⟩) NB164_162.out _).trans (hHeld.2.2.2.2.2))))))))))))⟩ (fun hHeld => ?_)
                  clear hK K
                  refine pure_ (i := 4) (N := some 5) (v := ?_) (a' := ?_) #[true, true, true, true, true, false] rfl rfl (by kernel_rfl) (fun _ _ _ h => h) (Or.inl ⟨by rfl, ?_⟩) ?_ ?_
                  rotate_left
                  ·intro w'
                   go_simp
                   with_reducible rfl
                  rotate_left
                  ·simp only [Act.put, List.setIfInBounds_toArray, List.set_cons_zero, List.set_cons_succ, i64_w, i32_w]
                   rfl
                  refine pure_ (i := 5) (N := some 6) (v := ?_) (a' := ?_) #[true, true, true, true, true, true] rfl rfl (by kernel_rfl) (fun _ _ _ h => h) (Or.inl ⟨by rfl, ?_⟩) ?_ ?_
                  rotate_left
                  ·intro w'
                   go_simp
                   with_reducible rfl
                  rotate_left
                  ·simp only [Act.put, List.setIfInBounds_toArray, List.set_cons_zero, List.set_cons_succ, i64_w, i32_w]
                   rfl
                  refine done_ (by kernel_rfl) ?_
                  try go_wp2
                  refine bodyPost_ret (results_ctt rfl _ _ gb162 24 #[.int .i64 4, .int .i64 t163, .int .i64 t170, .int .u8 0, .int .i64 0, .string t169] (0, 0) _ rfl (by (with_reducible repeat (first | refine bN ?_ _ | refine bD ?_ | refine bA ?_ _)); refine blk_put (cs := #[.int .i64 4, .int .i64 t163, .int .i64 t170, .int .u8 0, .int .i64 0, .string (⟨#[]⟩ : ByteArray)]) ?_ 5 _ rfl; (with_reducible repeat (first | refine bN ?_ _ | refine bD ?_ | refine bA ?_ _)); refine blk_put (cs := #[.int .i64 4, .int .i64 t163, .int .i64 t170, .int .u8 0, .int .i64 0, .string (⟨#[]⟩ : ByteArray)]) ?_ 4 _ rfl; (with_reducible repeat (first | refine bN ?_ _ | refine bD ?_ | refine bA ?_ _)); refine blk_put (cs := #[.int .i64 4, .int .i64 t163, .int .i64 t170, .int .u8 0, .int .i64 0, .string (⟨#[]⟩ : ByteArray)]) ?_ 3 _ rfl; (with_reducible repeat (first | refine bN ?_ _ | refine bD ?_ | refine bA ?_ _)); refine blk_put (cs := #[.int .i64 4, .int .i64 t163, .int .i64 0, .int .u8 0, .int .i64 0, .string (⟨#[]⟩ : ByteArray)]) ?_ 2 _ rfl; (with_reducible repeat (first | refine bN ?_ _ | refine bD ?_ | refine bA ?_ _)); refine blk_put (cs := #[.int .i64 4, .int .i64 0, .int .i64 0, .int .u8 0, .int .i64 0, .string (⟨#[]⟩ : ByteArray)]) ?_ 1 _ rfl; (with_reducible repeat (first | refine bN ?_ _ | refine bD ?_ | refine bA ?_ _)); refine blk_put (cs := #[.int .i64 0, .int .i64 0, .int .i64 0, .int .u8 0, .int .i64 0, .string (⟨#[]⟩ : ByteArray)]) ?_ 0 _ rfl; (with_reducible repeat (first | refine bN ?_ _ | refine bD ?_ | refine bA ?_ _)); exact BK162.out) Try.underlying24 rfl (by kernel_rfl)) rfl ?_
                  exact ⟨by first | rfl | (simp [errW_none, errW_some] <;> rfl) | (simp [*, errW_none, errW_some] <;> rfl), by repeat (first | (with_reducible first | exact HB.out | apply wA | apply wN | apply wD | refine wS ?_ GE162.out | refine wS ?_ GE164.out) | exact HB.out)⟩
                 ·rw [if_neg c102] at H
                  have c102b0 : (t171 == 0) = false := beq_eq_false_iff_ne.mpr c102
                  have c102b1 : (t171 != 0) = true := bne_iff_ne.mpr c102
                  simp only [Option.some.injEq, Prod.mk.injEq] at H
                  obtain ⟨rfl, rfl, rfl, rfl, rfl, rfl, rfl, rfl⟩ := H
                  have hnb115 := NB164_162.out; have hnc115 := NB162_164.out; have hcz116_0 : wc.cell? ⟨gb164, 0, none⟩ = some (.int .i64 0) := (blk_cell BK164.out 0).trans rfl; have hcz116_1 : wc.cell? ⟨gb164, 1, none⟩ = some (.int .i64 t163) := (blk_cell BK164.out 1).trans rfl; have hcz116_2 : wc.cell? ⟨gb164, 2, none⟩ = some (.int .i64 0) := (blk_cell BK164.out 2).trans rfl; have hcz116_3 : wc.cell? ⟨gb164, 3, none⟩ = some (.int .u8 0) := (blk_cell BK164.out 3).trans rfl; have hcz116_4 : wc.cell? ⟨gb164, 4, none⟩ = some (.int .i64 0) := (blk_cell BK164.out 4).trans rfl; have hcz116_5 : wc.cell? ⟨gb164, 5, none⟩ = some (.string (⟨#[]⟩ : ByteArray)) := (blk_cell BK164.out 5).trans rfl; have hfz116_0 := blk_frozen BK164.out 0; have hfz116_1 := blk_frozen BK164.out 1; have hfz116_2 := blk_frozen BK164.out 2; have hfz116_3 := blk_frozen BK164.out 3; have hfz116_4 := blk_frozen BK164.out 4; have hfz116_5 := blk_frozen BK164.out 5
                  try go_wp2_with (first | ((with_reducible refine gate_callee (f := 21) rfl ?_); refine goesL_ (some 143) rfl rfl Try.func21 (by kernel_rfl) rfl #[.string a0, .int .i64 t163] rfl (by (try simp only [List.map_toArray, List.map_cons, List.map_nil]); first | done | rfl | (simp only [List.length_drop, List.length_take]; rfl)) ?_; (with_reducible refine (jsonlex_text.calls kj73 a0 t163 t169 t170 t171 _ A101.out).mono ?_); rintro e w117 ⟨rfl, hb⟩; refine ⟨_, rfl, ?_⟩; have n0_ := Aside0.mk (blk_below (g := gb162) (o := .cells #[.int .i64 0, .int .i64 0, .int .i64 0, .int .u8 0, .int .i64 0, .string (⟨#[]⟩ : ByteArray)] 24 (0, 0)) (by (with_reducible repeat (first | refine bN ?_ _ | refine bD ?_ | refine bA ?_ _ | refine blk_far ?_ NB162_164.out _)); exact BK162.out) hb); have n1_ := Aside0.mk (blk_below (g := gb164) (o := .cells #[.int .i64 4, .int .i64 t163, .int .i64 0, .int .u8 0, .int .i64 0, .string (⟨#[]⟩ : ByteArray)] 24 (0, 0)) (by (with_reducible repeat (first | refine bN ?_ _ | refine bD ?_ | refine bA ?_ _)); refine blk_put (cs := #[.int .i64 0, .int .i64 t163, .int .i64 0, .int .u8 0, .int .i64 0, .string (⟨#[]⟩ : ByteArray)]) ?_ 0 _ rfl; (with_reducible repeat (first | refine bN ?_ _ | refine bD ?_ | refine bA ?_ _)); exact BK164.out) hb); have n2_ := Aside0.mk (below_step (by repeat (first | (with_reducible first | exact HB.out | apply wA | apply wN | apply wD | refine wS ?_ GE162.out | refine wS ?_ GE164.out) | exact HB.out)) hb); clear BK162; clear BK164; clear HB; have BK162 := n0_; have BK164 := n1_; have HB := n2_; clear n0_ n1_ n2_; (try clear hb); (try clear hb2); (try clear hk); (try clear hi); have hcz118_0 : w117.cell? ⟨gb164, 0, none⟩ = some (.int .i64 4) := (blk_cell BK164.out 0).trans rfl; have hcz118_1 : w117.cell? ⟨gb164, 1, none⟩ = some (.int .i64 t163) := (blk_cell BK164.out 1).trans rfl; have hcz118_2 : w117.cell? ⟨gb164, 2, none⟩ = some (.int .i64 0) := (blk_cell BK164.out 2).trans rfl; have hcz118_3 : w117.cell? ⟨gb164, 3, none⟩ = some (.int .u8 0) := (blk_cell BK164.out 3).trans rfl; have hcz118_4 : w117.cell? ⟨gb164, 4, none⟩ = some (.int .i64 0) := (blk_cell BK164.out 4).trans rfl; have hcz118_5 : w117.cell? ⟨gb164, 5, none⟩ = some (.string (⟨#[]⟩ : ByteArray)) := (blk_cell BK164.out 5).trans rfl; have hfz118_0 := blk_frozen BK164.out 0; have hfz118_1 := blk_frozen BK164.out 1; have hfz118_2 := blk_frozen BK164.out 2; have hfz118_3 := blk_frozen BK164.out 3; have hfz118_4 := blk_frozen BK164.out 4; have hfz118_5 := blk_frozen BK164.out 5))
                  have n0_ : Aside0 (((w117.setCell ⟨gb164, 5, none⟩ (.string t169)).setCell ⟨gb164, 2, none⟩ (.int .i64 t170)).heap[gb162]? = some (.cells #[.int .i64 0, .int .i64 0, .int .i64 0, .int .u8 0, .int .i64 0, .string (⟨#[]⟩ : ByteArray)] 24 (0, 0))) := ⟨by (with_reducible repeat (first | refine bN ?_ _ | refine bD ?_ | refine bA ?_ _ | refine blk_far ?_ NB162_164.out _)); exact BK162.out⟩
                  have n1_ : Aside0 (((w117.setCell ⟨gb164, 5, none⟩ (.string t169)).setCell ⟨gb164, 2, none⟩ (.int .i64 t170)).heap[gb164]? = some (.cells #[.int .i64 4, .int .i64 t163, .int .i64 t170, .int .u8 0, .int .i64 0, .string t169] 24 (0, 0))) := ⟨by (with_reducible repeat (first | refine bN ?_ _ | refine bD ?_ | refine bA ?_ _)); refine blk_put (cs := #[.int .i64 4, .int .i64 t163, .int .i64 0, .int .u8 0, .int .i64 0, .string t169]) ?_ 2 _ rfl; (with_reducible repeat (first | refine bN ?_ _ | refine bD ?_ | refine bA ?_ _)); refine blk_put (cs := #[.int .i64 4, .int .i64 t163, .int .i64 0, .int .u8 0, .int .i64 0, .string (⟨#[]⟩ : ByteArray)]) ?_ 5 _ rfl; (with_reducible repeat (first | refine bN ?_ _ | refine bD ?_ | refine bA ?_ _)); exact BK164.out⟩
                  have n2_ : Aside0 (Below w.heap.size w ((w117.setCell ⟨gb164, 5, none⟩ (.string t169)).setCell ⟨gb164, 2, none⟩ (.int .i64 t170))) := ⟨by repeat (first | (with_reducible first | exact HB.out | apply wA | apply wN | apply wD | refine wS ?_ GE162.out | refine wS ?_ GE164.out) | exact HB.out)⟩
                  (try clear BK162); (try clear BK164); (try clear HB)
                  generalize ((w117.setCell ⟨gb164, 5, none⟩ (.string t169)).setCell ⟨gb164, 2, none⟩ (.int .i64 t170)) = w119 at n0_ n1_ n2_ ⊢
                  have BK162 := n0_
                  have BK164 := n1_
                  have HB := n2_
                  clear n0_ n1_ n2_
                  have n0_ := Aside0.mk (blk_drew BK162.out)
                  have n1_ := Aside0.mk (blk_drew BK164.out)
                  have n2_ := Aside0.mk (below_drew1 HB.out)
                  clear BK162
                  clear BK164
                  clear HB
                  have BK162 := n0_
                  have BK164 := n1_
                  have HB := n2_
                  clear n0_ n1_ n2_
                  refine start_ (n := 7) (S := fun w' => w'.cell? ⟨gb164, 0, none⟩ = some (.int .i64 4) ∧ w'.cell? ⟨gb164, 1, none⟩ = some (.int .i64 t163) ∧ w'.cell? ⟨gb164, 2, none⟩ = some (.int .i64 t170) ∧ w'.cell? ⟨gb164, 3, none⟩ = some (.int .u8 0) ∧ w'.cell? ⟨gb164, 4, none⟩ = some (.int .i64 0) ∧ w'.cell? ⟨gb164, 5, none⟩ = some (.string t169)) (ds := []) #[false, false, false, false, false, false, false] (by kernel_rfl) rfl rfl ⟨(blk_cell BK164.out 0).trans rfl, (blk_cell BK164.out 1).trans rfl, (blk_cell BK164.out 2).trans rfl, (blk_cell BK164.out 3).trans rfl, (blk_cell BK164.out 4).trans rfl, (blk_cell BK164.out 5).trans rfl⟩ (fun hHeld => ?_)
                  generalize w119.drew = w120 at BK162 BK164 HB hHeld ⊢
                  refine pure_ (i := 0) (N := some 151) (v := ?_) (a' := ?_) #[true, false, false, false, false, false, false] rfl rfl (by kernel_rfl) (fun _ _ _ h => h) (Or.inl ⟨by rfl, ?_⟩) ?_ ?_
                  rotate_left
                  ·intro w'
                   go_simp
                   with_reducible rfl
                  rotate_left
                  ·simp only [Act.put, List.setIfInBounds_toArray, List.set_cons_zero, List.set_cons_succ, i64_w, i32_w]
                   rfl
                  refine pure_ (i := 1) (N := some 152) (v := ?_) (a' := ?_) #[true, true, false, false, false, false, false] rfl rfl (by kernel_rfl) (fun _ _ _ h => h) (Or.inl ⟨by rfl, ?_⟩) ?_ ?_
                  rotate_left
                  ·intro w'
                   go_simp
                   with_reducible rfl
                  rotate_left
                  ·simp only [Act.put, List.setIfInBounds_toArray, List.set_cons_zero, List.set_cons_succ, i64_w, i32_w]
                   rfl
                  refine pure_ (i := 3) (N := some 154) (v := ?_) (a' := ?_) #[true, true, false, true, false, false, false] rfl rfl (by kernel_rfl) (fun _ _ _ h => h) (Or.inl ⟨by rfl, ?_⟩) ?_ ?_
                  rotate_left
                  ·intro w'
                   go_simp
                   with_reducible rfl
                  rotate_left
                  ·simp only [Act.put, List.setIfInBounds_toArray, List.set_cons_zero, List.set_cons_succ, i64_w, i32_w]
                   rfl
                  refine take_ (i := 2) (N := some 153) (v := ?_) (a' := ?_) #[true, true, true, true, false, false, false] rfl rfl (by kernel_rfl) (fun _ _ _ h => h) (Or.inl ⟨by rfl, ?_⟩) hHeld ?_ ?_
                  rotate_left
                  ·rintro w' ⟨s0, s1, s2, s3, s4, s5⟩
                   go_simp
                   with_reducible rfl
                  rotate_left
                  ·simp only [Act.put, List.setIfInBounds_toArray, List.set_cons_zero, List.set_cons_succ, i64_w, i32_w]
                   rfl
                  refine one_ (i := 4) (N := none) #[true, true, true, true, true, false, false] rfl rfl (by kernel_rfl) (by decide) (fun K hK => ?_)
                  have hs121 : w120.cell? ⟨gb162, 0, none⟩ = some (.int .i64 0) := (blk_cell BK162.out 0).trans rfl
                  have hfs121 := blk_frozen BK162.out 0
                  have hns121_1 := NB164_162.out
                  have hms121_1 := NB162_164.out
                  have hs122 : w120.cell? ⟨gb162, 1, none⟩ = some (.int .i64 0) := (blk_cell BK162.out 1).trans rfl
                  have hfs122 := blk_frozen BK162.out 1
                  have hns122_1 := NB164_162.out
                  have hms122_1 := NB162_164.out
                  have hs123 : w120.cell? ⟨gb162, 2, none⟩ = some (.int .i64 0) := (blk_cell BK162.out 2).trans rfl
                  have hfs123 := blk_frozen BK162.out 2
                  have hns123_1 := NB164_162.out
                  have hms123_1 := NB162_164.out
                  have hs124 : w120.cell? ⟨gb162, 3, none⟩ = some (.int .u8 0) := (blk_cell BK162.out 3).trans rfl
                  have hfs124 := blk_frozen BK162.out 3
                  have hns124_1 := NB164_162.out
                  have hms124_1 := NB162_164.out
                  have hs125 : w120.cell? ⟨gb162, 4, none⟩ = some (.int .i64 0) := (blk_cell BK162.out 4).trans rfl
                  have hfs125 := blk_frozen BK162.out 4
                  have hns125_1 := NB164_162.out
                  have hms125_1 := NB162_164.out
                  have hs126 : w120.cell? ⟨gb162, 5, none⟩ = some (.string (⟨#[]⟩ : ByteArray)) := (blk_cell BK162.out 5).trans rfl
                  have hfs126 := blk_frozen BK162.out 5
                  have hns126_1 := NB164_162.out
                  have hms126_1 := NB162_164.out
                  refine skip_ (w1 := ?_) (by rfl) rfl ?_ ?_
                  rotate_left
                  ·go_simp
                   rfl
                  refine hK.out _ _ ⟨((cell_far (p := ⟨gb162, _, none⟩) NB164_162.out _).trans (((cell_far (p := ⟨gb162, _, none⟩) NB164_162.out _).trans (((cell_far (p := ⟨gb162, _, none⟩) NB164_162.out _).trans (((cell_far (p := ⟨gb162, _, none⟩) NB164_162.out _).trans (((cell_far (p := ⟨gb162, _, none⟩) NB164_162.out _).trans (((cell_far (p := ⟨gb162, _, none⟩) NB164_162.out _).trans (hHeld.1)))))))))))), ((cell_far (p := ⟨gb162, _, none⟩) NB164_162.out _).trans (((cell_far (p := ⟨gb162, _, none⟩) NB164_162.out _).trans (((cell_far (p := ⟨gb162, _, none⟩) NB164_162.out _).trans (((cell_far (p := ⟨gb162, _, none⟩) NB164_162.out _).trans (((cell_far (p := ⟨gb162, _, none⟩) NB164_162.out _).trans (((cell_far (p := ⟨gb162, _, none⟩) NB164_162.out _).trans (hHeld.2.1)))))))))))), ((cell_far (p := ⟨gb162, _, none⟩) NB164_162.out _).trans (((cell_far (p := ⟨gb162, _, none⟩) NB164_162.out _).trans (((cell_far (p := ⟨gb162, _, none⟩) NB164_162.out _).trans (((cell_far (p := ⟨gb162, _, none⟩) NB164_162.out _).trans (((cell_far (p := ⟨gb162, _, none⟩) NB164_162.out _).trans (((cell_far (p := ⟨gb162, _, none⟩) NB164_162.out _).trans (hHeld.2.2.1)))))))))))), ((cell_far (p := ⟨gb162, _, none⟩) NB164_162.out _).trans (((cell_far (p := ⟨gb162, _, none⟩) NB164_162.out _).trans (((cell_far (p := ⟨gb162, _, none⟩) NB164_162.out _).trans (((cell_far (p := ⟨gb162, _, none⟩) NB164_162.out _).trans (((cell_far (p := ⟨gb162, _, none⟩) NB164_162.out _).trans (((cell_far (p := ⟨gb162, _, none⟩) NB164_162.out _).trans (hHeld.2.2.2.1)))))))))))), ((cell_far (p := ⟨gb162, _, none⟩) NB164_162.out _).trans (((cell_far (p := ⟨gb162, _, none⟩) NB164_162.out _).trans (((cell_far (p := ⟨gb162, _, none⟩) NB164_162.out _).trans (((cell_far (p := ⟨gb162, _, none⟩) NB164_162.out _).trans (((cell_far (p := ⟨gb162, _, none⟩) NB164_162.out _).trans (((cell_far (p := ⟨gb162, _, none⟩) NB164_162.out _).trans (hHeld.2.2.2.2.1)))))))))))), ((cell_far (p := ⟨gb162, _, none⟩) NB164_162.out _).trans (((cell_far (p := ⟨gb162, _, none⟩) NB164_162.out _).trans (((cell_far (p := ⟨gb162, _, none⟩) NB164_162.out _).trans (((cell_far (p := ⟨gb162, _, none⟩) NB164_162.out _).trans (((cell_far (p := ⟨gb162, _, none⟩) NB164_162.out _).trans (((cell_far (p := ⟨gb162, _, none⟩) NB164_162.out _).trans (hHeld.2.2.2.2.2))))))))))))⟩ (fun hHeld => ?_)
                  clear hK K
                  refine pure_ (i := 5) (N := some 5) (v := ?_) (a' := ?_) #[true, true, true, true, true, true, false] rfl rfl (by kernel_rfl) (fun _ _ _ h => h) (Or.inl ⟨by rfl, ?_⟩) ?_ ?_
                  rotate_left
                  ·intro w'
                   go_simp
                   with_reducible rfl
                  rotate_left
                  ·simp only [Act.put, List.setIfInBounds_toArray, List.set_cons_zero, List.set_cons_succ, i64_w, i32_w]
                   rfl
                  refine pure_ (i := 6) (N := some 6) (v := ?_) (a' := ?_) #[true, true, true, true, true, true, true] rfl rfl (by kernel_rfl) (fun _ _ _ h => h) (Or.inl ⟨by rfl, ?_⟩) ?_ ?_
                  rotate_left
                  ·intro w'
                   go_simp
                   with_reducible rfl
                  rotate_left
                  ·simp only [Act.put, List.setIfInBounds_toArray, List.set_cons_zero, List.set_cons_succ, i64_w, i32_w]
                   rfl
                  refine done_ (by kernel_rfl) ?_
                  try go_wp2
                  refine bodyPost_ret (results_ctt rfl _ _ gb162 24 #[.int .i64 0, .int .i64 0, .int .i64 0, .int .u8 0, .int .i64 0, .string (⟨#[]⟩ : ByteArray)] (0, 0) _ rfl (by (with_reducible repeat (first | refine bN ?_ _ | refine bD ?_ | refine bA ?_ _)); refine blk_put (cs := #[.int .i64 0, .int .i64 0, .int .i64 0, .int .u8 0, .int .i64 0, .string (⟨#[]⟩ : ByteArray)]) ?_ 5 _ rfl; (with_reducible repeat (first | refine bN ?_ _ | refine bD ?_ | refine bA ?_ _)); refine blk_put (cs := #[.int .i64 0, .int .i64 0, .int .i64 0, .int .u8 0, .int .i64 0, .string (⟨#[]⟩ : ByteArray)]) ?_ 4 _ rfl; (with_reducible repeat (first | refine bN ?_ _ | refine bD ?_ | refine bA ?_ _)); refine blk_put (cs := #[.int .i64 0, .int .i64 0, .int .i64 0, .int .u8 0, .int .i64 0, .string (⟨#[]⟩ : ByteArray)]) ?_ 3 _ rfl; (with_reducible repeat (first | refine bN ?_ _ | refine bD ?_ | refine bA ?_ _)); refine blk_put (cs := #[.int .i64 0, .int .i64 0, .int .i64 0, .int .u8 0, .int .i64 0, .string (⟨#[]⟩ : ByteArray)]) ?_ 2 _ rfl; (with_reducible repeat (first | refine bN ?_ _ | refine bD ?_ | refine bA ?_ _)); refine blk_put (cs := #[.int .i64 0, .int .i64 0, .int .i64 0, .int .u8 0, .int .i64 0, .string (⟨#[]⟩ : ByteArray)]) ?_ 1 _ rfl; (with_reducible repeat (first | refine bN ?_ _ | refine bD ?_ | refine bA ?_ _)); refine blk_put (cs := #[.int .i64 0, .int .i64 0, .int .i64 0, .int .u8 0, .int .i64 0, .string (⟨#[]⟩ : ByteArray)]) ?_ 0 _ rfl; (with_reducible repeat (first | refine bN ?_ _ | refine bD ?_ | refine bA ?_ _)); exact BK162.out) Try.underlying24 rfl (by kernel_rfl)) rfl ?_
                  exact ⟨by first | rfl | (simp [errW_none, errW_some] <;> rfl) | (simp [*, errW_none, errW_some] <;> rfl), by repeat (first | (with_reducible first | exact HB.out | apply wA | apply wN | apply wD | refine wS ?_ GE162.out | refine wS ?_ GE164.out) | exact HB.out)⟩
                ·rw [if_neg c100] at H
                 have c100b0 : ((bt a0 t163) == 34) = false := beq_eq_false_iff_ne.mpr c100
                 have c100b1 : ((bt a0 t163) != 34) = true := bne_iff_ne.mpr c100
                 simp only [Option.some.injEq, Prod.mk.injEq] at H
                 obtain ⟨rfl, rfl, rfl, rfl, rfl, rfl, rfl, rfl⟩ := H
                 have hnb127 := NB162_164.out; have hnc127 := NB164_162.out; have hcz128_0 : wc.cell? ⟨gb162, 0, none⟩ = some (.int .i64 0) := (blk_cell BK162.out 0).trans rfl; have hcz128_1 : wc.cell? ⟨gb162, 1, none⟩ = some (.int .i64 0) := (blk_cell BK162.out 1).trans rfl; have hcz128_2 : wc.cell? ⟨gb162, 2, none⟩ = some (.int .i64 0) := (blk_cell BK162.out 2).trans rfl; have hcz128_3 : wc.cell? ⟨gb162, 3, none⟩ = some (.int .u8 0) := (blk_cell BK162.out 3).trans rfl; have hcz128_4 : wc.cell? ⟨gb162, 4, none⟩ = some (.int .i64 0) := (blk_cell BK162.out 4).trans rfl; have hcz128_5 : wc.cell? ⟨gb162, 5, none⟩ = some (.string (⟨#[]⟩ : ByteArray)) := (blk_cell BK162.out 5).trans rfl; have hfz128_0 := blk_frozen BK162.out 0; have hfz128_1 := blk_frozen BK162.out 1; have hfz128_2 := blk_frozen BK162.out 2; have hfz128_3 := blk_frozen BK162.out 3; have hfz128_4 := blk_frozen BK162.out 4; have hfz128_5 := blk_frozen BK162.out 5
                 go_wp2
                 refine bodyPost_ret (results_ctt rfl _ _ gb162 24 #[.int .i64 0, .int .i64 0, .int .i64 0, .int .u8 0, .int .i64 0, .string (⟨#[]⟩ : ByteArray)] (0, 0) _ rfl (by (with_reducible repeat (first | refine bN ?_ _ | refine bD ?_ | refine bA ?_ _)); refine blk_put (cs := #[.int .i64 0, .int .i64 0, .int .i64 0, .int .u8 0, .int .i64 0, .string (⟨#[]⟩ : ByteArray)]) ?_ 5 _ rfl; (with_reducible repeat (first | refine bN ?_ _ | refine bD ?_ | refine bA ?_ _)); refine blk_put (cs := #[.int .i64 0, .int .i64 0, .int .i64 0, .int .u8 0, .int .i64 0, .string (⟨#[]⟩ : ByteArray)]) ?_ 4 _ rfl; (with_reducible repeat (first | refine bN ?_ _ | refine bD ?_ | refine bA ?_ _)); refine blk_put (cs := #[.int .i64 0, .int .i64 0, .int .i64 0, .int .u8 0, .int .i64 0, .string (⟨#[]⟩ : ByteArray)]) ?_ 3 _ rfl; (with_reducible repeat (first | refine bN ?_ _ | refine bD ?_ | refine bA ?_ _)); refine blk_put (cs := #[.int .i64 0, .int .i64 0, .int .i64 0, .int .u8 0, .int .i64 0, .string (⟨#[]⟩ : ByteArray)]) ?_ 2 _ rfl; (with_reducible repeat (first | refine bN ?_ _ | refine bD ?_ | refine bA ?_ _)); refine blk_put (cs := #[.int .i64 0, .int .i64 0, .int .i64 0, .int .u8 0, .int .i64 0, .string (⟨#[]⟩ : ByteArray)]) ?_ 1 _ rfl; (with_reducible repeat (first | refine bN ?_ _ | refine bD ?_ | refine bA ?_ _)); refine blk_put (cs := #[.int .i64 0, .int .i64 0, .int .i64 0, .int .u8 0, .int .i64 0, .string (⟨#[]⟩ : ByteArray)]) ?_ 0 _ rfl; (with_reducible repeat (first | refine bN ?_ _ | refine bD ?_ | refine bA ?_ _)); exact BK162.out) Try.underlying24 rfl (by kernel_rfl)) rfl ?_
                 exact ⟨by first | rfl | (simp [errW_none, errW_some] <;> rfl) | (simp [*, errW_none, errW_some] <;> rfl), by repeat (first | (with_reducible first | exact HB.out | apply wA | apply wN | apply wD | refine wS ?_ GE162.out | refine wS ?_ GE164.out) | exact HB.out)⟩
      ·rw [if_neg c12] at H
       exact absurd H (by simp)
     ·rw [if_neg c11] at H
      exact absurd H (by simp)

end Go.Proofs.Ytcnojfoiolbnaaa.QJsonlexNumbers
