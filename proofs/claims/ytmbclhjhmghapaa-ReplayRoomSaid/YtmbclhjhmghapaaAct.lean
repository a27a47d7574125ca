/- term.Of, works, over; what the law's acts are. -/
import Derived.Test.YtmbclhjhmghapaaRr1
import Derived.Test.YtmbclhjhmghapaaConv
namespace Go.Proofs.Ytmbclhjhmghapaa
open Go.RowKit

theorem of_any (w : World) (s : ByteArray) : Calls Try.prog 39 #[.string s] w fun e w' => e = .returned (.agg #[.int .i64 0, .string s, .int .i64 0, .slice none 0 0]) ∧ Below w.heap.size w w' := by
  go_enter Try.func39, Try.ntmps39
  go_wp2_with fail
  exact bodyPost_ret (v := .agg #[.int .i64 0, .string s, .int .i64 0, .slice none 0 0]) (by simp [results, Try.results39, go_sem]) rfl ⟨rfl, (Below.refl _ _).alloc (Nat.le_refl _) _⟩
def ofT (s : ByteArray) : Tm := .mk 0 s 0 []
theorem ofRep (I : Nat → Prop) (w : World) (s : ByteArray) (h : InS s) : Rep I w [.int .i64 0, .string s, .int .i64 0, .slice none 0 0] (ofT s) := Rep.of (by constructor <;> decide) (by constructor <;> decide) h (RSl.nil _ _ _ _)

/-- what came: a term, until when, when -/
structure Act where
  m : Tm
  til : Int
  now : Int
def RAct (I : Nat → Prop) (w : World) (cs : List Value) (x : Act) : Prop := ∃ ct, Rep I w ct x.m ∧ cs = ct ++ [.int .i64 x.til, .int .i64 x.now] ∧ InI x.til ∧ InI x.now
abbrev RActs (I : Nat → Prop) (w : World) : Value → List Act → Prop := RSl I w 6 (RAct I w)
theorem RActs.on {I : Nat → Prop} {w w' : World} {v : Value} {l : List Act} (h : RActs I w v l) (ho : Old I w) (hb : Below w.heap.size w w') : RActs I w' v l :=
  RSl.frame h (ho.same hb) (fun _ h => h) fun _ _ ⟨ct, h1, h2, h3⟩ => ⟨ct, h1.on ho hb, h2, h3⟩

/-- an act laid open -/
theorem RActs.at {I : Nat → Prop} {w : World} {a : Option Addr} {n cap : Nat} {l : List Act} (h : RActs I w (.slice a n cap) l) (i : Nat) (hi : i < l.length) :
    ∃ b o u c, a = some ⟨b, o, none⟩ ∧ I b ∧ Rep I w [.int .i64 l[i].m.k, .string l[i].m.s, .int .i64 l[i].m.n, .slice u l[i].m.l.length c] l[i].m ∧ InI l[i].til ∧ InI l[i].now ∧
      w.cell? ⟨b, o + i * 6, none⟩ = some (.int .i64 l[i].m.k) ∧ w.cell? ⟨b, o + i * 6 + 1, none⟩ = some (.string l[i].m.s) ∧ w.cell? ⟨b, o + i * 6 + 2, none⟩ = some (.int .i64 l[i].m.n) ∧
      w.cell? ⟨b, o + i * 6 + 3, none⟩ = some (.slice u l[i].m.l.length c) ∧ w.cell? ⟨b, o + i * 6 + 4, none⟩ = some (.int .i64 l[i].til) ∧ w.cell? ⟨b, o + i * 6 + 5, none⟩ = some (.int .i64 l[i].now) := by
  obtain ⟨a', cap', f, e, hs, hr⟩ := h
  injection e with e1 e2 e3
  subst e1; subst e2; subst e3
  obtain ⟨b, o, rfl, hb⟩ := hs.pos (by omega)
  obtain ⟨ct, h1, h2, h3, h4⟩ := hr i hi
  obtain ⟨u, c, e, _⟩ := h1.inv
  rw [e] at h1 h2
  have hc := hs.cells hi
  rw [h2] at hc
  exact ⟨b, o, u, c, rfl, hb, h1, h3, h4, hc 0 _ rfl, hc 1 _ rfl, hc 2 _ rfl, hc 3 _ rfl, hc 4 _ rfl, hc 5 _ rfl⟩
theorem RActs.form {I : Nat → Prop} {w : World} {v : Value} {l : List Act} (h : RActs I w v l) : ∃ a cap, v = .slice a l.length cap ∧ l.length ≤ 4398046511104 := by
  obtain ⟨a', cap', f, e, hs, hr⟩ := h
  exact ⟨a', cap', e, Nat.le_trans hs.le hs.max⟩

theorem over_any (I : Nat → Prop) (w : World) (v : Value) (l : List Act) (hI : Old I w) (h : RActs I w v l) :
    Calls Try.prog 11 #[v] w fun e w' => ∃ b : Bool, e = .returned (.bool b) ∧ (b = false → l.length ≤ 60) ∧ Below w.heap.size w w' := by
  obtain ⟨a, cap, rfl, hl⟩ := h.form
  have H := Lib.hid h
  clear h
  go_enter Try.func11, Try.ntmps11
  go_wp2_with fail
  go_loopw [3] (fun i wr => ∃ k : Nat, k ≤ l.length ∧ i = .int .i64 k ∧ Hid (Below w.heap.size w wr)) (fun i _ => l.length - (intOf i).toNat)
  case atStart => exact ⟨0, Nat.zero_le _, rfl, Below.refl _ _⟩
  case round =>
    obtain ⟨k, hk1, rfl, hbl⟩ := hrel
    by_cases h1 : k < l.length
    · obtain ⟨b, o, u, c, rfl, hb, hr, _, _, c0, c1, c2, c3, c4, c5⟩ := (H.out.on hI hbl.out).at k h1
      have hbr : b < wr.heap.size := Nat.lt_of_lt_of_le (hI b hb) hbl.out.size
      have HR := Lib.hid hr
      have HI := Lib.hid hI
      clear hr hI
      go_wp2_with fail
      refine (large_any l[k].m I wr _ 20 (HI.out.on hbl.out) HR.out).mono ?_
      rintro e w1 ⟨⟨r, rfl⟩, hb1⟩
      have HB := Lib.hid (hbl.out.trans (hb1.mono hbl.out.size))
      clear hb1
      cases r with
      | true =>
        go_wp2_with fail
        go_ret
        exact ⟨true, rfl, fun h => (by cases h), HB.out⟩
      | false =>
        go_wp2_with fail
        go_roundw
        case rel => exact ⟨k + 1, by omega, by go_num, HB.out⟩
        case measure => simp [intOf]; omega
    · go_wp2_with fail
      go_ret
      exact ⟨_, rfl, fun h => (by simp at h; omega), hbl.out⟩
end Go.Proofs.Ytmbclhjhmghapaa
