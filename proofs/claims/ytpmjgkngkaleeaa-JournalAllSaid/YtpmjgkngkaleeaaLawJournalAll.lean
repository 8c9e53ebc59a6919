import Derived.Test.YtpmjgkngkaleeaaOpenT
import Derived.Test.YtpmjgkngkaleeaaJourInv
/- JournalAll: all that is appended is there, in order, each as it was; all deeds, one behind the other, lead there. No condition. -/
namespace Go.Proofs.Ytpmjgkngkaleeaa
open Go.ChangeShapes Go.WideShapes Go.ChangeAt Go.RowKit Go.WideMaps Go.WideElems
open Go.ChangeMaps (setBlock shut_map_nil open_string shut_string keptBut_setBlock frozen?_setBlock heap_setBlock_same)

abbrev flc (g : Fl) : Obj := .cells #[.slice g.a g.bl.length g.c] 24 (0, 0)
/-- records so far: behind world v: the flash in its block, the first one behind it, the records, the deeds -/
structure AllMem (v wr : World) (b0 : Nat) (g0 g : Fl) (v6 v7 : Value) (F R : List ByteArray) (D : List Ded) : Prop where
  cell : wr.heap[v.heap.size]? = some (flc g)
  res : FlRes wr b0 g F
  first : wr.heap[v.heap.size + 1]? = some (flc g0)
  texts : TOwn wr v.heap.size v6 R
  deeds : DOwn wr v.heap.size v7 D
  apart : ∀ b, (Value.slice g.a g.bl.length g.c).ownBlock = some b → v6.ownBlock ≠ some b
  below : Below v.heap.size v wr
def AllRel (v : World) (b0 : Nat) (g0 : Fl) (F0 : List ByteArray) (n : Nat) (v6 v7 i : Value) (wr : World) : Prop :=
  ∃ (j : Nat) (g : Fl) (F R : List ByteArray) (D : List Ded) (k e : Nat), i = .int .i64 (j : Int) ∧ j ≤ n ∧ JInv F0 F R D k e ∧ AllMem v wr b0 g0 g v6 v7 F R D
theorem AllMem.later {v wr w' : World} {b0 : Nat} {g0 g : Fl} {v6 v7 : Value} {F R : List ByteArray} {D : List Ded} (h : AllMem v wr b0 g0 g v6 v7 F R D) (hb : Below wr.heap.size wr w') : AllMem v w' b0 g0 g v6 v7 F R D :=
  ⟨(hb.block _ (Array.getElem?_eq_some_iff.1 h.cell).1).trans h.cell, ⟨h.res.own.below hb (Nat.le_refl _), h.res.cap, h.res.is⟩, (hb.block _ (Array.getElem?_eq_some_iff.1 h.first).1).trans h.first,
    h.texts.below hb (Nat.le_refl _), h.deeds.below hb (Nat.le_refl _), h.apart, h.below.trans (hb.mono h.below.size)⟩
/-- another flash is the flash: its row made since -/
theorem AllMem.put {v wr w' : World} {b0 : Nat} {g0 g f' : Fl} {v6 v7 : Value} {F F' R : List ByteArray} {D : List Ded} (h : AllMem v wr b0 g0 g v6 v7 F R D) (hb : Below wr.heap.size wr w') (hr : FlRes w' wr.heap.size f' F') (h0 : b0 ≤ wr.heap.size) :
    AllMem v (w'.setCell ⟨v.heap.size, 0, none⟩ (.slice f'.a f'.bl.length f'.c)) b0 g0 f' v6 v7 F' R D := by
  have hl := h.later hb
  refine ⟨heap_setCell_same w' v.heap.size 0 _ _ _ hl.cell, ⟨(hr.own.set_other hl.cell (by decide) 0 _).more h0, hr.cap, hr.is⟩, ?_, hl.texts.set_other hl.cell (by decide) 0 _, hl.deeds.set_other hl.cell (by decide) 0 _, ?_, hl.below.setCell (p := ⟨v.heap.size, 0, none⟩) (Nat.le_refl _) _⟩
  · rw [Below.heap_setCell _ _ _ _ (by simp)]; exact hl.first
  · intro b hb1 hb2
    have h1 := (own_lt hr.own hb1).2
    have h2 := (own_lt h.texts hb2).1
    omega
/-- a record more -/
theorem AllMem.text {v wr w' : World} {b0 : Nat} {g0 g : Fl} {v6 v6' v7 : Value} {F R R' : List ByteArray} {D : List Ded} (h : AllMem v wr b0 g0 g v6 v7 F R D) (ht : TOwn w' v.heap.size v6' R') (hg : wr.grownBy w' v6.ownBlock) (ho : v6'.ownBlock = v6.ownBlock ∨ v6'.ownBlock = some wr.heap.size) (hbv : Below v.heap.size wr w') :
    AllMem v w' b0 g0 g v6' v7 F R' D := by
  refine ⟨grown_block h.texts hg h.cell (by decide), ⟨h.res.own.grown hg (fun b hb => h.apart b hb), h.res.cap, h.res.is⟩, grown_block h.texts hg h.first (by decide), ht, h.deeds.grown hg (own_ne h.deeds h.texts (by decide)), ?_, h.below.trans hbv⟩
  intro b hb1 hb2
  rcases ho with ho | ho
  · exact h.apart b hb1 (ho ▸ hb2)
  · rw [ho] at hb2
    have := (own_lt h.res.own hb1).1
    injection hb2 with hb2
    omega
/-- deeds more -/
theorem AllMem.more {v wr w' : World} {b0 : Nat} {g0 g : Fl} {v6 v7 v7' : Value} {F R : List ByteArray} {D D' : List Ded} (h : AllMem v wr b0 g0 g v6 v7 F R D) (ht : DOwn w' v.heap.size v7' D') (hg : wr.grownBy w' v7.ownBlock) (hbv : Below v.heap.size wr w') :
    AllMem v w' b0 g0 g v6 v7' F R D' :=
  ⟨grown_block h.deeds hg h.cell (by decide), ⟨h.res.own.grown hg (own_ne h.res.own h.deeds (by decide)), h.res.cap, h.res.is⟩, grown_block h.deeds hg h.first (by decide), h.texts.grown hg (own_ne h.texts h.deeds (by decide)), ht, h.apart, h.below.trans hbv⟩
/-- what an Append in a round leaves -/
def AppCut (wr : World) (E : Int) (F0 : List ByteArray) (D0 : List Ded) (p d e : Value) (wx : World) : Prop :=
  ∃ (f' : Fl) (A : Option Addr) (c : Nat) (D : List Ded) (B : Nat), p = .pointer (some ⟨B, 0, none⟩) ∧ d = .slice A D.length c ∧ e = .int .i64 E ∧ wx.heap[B]? = some (flc f') ∧ wr.heap.size ≤ B ∧ FlRes wx wr.heap.size f' F0 ∧ DOwn wx wr.heap.size (.slice A D.length c) D ∧ D = D0 ∧ Below wr.heap.size wr wx
theorem FlRes.more {w : World} {b b' : Nat} {f : Fl} {l : List ByteArray} (h : FlRes w b f l) (hb : b' ≤ b) : FlRes w b' f l := ⟨h.own.more hb, h.cap, h.is⟩
theorem AppCut.new {wr w6 : World} {E : Int} {FA : List ByteArray} {DA D : List Ded} {f' : Fl} {A : Option Addr} {c : Nat} (hb : Below wr.heap.size wr w6) (hr : FlRes w6 wr.heap.size f' FA) (hO : DOwn w6 wr.heap.size (.slice A D.length c) D) (hD : D = DA) :
    AppCut wr E FA DA (.pointer (some ⟨w6.heap.size, 0, none⟩)) (.slice A DA.length c) (.int .i64 E) (w6.alloc (.cells #[.slice f'.a f'.bl.length f'.c] 24)) := by
  have ha : Below w6.heap.size w6 (w6.alloc (.cells #[.slice f'.a f'.bl.length f'.c] 24)) := (Below.refl _ _).alloc (Nat.le_refl _) _
  exact ⟨f', A, c, D, w6.heap.size, rfl, by rw [hD], rfl, heap_alloc_new _ _, hb.size, ⟨hr.own.below ha (Nat.le_refl _), hr.cap, hr.is⟩, hO.below ha (Nat.le_refl _), hD, hb.trans (ha.mono hb.size)⟩
theorem AppCut.old {wr w6 : World} {E : Int} {FA : List ByteArray} {DA D : List Ded} {f' : Fl} {A : Option Addr} {c B : Nat} {x : Value} (hz : w6.heap[B]? = some (.cells #[x] 24 (0, 0))) (hB : wr.heap.size ≤ B) (hb : Below wr.heap.size wr w6) (hr : FlRes w6 wr.heap.size f' FA) (hO : DOwn w6 wr.heap.size (.slice A D.length c) D) (hD : D = DA) :
    AppCut wr E FA DA (.pointer (some ⟨B, 0, none⟩)) (.slice A DA.length c) (.int .i64 E) (w6.setCell ⟨B, 0, none⟩ (.slice f'.a f'.bl.length f'.c)) :=
  ⟨f', A, c, D, B, rfl, by rw [hD], rfl, heap_setCell_same w6 B 0 _ _ _ hz, hB, ⟨hr.own.set_other hz (by decide) 0 _, hr.cap, hr.is⟩, hO.set_other hz (by decide) 0 _, hD, hb.setCell (p := ⟨B, 0, none⟩) hB _⟩
theorem f32_ok : flErr (List.replicate 32 blank) = 0 := flErr_ok.2 ⟨by rw [List.length_replicate]; omega, fun s hs => by rw [(List.mem_replicate.1 hs).2]; rfl⟩

set_option maxHeartbeats 4000000 in
set_option maxRecDepth 100000 in
theorem JournalAll_any (rA : Option Addr) (rl : List ByteArray) (rc : Nat) (w : World) (h : TextsOk w rA rl ∧ rl.length ≤ rc) :
    Calls Try.prog 7 #[.slice rA rl.length rc] w fun e w' => e = .returned (.bool true) ∧ Below w.heap.size w w' := by
  have hn63 := h.1.len
  unfold big at hn63
  have HROW := Lib.hid h.1.row
  have HEACH := Lib.hid h.1.each
  have cJ := Lib.hid (fun W => journalBegun_any W)
  have cB := Lib.hid (fun W => flashBegun_any W)
  have cN := Lib.hid (fun W => Format_any 32 W)
  rw [show fmtErr 32 = 0 from rfl, resIf_zero rfl] at cN
  obtain ⟨F0, hF0⟩ : ∃ F, F = List.replicate 32 blank := ⟨_, rfl⟩
  rw [show List.replicate (32 : Int).toNat blank = F0 from hF0.symm] at cN
  have HF0 := Lib.hid (show flErr F0 = 0 by rw [hF0]; exact f32_ok)
  have HJ0 := Lib.hid (show jload (flat F0) = some (0, [], 0) by rw [hF0]; exact load_blank 32)
  clear h hF0
  go_enter Try.func7, Try.ntmps7
  go_wp2_with (first
    | (go_at_call 25; refine (cJ.out _).mono ?_; rintro e w1 ⟨rfl, hb1⟩)
    | (go_at_call 9; refine (cB.out _).mono ?_; rintro e w2 ⟨rfl, hb2⟩
       have HB2 := Lib.hid (hb1.trans (hb2.mono hb1.size))
       clear hb1 hb2)
    | (go_at_call 26; refine (cN.out _).mono ?_; rintro e w3 ⟨hb3, g0, rfl, hr3⟩
       obtain ⟨w4, hw4⟩ : ∃ x, x = w3.alloc (.cells #[.slice g0.a g0.bl.length g0.c] 24) := ⟨_, rfl⟩
       obtain ⟨y4, hY4, hz4, hb4⟩ := box_new hw4
       have hw4' := hw4.symm
       obtain ⟨w5, hw5⟩ : ∃ x, x = w4.alloc (.cells #[.slice g0.a g0.bl.length g0.c] 24) := ⟨_, rfl⟩
       obtain ⟨y5, hY5, hz5, hb5⟩ := box_new hw5
       have hw5' := hw5.symm
       have hb35 := hb4.trans (hb5.mono (by omega))
       have HM5 := Lib.hid (show AllMem w3 w5 w2.heap.size g0 g0 (.slice none 0 0) (.slice none 0 0) F0 [] [] from
         ⟨(hb5.block _ (by omega)).trans hY4, ⟨hr3.own.below hb35 (Nat.le_refl _), hr3.cap, hr3.is⟩, by rw [← hz4]; exact hY5, TOwn.nil _ _, World.ownsRow_nil _ _ _ _, (fun b _ hb => by cases hb), hb35⟩)
       have HG3 := Lib.hid (hr3.ok (.inr HF0.out))
       have HGI := Lib.hid hr3.is
       have HB3 := Lib.hid (HB2.out.trans (hb3.mono HB2.out.size))
       have HZ3 := Lib.hid hb3.size
       have HZ4 := Lib.hid hz4
       clear hw4 hw5 hY4 hY5 hz4 hz5 hb3 hb4 hb5 hr3 hb35))
  go_loopw [6, 7, 8] (fun v6 v7 i wr => AllRel w3 w2.heap.size g0 F0 rl.length v6 v7 i wr) (fun _ _ i _ => rl.length - (intOf i).toNat)
  case atStart => exact ⟨0, g0, F0, [], [], 0, 0, rfl, Nat.zero_le _, JInv.start HF0.out HJ0.out, HM5.out⟩
  case round =>
    obtain ⟨j, g, F, R, D, k, e, rfl, hj, hI, hM⟩ := hrel
    have HI := Lib.hid hI
    have HM := Lib.hid hM
    have y0 := cell_of_heap hM.cell 0
    have yf := free_of_heap hM.cell 0
    simp only [List.getElem?_toArray, List.getElem?_cons_zero] at y0
    have HBR := Lib.hid (HB3.out.trans (hM.below.mono HB3.out.size))
    by_cases hlt : j < rl.length
    · have hlt' : (j : Int) < rl.length := by omega
      obtain ⟨ad, rfl, hab, h0⟩ := text_at HROW.out HBR.out j hlt
      have hsz := HEACH.out _ (List.getElem_mem hlt)
      obtain ⟨s, hs⟩ : ∃ s, s = rl[j]'hlt := ⟨_, rfl⟩
      rw [← hs] at h0 hsz
      have hgok : g.ok wr := hM.res.ok (.inr hI.ok)
      have cA := Lib.hid (fun W (hW : Below wr.heap.size wr W) => Append_any g s W (hgok.below hW) hsz)
      rw [hM.res.is] at cA
      obtain ⟨EA, hEA⟩ : ∃ E, E = appErr F s.size := ⟨_, rfl⟩
      obtain ⟨FA, hFA⟩ : ∃ E, E = appRes F (bytesOf s) := ⟨_, rfl⟩
      obtain ⟨DA, hDA⟩ : ∃ E, E = appDs F (bytesOf s) := ⟨_, rfl⟩
      rw [← hEA, ← hFA, ← hDA] at cA
      have HEA := Lib.hid hEA
      have HFA := Lib.hid hFA
      have HDA := Lib.hid hDA
      have l1 : w3.heap.size < wr.heap.size := cell_lt' y0
      have l2 : (ad.add j).block < wr.heap.size := cell_lt' h0
      clear hs hI hM hgok hEA hFA hDA
      go_upto_region 12 with fail
      have HC0 := Lib.hid (show Below wr.heap.size wr wr ∧ wr.cell? ⟨w3.heap.size, 0, none⟩ = some (.slice g.a g.bl.length g.c) ∧ wr.cell? (ad.add j) = some (.string s) from ⟨Below.refl _ _, by assumption, by assumption⟩)
      have HCD := Lib.hid (show ∀ W' : World, (Below wr.heap.size wr W' ∧ W'.cell? ⟨w3.heap.size, 0, none⟩ = some (.slice g.a g.bl.length g.c) ∧ W'.cell? (ad.add j) = some (.string s)) → (Below wr.heap.size wr W'.drew ∧ W'.drew.cell? ⟨w3.heap.size, 0, none⟩ = some (.slice g.a g.bl.length g.c) ∧ W'.drew.cell? (ad.add j) = some (.string s)) from fun W' ⟨b, a0, a1⟩ => ⟨b.drew, a0, a1⟩)
      have HCS := Lib.hid (show ∀ W' W2 : World, (Below wr.heap.size wr W' ∧ W'.cell? ⟨w3.heap.size, 0, none⟩ = some (.slice g.a g.bl.length g.c) ∧ W'.cell? (ad.add j) = some (.string s)) → Below W'.heap.size W' W2 → (Below wr.heap.size wr W2 ∧ W2.cell? ⟨w3.heap.size, 0, none⟩ = some (.slice g.a g.bl.length g.c) ∧ W2.cell? (ad.add j) = some (.string s)) from fun W' W2 ⟨b, a0, a1⟩ hb => have s := b.size; ⟨b.trans (hb.mono s), (hb.cell (by first | omega | (simp; omega) | (simp only [block_of_add]; omega))).trans a0, (hb.cell (by first | omega | (simp; omega) | (simp only [block_of_add]; omega))).trans a1⟩)
      have HCA := Lib.hid (show ∀ (W' : World) (o : Obj), (Below wr.heap.size wr W' ∧ W'.cell? ⟨w3.heap.size, 0, none⟩ = some (.slice g.a g.bl.length g.c) ∧ W'.cell? (ad.add j) = some (.string s)) → (Below wr.heap.size wr (W'.alloc o) ∧ (W'.alloc o).cell? ⟨w3.heap.size, 0, none⟩ = some (.slice g.a g.bl.length g.c) ∧ (W'.alloc o).cell? (ad.add j) = some (.string s)) from fun W' o hc => HCS.out W' (W'.alloc o) hc ((Below.refl _ _).alloc (Nat.le_refl _) o))
      have HCX := Lib.hid (show ∀ (W' : World) (bX oX : Nat) (vX : Value), wr.heap.size ≤ bX → (Below wr.heap.size wr W' ∧ W'.cell? ⟨w3.heap.size, 0, none⟩ = some (.slice g.a g.bl.length g.c) ∧ W'.cell? (ad.add j) = some (.string s)) → (Below wr.heap.size wr (W'.setCell ⟨bX, oX, none⟩ vX) ∧ (W'.setCell ⟨bX, oX, none⟩ vX).cell? ⟨w3.heap.size, 0, none⟩ = some (.slice g.a g.bl.length g.c) ∧ (W'.setCell ⟨bX, oX, none⟩ vX).cell? (ad.add j) = some (.string s)) from fun W' bX oX vX hbX ⟨b, a0, a1⟩ => ⟨b.setCell (p := ⟨bX, oX, none⟩) hbX vX, (((Below.refl _ _).setCell (p := ⟨bX, oX, none⟩) hbX vX).cell (by first | omega | (simp; omega) | (simp only [block_of_add]; omega))).trans a0, (((Below.refl _ _).setCell (p := ⟨bX, oX, none⟩) hbX vX).cell (by first | omega | (simp; omega) | (simp only [block_of_add]; omega))).trans a1⟩)
      have HCL := Lib.hid (show ∀ W' : World, (Below wr.heap.size wr W' ∧ W'.cell? ⟨w3.heap.size, 0, none⟩ = some (.slice g.a g.bl.length g.c) ∧ W'.cell? (ad.add j) = some (.string s)) → Below wr.heap.size wr W' from fun W' hc => hc.1)
      go_cut [9, 10, 11] from 34 to 43 (fun p d e wx => AppCut wr EA FA DA p d e wx)
      case first =>
        have HZN := Lib.hid (show ∀ W' : World, Below (wr.alloc (.cells #[.slice none 0 0] 24)).drew.heap.size (wr.alloc (.cells #[.slice none 0 0] 24)).drew W' → W'.heap[wr.heap.size]? = some (.cells #[.slice none 0 0] 24 (0, 0)) from
          fun W' hb => (hb.block wr.heap.size (by show wr.heap.size < (wr.alloc _).heap.size; simp)).trans (heap_alloc_new wr _))
        go_region_held3 (fun W' => Below wr.heap.size wr W' ∧ W'.cell? ⟨w3.heap.size, 0, none⟩ = some (.slice g.a g.bl.length g.c) ∧ W'.cell? (ad.add j) = some (.string s)) (first | exact HC0.out | exact HCD.out _ HC0.out | exact HCS.out _ _ (by assumption) (by assumption) | exact HCS.out _ _ HC0.out (by assumption) | exact HCS.out _ _ (HCD.out _ HC0.out) (by assumption) | exact HCS.out _ _ (HCD.out _ (by assumption)) (by assumption) | exact HCD.out _ (by assumption) | exact HCA.out _ _ (by assumption) | exact HCA.out _ _ HC0.out | exact HCA.out _ _ (HCD.out _ HC0.out) | exact HCD.out _ (HCA.out _ _ (by assumption)) | exact HCA.out _ _ (HCS.out _ _ HC0.out (by assumption)) | exact HCA.out _ _ (HCS.out _ _ (HCD.out _ HC0.out) (by assumption)) | exact HCX.out _ _ _ _ (Nat.le_refl _) (by assumption) | exact HCX.out _ _ _ _ (Nat.le_refl _) (HCS.out _ _ (HCA.out _ _ HC0.out) (by assumption)) | exact HCX.out _ _ _ _ (Nat.le_refl _) (HCS.out _ _ (HCD.out _ (HCA.out _ _ HC0.out)) (by assumption)) | assumption) (first | (go_at_call 23; (with_reducible refine (cA.out _ (HCL.out _ (by assumption))).mono ?_); rintro e w6 ⟨hb6, f', A6, c6, D6, rfl, hr6, hO6, hD6⟩; have hbw6 := Lib.hid ((HCL.out _ (by assumption)).trans (hb6.mono (HCL.out _ (by assumption)).size)); have hrw6 := Lib.hid (hr6.more (HCL.out _ (by assumption)).size); have hOw6 := Lib.hid (hO6.more (HCL.out _ (by assumption)).size); have hDw6 := Lib.hid hD6; (try (have hz6 := HZN.out w6 hb6; have z6 := cell_of_heap hz6 0; have zf6 := free_of_heap hz6 0; simp only [List.getElem?_toArray, List.getElem?_cons_zero] at z6))))
        all_goals (
          go_wp2_with fail
          go_meet
          first
            | exact AppCut.new hbw6.out hrw6.out hOw6.out hDw6.out
            | exact AppCut.old hz6 (Nat.le_refl _) hbw6.out hrw6.out hOw6.out hDw6.out)
      case rest =>
        obtain ⟨f', A6, c6, D6, B9, rfl, rfl, rfl, hx9, hB9, hr7, hO7, hD7, hb7⟩ := hcut
        obtain ⟨w7, rfl⟩ : ∃ W : World, W = wc := ⟨_, rfl⟩
        have z9 := cell_of_heap hx9 0
        simp only [List.getElem?_toArray, List.getElem?_cons_zero] at z9
        have h7 := (hb7.cell (p := ad.add j) l2).trans h0
        have x7 := (hb7.cell (p := ⟨w3.heap.size, 0, none⟩) l1).trans y0
        have x7f := (hb7.frozen (p := ⟨w3.heap.size, 0, none⟩) l1).trans yf
        have HB7 := Lib.hid hb7
        have HR7 := Lib.hid hr7
        have HO7 := Lib.hid hO7
        have HD7 := Lib.hid hD7
        clear HC0 HCD HCS HCA HCL HCX cA hx9 hr7 hO7 hD7
        by_cases t : EA = 0
        · subst t
          have HAP := Lib.hid (HI.out.next (s := s) HEA.out.symm)
          have hFA2 := HFA.out
          unfold appRes at hFA2
          rw [bytes_length, ← HEA.out, resIf_zero rfl] at hFA2
          have hDA2 := HDA.out
          unfold appDs at hDA2
          rw [bytes_length, ← HEA.out, if_pos rfl] at hDA2
          have HAP2 := Lib.hid (show JInv F0 FA (R ++ [s]) (D ++ D6) (k + 1) (e + s.size) by rw [HD7.out, hFA2, hDA2]; exact HAP.out)
          have HM8 := Lib.hid (HM.out.put HB7.out HR7.out (by have := HM.out.below.size; have := HZ3.out; omega))
          obtain ⟨w8, hw8⟩ : ∃ x, x = w7.setCell ⟨w3.heap.size, 0, none⟩ (.slice f'.a f'.bl.length f'.c) := ⟨_, rfl⟩
          have hO8 := HO7.out.set_other (HM.out.later HB7.out).cell (by decide) 0 (.slice f'.a f'.bl.length f'.c)
          have h8 : w8.cell? (ad.add j) = some (.string s) := by
            rw [hw8, World.cell?_setCell_other _ _ _ _ (by intro e; have := congrArg Addr.block e; simp only at this; rw [block_of_add] at this; have := HM.out.below.size; have := HZ3.out; have := HB3.out.size; omega)]
            exact h7
          rw [← hw8] at HM8 hO8
          have hw8' := hw8.symm
          obtain ⟨w9, hw9⟩ : ∃ x, x = w8.alloc (.cells #[.string s] 9) := ⟨_, rfl⟩
          have hb9 : Below w8.heap.size w8 w9 := hw9 ▸ (Below.refl _ _).alloc (Nat.le_refl _) _
          have HM9 := Lib.hid (HM8.out.later hb9)
          have HR9 := Lib.hid (show Row strCells 1 w9 (some ⟨w8.heap.size, 0, none⟩) [s] from row_block (enc := strCells) (k := 1) (fun _ => rfl) (hw9 ▸ heap_alloc_new _ _) rfl)
          have HO9 := Lib.hid (hO8.below hb9 (Nat.le_refl _))
          have hw9' := hw9.symm
          have hRl := HI.out.many
          have hDl := HI.out.dl
          obtain ⟨hk5, he5⟩ := HI.out.bound
          have HL1 := Lib.hid (show R.length + [s].length ≤ 1000000 by simp only [List.length_singleton]; omega)
          have HL2 := Lib.hid (show D.length + D6.length ≤ 1000000 by
            have := HAP2.out.dl
            have := HAP2.out.bound
            rw [List.length_append] at *
            omega)
          clear hFA2 hDA2 hw8 hO8 hw9 hb9 hRl hDl hk5 he5 h7
          go_wp2_with (first
            | (at_builtin; refine append_textB w9 rfl (.tmp 64) (.tmp 69) rfl w3.heap.size _ R rfl HM9.out.texts (some ⟨w8.heap.size, 0, none⟩) 1 [s] rfl HR9.out HL1.out HM9.out.below.size ?_
               intro v6' w10 ht10 hb10 hg10 ho10
               have HM10 := Lib.hid (HM9.out.text ht10 hg10 ho10 hb10)
               have HO10 := Lib.hid (HO9.out.grown hg10 (own_ne HO9.out HM9.out.texts (by decide)))
               clear ht10 hb10 hg10 ho10)
            | (at_builtin; refine append_deedsB w10 rfl (.tmp 71) (.tmp 72) rfl w3.heap.size _ D rfl HM10.out.deeds A6 c6 D6 rfl HO10.out.row HL2.out HM10.out.below.size ?_
               intro v7' w11 ht11 hb11 hg11
               have HM11 := Lib.hid (HM10.out.more ht11 hg11 hb11)
               clear ht11 hb11 hg11))
          go_roundw
          case rel => exact ⟨j + 1, f', FA, R ++ [s], D ++ D6, k + 1, e + s.size, by go_num, hlt, HAP2.out, HM11.out⟩
          case measure => (simp [intOf]; try omega)
        · have u1 : (EA != 0) = true := by simp [t]
          have hne : s.size ≠ 0 → s.size ≤ 800 → EA = 8 := fun h1 h8 => by
            rw [HEA.out]; exact (HI.out.err (by rw [← HEA.out]; exact t) h1 h8).1
          have HM7 := Lib.hid (HM.out.later HB7.out)
          clear t x7 x7f z9
          by_cases t1 : s.size = 0
          · obtain rfl : s = ⟨#[]⟩ := by
              obtain ⟨x⟩ := s
              rw [Array.eq_empty_of_size_eq_zero t1]
            clear t1 hne
            go_wp2_with fail
            go_roundw
            case rel => exact ⟨j + 1, g, F, R, D, k, e, by go_num, hlt, HI.out, HM7.out⟩
            case measure => (simp [intOf]; try omega)
          · have hsn : (s.toList == (⟨#[]⟩ : ByteArray).toList) = false := str_ne (by rintro rfl; exact t1 rfl)
            have hse : s.toList.isEmpty = false := by
              cases h : s.toList with
              | nil => rw [h, show (⟨#[]⟩ : ByteArray).toList = [] from by kernel_rfl] at hsn; exact absurd hsn (by decide)
              | cons a l => rfl
            by_cases t2 : s.size ≤ 800
            · have t2' : (s.size : Int) ≤ 800 := by omega
              have t3 := hne t1 t2
              subst t3
              clear t1 hne hsn t2
              go_wp2_with fail
              go_roundw
              case rel => exact ⟨j + 1, g, F, R, D, k, e, by go_num, hlt, HI.out, HM7.out⟩
              case measure => (simp [intOf]; try omega)
            · have t2' : ¬ ((s.size : Int) ≤ 800) := by omega
              clear t1 hne hsn t2
              go_wp2_with fail
              go_roundw
              case rel => exact ⟨j + 1, g, F, R, D, k, e, by go_num, hlt, HI.out, HM7.out⟩
              case measure => (simp [intOf]; try omega)
    · have hgok : g.ok wr := hM.res.ok (.inr hI.ok)
      have y1 := cell_of_heap hM.first 0
      simp only [List.getElem?_toArray, List.getElem?_cons_zero] at y1
      rw [← HZ4.out] at y1
      obtain ⟨A6, c6, h6, hrow6, _⟩ := hM.texts.form
      obtain ⟨A7, c7, h7⟩ := own_slice hM.deeds
      have hD0 := hM.deeds
      rw [h7] at hD0
      subst h6 h7
      obtain ⟨o1, o2⟩ := hI.open_
      obtain ⟨d1, d2⟩ := hI.do_ HF0.out
      have hDb := hI.dl
      have hRb := hI.many
      obtain ⟨hk5, he5⟩ := hI.bound
      have hg0 : g0.ok wr := HG3.out.below hM.below
      have cO := Open_any g wr hgok
      rw [hM.res.is, o1, o2] at cO
      have CO := Lib.hid cO
      have cD := Lib.hid (fun W (hW : Below wr.heap.size wr W) => Do_any g0 A7 c7 D W (hg0.below hW) ((⟨hD0.row, by unfold big; omega⟩ : DedsOk wr A7 D).below hW))
      rw [HGI.out, d1, resIf_zero rfl, d2] at cD
      have HGOK := Lib.hid hgok
      have HGIS := Lib.hid hM.res.is
      have HROW6 := Lib.hid hrow6
      have HFOK := Lib.hid hI.ok
      have HRb := Lib.hid (show R.length ≤ 5000 by omega)
      clear hI hM hgok hrow6 hD0 o1 o2 d1 d2 hDb hRb hk5 he5 hg0 cO yf
      go_wp2_with (first
        | (go_at_call 24; refine (CO.out).mono ?_; rintro e w6 ⟨hb6, A9, c9, R9, rfl, hO9, hR9⟩
           have y6 := (hb6.cell (p := ⟨w3.heap.size, 0, none⟩) (cell_lt' y0)).trans y0
           have z6 := (hb6.cell (p := ⟨w4.heap.size, 0, none⟩) (cell_lt' y1)).trans y1
           have HB6 := Lib.hid hb6
           have HO9 := Lib.hid hO9
           have HR9 := Lib.hid hR9
           clear hb6 hO9 hR9)
        | (go_at_call 10; refine (cD.out _ HB6.out).mono ?_; rintro e w7 ⟨hb7, y, rfl, hr7⟩
           obtain ⟨w8, hw8⟩ : ∃ x, x = w7.alloc (.cells #[.slice y.a y.bl.length y.c] 24) := ⟨_, rfl⟩
           obtain ⟨x8, _, hz8, hb8⟩ := box_new hw8
           have hw8' := hw8.symm
           have hb68 := hb7.trans (hb8.mono hb7.size)
           have y8 := (hb68.cell (p := ⟨w3.heap.size, 0, none⟩) (cell_lt' y6)).trans y6
           have HB8 := Lib.hid (HB6.out.trans (hb68.mono HB6.out.size))
           obtain ⟨A9', c9', e9, hrow9, _⟩ := (HO9.out.below hb68 (Nat.le_refl _)).form
           injection e9 with ea eb ec
           subst ea ec
           have cS := SameTexts_any A9 A6 c9 c6 R9 R w8 hrow9 (HROW6.out.below HB8.out) (by rw [HR9.out]; have := HRb.out; unfold big; omega) (by have := HRb.out; unfold big; omega)
           rw [show decide (R9 = R) = true from decide_eq_true HR9.out] at cS
           have CS := Lib.hid cS
           have HY8 := Lib.hid ((hr7.ok (.inr HFOK.out)).below hb8)
           have HYI := Lib.hid hr7.is
           clear hw8 hz8 hb7 hb8 hb68 hrow9 eb cS hr7)
        | (go_at_call 27; (with_reducible refine (CS.out).mono ?_); rintro e w9 ⟨rfl, hb9⟩
           have x9 := (hb9.cell (p := ⟨w7.heap.size, 0, none⟩) (cell_lt' x8)).trans x8
           have y9 := (hb9.cell (p := ⟨w3.heap.size, 0, none⟩) (cell_lt' y8)).trans y8
           have HB9 := Lib.hid (HB8.out.trans (hb9.mono HB8.out.size))
           have cF := SameFlash_any y g w9 (HY8.out.below hb9) (HGOK.out.below HB9.out)
           rw [show decide (y.bl = g.bl) = true from decide_eq_true (HYI.out.trans HGIS.out.symm)] at cF
           have CF := Lib.hid cF
           clear hb9 cF)
        | (go_at_call 11; (with_reducible refine (CF.out).mono ?_); rintro e w10 ⟨rfl, hb10⟩))
      go_ret
      exact ⟨by first | rfl | simp, HBR.out.trans ((HB9.out.trans (hb10.mono HB9.out.size)).mono HBR.out.size)⟩

set_option maxRecDepth 100000 in
theorem journalAll_lifted (os : Os) (started : os.Started) (H : Type) (enc : TypeId × Value → H) :
    ReturnsInHanded {} Try.checked os 7 .any (Rows.journalAllSpec.pre6 enc Try.prog Try.f7 Rows.journalAllRow.domain false) (Rows.journalAllSpec.post enc Try.prog Try.f7 false true false false) := by
  refine returnsInHanded_of_change_sized (C := Try.checked) Try.own started (by kernel_rfl) Try.func7
    (ChangeSpec.witness6 (enc := enc) (C := Try.checked) false ⟨#[], #[.slice none 0 0], []⟩ 8 (by kernel_rfl) (by kernel_rfl) (by kernel_rfl) (by kernel_rfl)) ?_
  intro W base args ds gs before hval0 hW hcnd hsz0 _
  have hval : ∀ (j : Nat) t v, Try.f7.params[j]? = some t → args[j]? = some v → Value.okWide Try.prog W .any base t v := hval0
  have hsz : (DataW.weightsEach Try.prog (Try.f7.params.toList ++ Rows.journalAllSpec.plain.varTypes Try.prog) (ds ++ gs)).all (· ≤ reachBytes) = true := hsz0
  have hW' := hW
  obtain ⟨p, q, hA0, hV, rfl, hfz, hnd⟩ := hW
  have hA : DataW.TrodAll enc Try.prog W 0 (fun _ => true) true Try.f7.params.toList args.toList ds p := hA0
  rw [Try.params7] at hA hval hsz
  obtain ⟨v0, vs0, d0, ds0, p0, q0, hargs, rfl, rfl, h0, r0⟩ := trodAll_cons hA
  obtain ⟨rfl, rfl, rfl⟩ := trodAll_nil r0
  obtain rfl : args = #[v0] := by cases args; simp_all
  obtain ⟨rfl, rfl⟩ := trodVars_none hV
  have ft0 := fits_each hsz (j := 0) rfl rfl
  obtain ⟨rA, r, rc, rfl, ok0⟩ := open_Texts (hval 0 22 v0 rfl rfl) h0 ft0
  refine (JournalAll_any rA r rc W ok0).mono fun e W' ⟨he, hb⟩ => ?_
  subst he
  exact ⟨_, rfl, law_post Try.laidOut hW' rfl (by decide +kernel) rfl Try.underlying4 rfl rfl rfl hb⟩

theorem journalAll_holds : Rows.JournalAllSaid :=
  OpenClaim.holds_of_wide 7 Try.f7 rfl rfl rfl rfl rfl rfl rfl ⟨rfl, rfl, rfl, rfl, rfl⟩ rfl rfl rfl rfl rfl (by kernel_rfl) Try.func7 (by kernel_rfl)
    (of_decide_eq_true (by kernel_rfl)) (by unfold Func.isWrapper; first | (rw [if_pos (by decide +kernel)]; kernel_rfl) | (rw [if_neg (by decide +kernel)]; exact ⟨rfl, rfl⟩))
    (fun os started H enc _ => journalAll_lifted os started H enc)
#print axioms journalAll_holds

end Go.Proofs.Ytpmjgkngkaleeaa
