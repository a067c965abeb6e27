/- Talks side by side: what one does leaves the rows that are not its own, and the other one. -/
import Derived.Test.YtemkgdpfkbpnpaaGreatDoorTakeGive
import Derived.Test.YtemkgdpfkbpnpaaGreatDoorTakeNil
namespace Go.Proofs.YtemkgdpfkbpnpaaGreatDoor.Take
open Go.RowKit Go.Proofs.YtemkgdpfkbpnpaaGreatDoorW.PrintWords Go.Proofs.YtemkgdpfkbpnpaaGreatDoorW.PrintLast Go.Proofs.YtemkgdpfkbpnpaaGreatDoorW.PrintMore Go.Proofs.YtemkgdpfkbpnpaaGreatDoor.Conv Go.Proofs.YtemkgdpfkbpnpaaGreatDoor.Print Go.Proofs.YtemkgdpfkbpnpaaGreatDoor.Line
set_option linter.unusedVariables false
def Rw {α : Type} (d : Kd α) (W : World) (own : Nat -> Prop) (A : Option Addr) (n : Nat) (xs : List α) : Prop := Kd.F d W (fun k => ¬ own k /\ k < W.heap.size) A n xs
section
variable {α : Type} {d : Kd α} {W W' : World} {own own' : Nat -> Prop} {A : Option Addr} {n : Nat} {xs : List α}
theorem Rw.now (h : Rw d W own A n xs) : d.C W A n xs := Kd.F_now h
theorem Rw.go (h : Rw d W own A n xs) (hg : Goes W W' own own') : Rw d W' own' A n xs :=
 Kd.F_mono (Kd.F_step h (fun k ho hlt => hg.keeps.block k hlt ho.1)) (fun k e => ⟨fun e2 => (hg.own k e2).elim e.1 (fun e3 => by have := e.2; omega), Nat.lt_of_lt_of_le e.2 hg.keeps.size⟩)
theorem Rw.below (h : Rw d W own A n xs) (hb : Below W.heap.size W W') : Rw d W' own A n xs := h.go (Goes.below hb)
theorem Rw.mono (h : Rw d W own A n xs) (ho : ∀ k, own' k -> own k) : Rw d W own' A n xs := Kd.F_mono h (fun k e => ⟨fun e2 => e.1 (ho k e2), e.2⟩)
theorem Rw.nil (d : Kd α) (W : World) (own : Nat -> Prop) : Rw d W own none ([] : List α).length [] := Kd.F_nil d W _
theorem Rw.of_R {e base c : Nat} {ok : Nat -> Prop} (h : d.R e W base ok (.slice A n c) xs) (ho : ∀ k, own k -> k < base) : Rw d W own A n xs := by
 obtain rfl := (Kd.R_reads' h).1
 exact Kd.F_mono (Kd.R_F (Kd.R_bound h)) (fun k e => ⟨fun e2 => by have := ho k e2; have := e.2.1; omega, e.2.2.1⟩)
theorem Rw.came (hd : Kd.Heap d) {B : World} (h : d.C B A n xs) (hb : Below B.heap.size B W) (ho : ∀ k, own k -> B.heap.size <= k) : Rw d W own A n xs := by
 intro W2 hk
 exact Kd.Heap.C hd (fun k hlt => (hk k ⟨fun e => by have := ho k e; omega, Nat.lt_of_lt_of_le hlt hb.size⟩ (Nat.lt_of_lt_of_le hlt hb.size)).trans (hb.block k hlt)) h
theorem Rw.take (h : Rw d W own A xs.length xs) {m : Nat} (hm : m <= xs.length) : Rw d W own A (xs.take m).length (xs.take m) := Kd.F_take h hm
theorem Rw.drop (h : Rw d W own A xs.length xs) {m c : Nat} (hm : m <= xs.length) (hc : xs.length <= c) : Rw d W own (if c = m then A else A.map (·.add (m * d.sz))) (xs.drop m).length (xs.drop m) := Kd.F_cut h hm hc
end
def Bx (W : World) (own : Nat -> Prop) (b : Nat) (cs : Array Value) (t : TypeId) : Prop := W.heap[b]? = some (.cells cs t (0, 0)) /\ ¬ own b
theorem Bx.go {W W' : World} {own own' : Nat -> Prop} {b : Nat} {cs : Array Value} {t : TypeId} (h : Bx W own b cs t) (hg : Goes W W' own own') : Bx W' own' b cs t :=
 ⟨(hg.keeps.block b (lt_box h.1) h.2).trans h.1, fun e => (hg.own b e).elim h.2 (fun e => by have := lt_box h.1; omega)⟩
theorem Bx.mono {W : World} {own own' : Nat -> Prop} {b : Nat} {cs : Array Value} {t : TypeId} (h : Bx W own b cs t) (ho : ∀ k, own' k -> own k) : Bx W own' b cs t := ⟨h.1, fun e => h.2 (ho b e)⟩
def T (B W : World) (own : Nat -> Prop) (g : Nat) (s : St) : Prop := IsT W own g s /\ Below B.heap.size B W /\ (∀ k, own k -> B.heap.size <= k) /\ Good s
section
variable {B W W' : World} {own own' own2 : Nat -> Prop} {g : Nat} {s : St}
theorem T.below (h : T B W own g s) (hb : Below W.heap.size W W') : T B W' own g s := ⟨h.1.below hb, below_step h.2.1 hb, h.2.2⟩
theorem T.other (h : T B W own2 g s) (hg : Goes W W' own own') (hb : Below B.heap.size B W') (hd : ∀ k, own k -> ¬ own2 k) : T B W' own2 g s := ⟨h.1.keeps hg.keeps (fun k e e2 => hd k e2 e), hb, h.2.2⟩
theorem T.next (h : T B W own g s) {s' : St} (hg : Goes W W' own own') (hs : IsT W' own' g s') (hG : Good s') : T B W' own' g s' :=
 ⟨hs, below_goes h.2.1 hg h.2.2.1, fun k e => (hg.own k e).elim (h.2.2.1 k) (fun e => Nat.le_trans h.2.1.size e), hG⟩
theorem T.bel (h : T B W own g s) : Below B.heap.size B W := h.2.1
theorem T.good (h : T B W own g s) : Good s := h.2.2.2
theorem T.lo (h : T B W own g s) : ∀ k, own k -> B.heap.size <= k := h.2.2.1
theorem T.fresh (h : T B W own g s) (hn : ∀ k, own2 k -> W.heap.size <= k) : ∀ k, own2 k -> ¬ own k := fun k e e2 => by have := h.1.own_lt k e2; have := hn k e; omega
theorem T.lt (h : T B W own g s) : ∀ k, own k -> k < W.heap.size := h.1.own_lt
theorem T.row {α : Type} {d : Kd α} {e c n : Nat} {ok : Nat -> Prop} {A : Option Addr} {xs : List α} (h : T B W own g s) (hb : Below W.heap.size W W') (hr : d.R e W' W.heap.size ok (.slice A n c) xs) : Rw d W' own A n xs := Rw.of_R hr h.lt
theorem out_T (h : T B W own g s) : Calls Tryz.prog 12 #[.pointer (some ⟨g, 0, none⟩)] W fun e w' => ∃ A c own', e = .returned (.slice A s.send.length c) /\ s.send.length <= c /\ Rw (Kd.int .u8) w' own' A s.send.length s.send /\ T B w' own' g { s with send := [] } /\ Goes W w' own own' := by
 refine (out_calls h.1).mono ?_
 rintro e w' ⟨A, c, own', rfl, hc, hs, hg, _, hF⟩
 exact ⟨A, c, own', rfl, hc, Kd.F_mono hF (fun k e => ⟨e.1, e.2.2⟩), h.next hg hs (good_out h.2.2.2), hg⟩
theorem take_T (h : T B W own g s) (A : Option Addr) (n c : Nat) (b : List Int) (hn : n = b.length) (hr : Kd.C (Kd.int .u8) W A b.length b) (hc : b.length <= c) (hBb : Bytes b) (hz : s.came.length + b.length <= 200000) (hz2 : s.send.length <= 100000000) :
  Calls Tryz.prog 9 #[.pointer (some ⟨g, 0, none⟩), .slice A n c] W fun e w' => e = .returned (.tuple #[]) /\ ∃ own', T B w' own' g (takeS pushR errT s b) /\ Goes W w' own own' := by
 subst hn
 refine (take_calls h.1 h.2.2.2.waits A c b hr hc h.2.2.2.came hBb hz hz2 (good_in h.2.2.2 b)).mono ?_
 rintro e w' ⟨rfl, own', hs, hg⟩
 exact ⟨rfl, own', h.next hg hs (takeS_good h.2.2.2 hBb hz).1, hg⟩
theorem done_T (h : T B W own g s) (b : Bool) (hb : doneS s = b) : Calls Tryz.prog 11 #[.pointer (some ⟨g, 0, none⟩)] W fun e w' => e = .returned (.bool b) /\ w' = W := by
 subst hb
 exact done_calls h.1 (by cases s.waits <;> simp)
theorem ready_no (h : T B W own g s) (h1 : s.waits = false) (hp : s.pack.length <= 1000000000) :
  Calls Tryz.prog 10 #[.pointer (some ⟨g, 0, none⟩)] W fun e w' => e = .returned (.tuple #[.slice none 0 0, .slice none 0 0, .bool false]) /\ Below W.heap.size W w' := by
 refine (ready_calls h.1 (Nat.le_trans h.2.2.2.ups (by decide)) hp).mono ?_
 rintro e w' ⟨hb, h2, _⟩
 exact ⟨h2 h1, hb⟩
theorem ready_is (h : T B W own g s) (h1 : s.waits = true) (hp : s.pack.length <= 1000000000) (n m : Nat) (hn : s.ups.length = n) (hm : s.pack.length = m) :
  Calls Tryz.prog 10 #[.pointer (some ⟨g, 0, none⟩)] W fun e w' => ∃ Ax cx Ay cy, e = .returned (.tuple #[.slice Ax n cx, .slice Ay m cy, .bool true]) /\ Rw k42 w' own Ax s.ups.length s.ups /\ Rw (Kd.int .u8) w' own Ay s.pack.length s.pack /\ s.ups.length <= cx /\ s.pack.length <= cy /\ Below W.heap.size W w' := by
 subst hn hm
 refine (ready_calls h.1 (Nat.le_trans h.2.2.2.ups (by decide)) hp).mono ?_
 rintro e w' ⟨hb, _, h2⟩
 obtain ⟨vx, vy, rfl, hx, hy⟩ := h2 h1
 obtain ⟨Ax, cx, rfl⟩ := Kd.R_slice hx
 obtain ⟨Ay, cy, rfl⟩ := Kd.R_slice hy
 exact ⟨Ax, cx, Ay, cy, rfl, h.row hb hx, h.row hb hy, (Kd.R_reads' hx).2.1, (Kd.R_reads' hy).2.1, hb⟩
theorem give_no_T (h : T B W own g s) (h1 : s.waits = false) (e m : Int) :
  Calls Tryz.prog 16 #[.pointer (some ⟨g, 0, none⟩), .int .i64 e, .int .i64 m] W fun x w' => x = .returned (.bool false) /\ w' = W := give_no h.1 h1 e m
theorem ups_small (h : Good s) : ∀ y ∈ s.ups, y.f0.size <= 1000 := fun y hy => by
 have h1 := List.all_eq_true.1 h.ok y hy
 unfold Hello.okU at h1
 simp only [Bool.and_eq_true] at h1
 have := Hello.named_size h1.1
 omega
theorem give_ok_T (h : T B W own g s) (h1 : s.waits = true) (m : Int) (hz : s.send.length <= 100000000) :
  Calls Tryz.prog 16 #[.pointer (some ⟨g, 0, none⟩), .int .i64 0, .int .i64 m] W fun x w' => x = .returned (.bool true) /\ ∃ own', T B w' own' g { s with send := s.send ++ okB s.ups, waits := false } /\ Goes W w' own own' := by
 refine (give_ok h.1 h1 m (Nat.le_trans h.2.2.2.ups (by decide)) (ups_small h.2.2.2) hz).mono ?_
 rintro e w' ⟨rfl, own', hs, hg⟩
 exact ⟨rfl, own', h.next hg hs (good_over h.2.2.2 _ h1), hg⟩
theorem give_err_T (h : T B W own g s) (h1 : s.waits = true) (e m : Int) (he : e ≠ 0) (t u : ByteArray) (ht : Calls Tryz.prog 44 #[.int .i64 e] W fun x w' => x = .returned (.string t) /\ Below W.heap.size W w') (hu : ∀ W', Below W.heap.size W W' -> Calls Tryz.prog 44 #[.int .i64 m] W' fun e w' => e = .returned (.string u) /\ Below W'.heap.size W' w') (htz : t.size <= 1000) (huz : u.size <= 1000) (hz : s.send.length <= 100000000) :
  Calls Tryz.prog 16 #[.pointer (some ⟨g, 0, none⟩), .int .i64 e, .int .i64 m] W fun x w' => x = .returned (.bool true) /\ ∃ own', T B w' own' g { s with send := s.send ++ errB t u, nx := -2, waits := false } /\ Goes W w' own own' := by
 refine (give_err h.1 h1 e m he t u ht hu htz huz hz).mono ?_
 rintro x w' ⟨rfl, own', hs, hg⟩
 exact ⟨rfl, own', h.next hg hs ⟨(by decide : (-2 : Int) <= -2), fun _ => rfl, fun e => absurd e (by decide : ¬ (0 : Int) <= -2), h.2.2.2.ups, h.2.2.2.ok, h.2.2.2.came⟩, hg⟩
end
def mainT : ByteArray := ⟨#[104, 101, 97, 100, 115, 47, 109, 97, 105, 110]⟩
theorem told_none : (Hello.toldF ⟨#[]⟩ []).2 = false := by kernel_rfl
theorem told_main : (Hello.toldF mainT []).2 = true := by kernel_rfl
theorem new_T (B W : World) (hB : Below B.heap.size B W) (a0 : ByteArray) (A1 : Option Addr) (c1 : Nat) (l1 : List Hello.Rf) (hr1 : Kd.C k73 W A1 l1.length l1) (hc1 : l1.length <= c1) (h0 : a0.size <= 100000) (hs : ∀ y ∈ l1, y.f0.size <= 100000 /\ y.f1.size <= 100000) (ht : (Hello.toldF a0 l1).2 = true) :
  Calls Tryz.prog 8 #[.string a0, .slice A1 l1.length c1] W fun e w' => ∃ g own, e = .returned (.pointer (some ⟨g, 0, none⟩)) /\ T B w' own g ⟨[], (putF (Hello.toldF a0 l1).1).1, [], [], -1, false⟩ /\ Below W.heap.size W w' /\ (∀ k, own k -> W.heap.size <= k) := by
 refine (new_calls a0 A1 c1 l1 hr1 hc1 h0 hs).mono ?_
 rintro e w' ⟨hb, h | h⟩
 ·rw [ht] at h
  cases h.1
 ·obtain ⟨g, own, he, hs, ho⟩ := h.2
  exact ⟨g, own, he, ⟨hs, below_step hB hb, fun k e => Nat.le_trans hB.size (ho k e), good_new _⟩, hb, ho⟩
theorem new_nil (W : World) (a0 : ByteArray) (A1 : Option Addr) (c1 : Nat) (l1 : List Hello.Rf) (hr1 : Kd.C k73 W A1 l1.length l1) (hc1 : l1.length <= c1) (h0 : a0.size <= 100000) (hs : ∀ y ∈ l1, y.f0.size <= 100000 /\ y.f1.size <= 100000) (ht : (Hello.toldF a0 l1).2 = false) :
  Calls Tryz.prog 8 #[.string a0, .slice A1 l1.length c1] W fun e w' => e = .returned (.pointer none) /\ Below W.heap.size W w' := by
 refine (new_calls a0 A1 c1 l1 hr1 hc1 h0 hs).mono ?_
 rintro e w' ⟨hb, h | h⟩
 ·exact ⟨h.2, hb⟩
 ·rw [ht] at h
  cases h.1
theorem new_main (B W : World) (hB : Below B.heap.size B W) : Calls Tryz.prog 8 #[.string (⟨#[104, 101, 97, 100, 115, 47, 109, 97, 105, 110]⟩ : ByteArray), .slice none 0 0] W fun e w' => ∃ g own, e = .returned (.pointer (some ⟨g, 0, none⟩)) /\ T B w' own g ⟨[], (putF (Hello.toldF mainT []).1).1, [], [], -1, false⟩ /\ Below W.heap.size W w' /\ (∀ k, own k -> W.heap.size <= k) :=
 new_T B W hB mainT none 0 [] (Kd.C_nil _ _) (Nat.le_refl _) (by decide) (by simp) told_main
theorem new_none (W : World) : Calls Tryz.prog 8 #[.string ⟨#[]⟩, .slice none 0 0] W fun e w' => Below W.heap.size W w' /\ e = .returned (.pointer none) :=
 (new_nil W ⟨#[]⟩ none 0 [] (Kd.C_nil _ _) (Nat.le_refl _) (by decide) (by simp) told_none).mono (fun e w' h => ⟨h.2, h.1⟩)
set_option maxRecDepth 100000 in
theorem drop_cut {W : World} {own : Nat -> Prop} {A : Option Addr} {c : Nat} {xs : List Int} (h : Rw (Kd.int .u8) W own A xs.length xs) (hc : xs.length <= c) (j : Int) (h0 : 0 <= j) (hj : j <= (xs.length : Int)) :
  ∃ A2 c2, (∀ W : World, (Instr.slice 22 (.slice A xs.length c) (some (.int .i64 j)) none none).run Tryz.prog W = .ok (.slice A2 (xs.length - j.toNat) c2) W) /\ Rw (Kd.int .u8) W own A2 (xs.drop j.toNat).length (xs.drop j.toNat) /\ (xs.drop j.toNat).length <= c2 := by
 have hinf := info5
 obtain ⟨i, hi, hi2⟩ := Option.map_eq_some_iff.1 hinf
 have hsz : i.size = 1 := congrArg (fun x => x.2.1) hi2
 refine ⟨_, _, cut_from (P := Tryz.prog) 22 5 .i64 Tryz.underlying22 hi 1 hsz A xs.length c j h0 hj, h.drop (by omega) hc, ?_⟩
 rw [List.length_drop]
 omega
theorem lit_row (W : World) (xs : List Int) (fr : Nat × Nat) (own : Nat -> Prop) (ho : ∀ k, own k -> k < W.heap.size) (hm : xs.length <= 9223372036854775807) :
  Rw (Kd.int .u8) (W.alloc (.cells (xs.map (Value.int .u8)).toArray 5 fr)) own (some ⟨W.heap.size, 0, none⟩) xs.length xs := by
 have h := V_of_block (e := 5) (cap := xs.length) (Nat.le_refl W.heap.size) (heap_alloc_new W (.cells (xs.map (Value.int .u8)).toArray 5 fr)) (fun j hj => by simp [List.getD_eq_getElem?_getD, hj]) (Nat.le_refl _) hm
 exact Kd.F_mono (Kd.F_bound (Kd.V_at h).2.2) (fun k e => ⟨fun e2 => by have := ho k e2; have := e.1; omega, e.2⟩)
end Go.Proofs.YtemkgdpfkbpnpaaGreatDoor.Take
