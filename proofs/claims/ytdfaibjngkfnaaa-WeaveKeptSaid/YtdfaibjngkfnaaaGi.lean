/- Contracts. -/
import Derived.Test.YtdfaibjngkfnaaaGf
import Derived.Test.YtdfaibjngkfnaaaGd
import Derived.Test.YtdfaibjngkfnaaaGh
set_option linter.unusedVariables false
set_option linter.unusedSimpArgs false
set_option linter.defProp false
namespace Go.Sx
open Go.Dx Go.Proofs
structure GL (es : List (Int × Int)) (N : Nat) (l : List Nat) (CE VA WR : Nat → Nat) : Prop where
 nd : l.Nodup
 ce : ∀ i ∈ l, CE i < N
 pos : ∀ i ∈ l, qu es i = true → 1 ≤ VA i ∧ VA i ≤ WR (CE i)
 inj : ∀ i ∈ l, ∀ j ∈ l, qu es i = true → qu es j = true → CE i = CE j → VA i = VA j → i = j
 rd : ∀ i ∈ l, qu es i = false → VA i = 0 ∨ ∃ j ∈ l, qu es j = true ∧ CE j = CE i ∧ VA j = VA i
 full : ∀ c v, c < N → 1 ≤ v → v ≤ WR c → ∃ i ∈ l, qu es i = true ∧ CE i = c ∧ VA i = v
 wr2 : ∀ c, c < N → WR c ≤ 2
section
variable {es : List (Int × Int)} {ms : List Int} {TH CE VA WR : Nat → Nat} {N : Nat}
def kT (es : List (Int × Int)) (ms : List Int) (TH CE VA : Nat → Nat) (i : Nat) : List EvR := wM es TH i ++ [evA es ms TH CE VA i]
def plc (es : List (Int × Int)) (TH : Nat → Nat) : Nat → List Nat → List (Nat × Nat)
 | _, [] => []
 | off, i :: l => (i, off + (wM es TH i).length) :: plc es TH (off + (wM es TH i).length + 1) l
theorem bC : ∀ (l : List Nat) (off : Nat), (plc es TH off l).map (·.1) = l
 | [], _ => rfl
 | i :: l, off => by rw [plc, List.map_cons, bC l]
theorem fu {l : List Nat} {off : Nat} {p : Nat × Nat} (h : p ∈ plc es TH off l) : p.1 ∈ l := by
 have : p.1 ∈ (plc es TH off l).map (·.1) := List.mem_map.2 ⟨p, h, rfl⟩
 rwa [bC] at this
theorem plc_of {l : List Nat} {off i : Nat} (h : i ∈ l) : ∃ x, (i, x) ∈ plc es TH off l := by
 rw [← bC (es := es) (TH := TH) l off] at h
 obtain ⟨p, hp, rfl⟩ := List.mem_map.1 h
 exact ⟨p.2, hp⟩
theorem Kt : ∀ (l : List Nat) (s : GT), (l.foldl (wH es ms TH CE VA) s).ev = s.ev ++ l.flatMap (kT es ms TH CE VA)
 | [], s => by simp
 | i :: l, s => by
  rw [List.foldl_cons, Kt l, List.flatMap_cons]
  unfold wH kT; simp
theorem Qk : ∀ (l : List Nat) (s : GT) (j : Nat), j ∉ l → (l.foldl (wH es ms TH CE VA) s).to j = s.to j
 | [], s, j, h => rfl
 | i :: l, s, j, h => by
  rw [List.foldl_cons, Qk l _ j (fun h' => h (qa7 _ h'))]
  unfold wH
  exact wx _ _ (fun e => h (by rw [e]; exact qae))
theorem Kv : ∀ (l : List Nat) (s : GT), l.Nodup → ∀ p ∈ plc es TH s.ev.length l, (l.foldl (wH es ms TH CE VA) s).to p.1 = p.2
 | [], s, _, p, hp => by cases hp
 | i :: l, s, hn, p, hp => by
  rw [List.nodup_cons] at hn
  rw [plc] at hp
  have hlen : (wH es ms TH CE VA s i).ev.length = s.ev.length + (wM es TH i).length + 1 := by unfold wH; simp; omega
  rcases List.mem_cons.1 hp with rfl | hp
  ·rw [List.foldl_cons, Qk l _ _ hn.1]
   unfold wH
   simp only [qI, qa6]
  ·rw [List.foldl_cons]
   exact Kv l _ hn.2 p (by rw [hlen]; exact hp)
theorem fY (c v : Nat) : ∀ (l : List Nat) (s : GT), (∀ i ∈ l, qu es i = true → ¬ (CE i = c ∧ VA i = v)) → (l.foldl (wH es ms TH CE VA) s).fr c v = s.fr c v
 | [], s, _ => rfl
 | i :: l, s, h => by
  rw [List.foldl_cons, fY c v l _ (fun j hj => h j (qa7 _ hj))]
  unfold wH
  simp only
  by_cases hf : qu es i = true
  ·rw [if_pos hf]
   have hi := h i qae hf
   by_cases e : c = CE i
   ·rw [e, qI, wx _ _ (fun e2 => hi ⟨e.symm, e2.symm⟩)]
   ·rw [wx _ _ e]
  ·rw [if_neg hf]
theorem Ku : ∀ (l : List Nat) (s : GT), l.Nodup → (∀ i ∈ l, ∀ j ∈ l, qu es i = true → qu es j = true → CE i = CE j → VA i = VA j → i = j) → ∀ p ∈ plc es TH s.ev.length l, qu es p.1 = true → (l.foldl (wH es ms TH CE VA) s).fr (CE p.1) (VA p.1) = p.2
 | [], s, _, _, p, hp, _ => by cases hp
 | i :: l, s, hn, hinj, p, hp, hf => by
  rw [List.nodup_cons] at hn
  rw [plc] at hp
  have hlen : (wH es ms TH CE VA s i).ev.length = s.ev.length + (wM es TH i).length + 1 := by unfold wH; simp; omega
  rcases List.mem_cons.1 hp with rfl | hp
  ·simp only at hf ⊢
   rw [List.foldl_cons, fY _ _ l _ (fun j hj hfj hc => ?_)]
   ·unfold wH
    simp only
    rw [if_pos hf, qI, qI, qa6]
   ·have := hinj j (qa7 _ hj) i qae hfj hf hc.1 hc.2
    rw [this] at hj; exact hn.1 hj
  ·rw [List.foldl_cons]
   exact Ku l _ hn.2 (fun a ha b hb => hinj a (qa7 _ ha) b (qa7 _ hb)) p (by rw [hlen]; exact hp) hf
theorem XA : ∀ (l : List Nat) (off : Nat), ∀ p ∈ plc es TH off l, off ≤ p.2 ∧ (l.flatMap (kT es ms TH CE VA))[p.2 - off]? = some (evA es ms TH CE VA p.1)
 | [], off, p, hp => by cases hp
 | i :: l, off, p, hp => by
  rw [plc] at hp
  rw [List.flatMap_cons]
  rcases List.mem_cons.1 hp with rfl | hp
  ·refine ⟨by simp, ?_⟩
   simp only [Nat.add_sub_cancel_left]
   unfold kT
   rw [List.append_assoc, qab (DZ _)]; simp
  ·obtain ⟨h1, h2⟩ := XA l _ p hp
   refine ⟨by omega, ?_⟩
   have hlen : (kT es ms TH CE VA i).length = (wM es TH i).length + 1 := by unfold kT; simp
   rw [qab (by rw [hlen]; omega), hlen, ← h2]
   congr 1; omega
theorem Jp : ∀ (l : List Nat) (off : Nat), ∀ p ∈ plc es TH off l, off ≤ p.2
 | [], off, p, hp => by cases hp
 | i :: l, off, p, hp => by
  rw [plc] at hp
  rcases List.mem_cons.1 hp with rfl | hp
  ·simp
  ·have := Jp l _ p hp; omega
theorem XB : ∀ (l : List Nat) (off : Nat) {i j x : Nat}, (i, x) ∈ plc es TH off l → (j, x) ∈ plc es TH off l → i = j
 | [], off, i, j, x, h, _ => by cases h
 | y :: l, off, i, j, x, h1, h2 => by
  rw [plc] at h1 h2
  rcases List.mem_cons.1 h1 with e1 | g1
  ·rcases List.mem_cons.1 h2 with e2 | g2
   ·cases e1; cases e2; rfl
   ·have := Jp l _ _ g2; cases e1; simp at this; omega
  ·rcases List.mem_cons.1 h2 with e2 | g2
   ·have := Jp l _ _ g1; cases e2; simp at this; omega
   ·exact XB l _ g1 g2
theorem Gj : ∀ (l : List Nat) (off k : Nat), k < (l.flatMap (kT es ms TH CE VA)).length → (∃ i, (i, off + k) ∈ plc es TH off l) ∨ ∃ e, (l.flatMap (kT es ms TH CE VA))[k]? = some e ∧ e.kind = 3
 | [], off, k, h => by simp at h
 | i :: l, off, k, h => by
  rw [List.flatMap_cons] at h ⊢
  have hlen : (kT es ms TH CE VA i).length = (wM es TH i).length + 1 := by unfold kT; simp
  rw [qa6, hlen] at h
  rw [plc]
  rcases Nat.lt_trichotomy k (wM es TH i).length with hk | hk | hk
  ·refine .inr ?_
   have hfe : wM es TH i = [⟨TH i, 3, -1, 0, yA es i⟩] := by
    unfold wM at hk ⊢
    split
    ·rename_i hz; rw [if_pos hz] at hk; simp at hk
    ·rfl
   have hk0 : k = 0 := by rw [hfe] at hk; simpa using hk
   refine ⟨⟨TH i, 3, -1, 0, yA es i⟩, ?_, rfl⟩
   unfold kT
   rw [hfe, hk0]; rfl
  ·refine .inl ⟨i, ?_⟩
   rw [hk]; exact qae
  ·rcases Gj l (off + (wM es TH i).length + 1) (k - ((wM es TH i).length + 1)) (by omega) with ⟨j, hj⟩ | ⟨e, he, h3⟩
   ·refine .inl ⟨j, qa7 _ ?_⟩
    have e : off + (wM es TH i).length + 1 + (k - ((wM es TH i).length + 1)) = off + k := by omega
    rw [e] at hj; exact hj
   ·refine .inr ⟨e, ?_, h3⟩
    rw [qab (by rw [hlen]; omega), hlen]; exact he
theorem QN (F : EvR → Nat → List (Nat × Nat)) (d : EvR) : ∀ (L : List EvR) (off : Nat), ((List.range L.length).flatMap fun k => F (L.getD k d) (off + k)) = (L.zipIdx off).flatMap fun p => F p.1 p.2
 | [], off => rfl
 | e :: L, off => by
  rw [List.length_cons, List.range_succ_eq_map, List.flatMap_cons, List.flatMap_map, List.zipIdx_cons, List.flatMap_cons, ← QN F d L (off + 1)]
  congr 1
  have : (fun k => F ((e :: L).getD (Nat.succ k) d) (off + Nat.succ k)) = fun k => F (L.getD k d) (off + 1 + k) := by
   funext k
   rw [show off + Nat.succ k = off + 1 + k by omega]; rfl
  exact congrArg (fun f => (List.range L.length).flatMap f) this
theorem XP (F : EvR → Nat → List (Nat × Nat)) (hF : ∀ e b, e.kind = 3 → F e b = []) : ∀ (l : List Nat) (off : Nat), ((l.flatMap (kT es ms TH CE VA)).zipIdx off).flatMap (fun p => F p.1 p.2) = (plc es TH off l).flatMap fun p => F (evA es ms TH CE VA p.1) p.2
 | [], off => rfl
 | i :: l, off => by
  rw [List.flatMap_cons, plc, List.flatMap_cons, List.zipIdx_append, List.flatMap_append]
  have hlen : (kT es ms TH CE VA i).length = (wM es TH i).length + 1 := by unfold kT; simp
  rw [hlen, show off + ((wM es TH i).length + 1) = off + (wM es TH i).length + 1 by omega, XP F hF l]
  congr 1
  unfold kT
  rw [List.zipIdx_append, List.flatMap_append]
  have h1 : ((wM es TH i).zipIdx off).flatMap (fun p => F p.1 p.2) = [] := by
   unfold wM
   split
   ·rfl
   ·simp [hF]
  rw [h1]; simp
theorem filter_one {p : Nat → Bool} {x : Nat} : ∀ {L : Nat}, x < L → (∀ a, a < L → (p a = true ↔ a = x)) → (List.range L).filter p = [x]
 | 0, h, _ => by omega
 | L + 1, h, hp => by
  rw [List.range_succ, List.filter_append]
  by_cases e : x = L
  ·subst e
   have h1 : (List.range x).filter p = [] := by
    rw [List.filter_eq_nil_iff]
    intro a ha hpa
    have := (hp a (by simp at ha; omega)).1 hpa
    simp at ha; omega
   rw [h1]; simp [(hp x (by omega)).2 rfl]
  ·rw [filter_one (by omega) fun a ha => hp a (by omega)]
   have : p L = false := by
    cases h' : p L with
    | false => rfl
    | true => have := (hp L (by omega)).1 h'; omega
   simp [this]
theorem KQ (fr : Nat → Nat → Nat) (to : Nat → Nat) : ∀ (l : List Nat) (s : List (Nat × Nat)), l.foldl (jk es CE VA fr to) s = s ++ l.flatMap fun i => if qu es i then [] else [(fr (CE i) (VA i), to i)]
 | [], s => by simp
 | i :: l, s => by
  rw [List.foldl_cons, KQ fr to l, List.flatMap_cons]
  unfold jk
  by_cases h : qu es i = true
  ·simp [h]
  ·simp [h]
theorem Fz {l : List Nat} (h : GL es N l CE VA WR) (s : GT) (hs : s = l.foldl (wH es ms TH CE VA) ⟨(List.range N).map ev0, fun _ => 0, fr0⟩) :
  l.foldl (jk es CE VA s.fr s.to) [] = KX s.ev N ∧ ∀ c, c < N → (List.range (1 + WR c)).map (s.fr c) = coX s.ev c := by
 have hev : s.ev = (List.range N).map ev0 ++ l.flatMap (kT es ms TH CE VA) := by rw [hs, Kt]
 have hlen : s.ev.length = N + (l.flatMap (kT es ms TH CE VA)).length := by rw [hev]; simp
 have hto : ∀ p ∈ plc es TH N l, s.to p.1 = p.2 := fun p hp => by
  rw [hs]; exact Kv l _ h.nd p (by simpa using hp)
 have hfr : ∀ p ∈ plc es TH N l, qu es p.1 = true → s.fr (CE p.1) (VA p.1) = p.2 := fun p hp hf => by
  rw [hs]; exact Ku l _ h.nd h.inj p (by simpa using hp) hf
 have hfr0 : ∀ c, s.fr c 0 = c := fun c => by
  rw [hs, fY c 0 l _ (fun i hi hf hc => by have := (h.pos i hi hf).1; omega)]; rfl
 have e0 : ∀ a, a < N → jN s.ev a = ev0 a := fun a ha => by
  unfold jN
  rw [List.getD_eq_getElem?_getD, hev, qaa (by simpa using ha), qac, List.getElem?_range ha]; rfl
 have e1 : ∀ p ∈ plc es TH N l, N ≤ p.2 ∧ p.2 < s.ev.length ∧ jN s.ev p.2 = evA es ms TH CE VA p.1 := fun p hp => by
  obtain ⟨h1, h2⟩ := XA (ms := ms) (CE := CE) (VA := VA) l N p hp
  have h3 := (DY.1 h2).1
  refine ⟨h1, by rw [hlen]; omega, ?_⟩
  unfold jN
  rw [List.getD_eq_getElem?_getD, hev, qab (by simpa using h1)]
  simp only [List.length_map, List.length_range]
  rw [h2]; rfl
 have e2 : ∀ a, N ≤ a → a < s.ev.length → (∃ i, (i, a) ∈ plc es TH N l) ∨ (jN s.ev a).kind = 3 := fun a h1 h2 => by
  rcases Gj (es := es) (ms := ms) (TH := TH) (CE := CE) (VA := VA) l N (a - N) (by omega) with ⟨i, hi⟩ | ⟨e, he, h3⟩
  ·rw [show N + (a - N) = a by omega] at hi; exact .inl ⟨i, hi⟩
  ·refine .inr ?_
   unfold jN
   rw [List.getD_eq_getElem?_getD, hev, qab (by simpa using h1)]
   simp only [List.length_map, List.length_range]
   rw [he]; exact h3
 have isW_iff : ∀ (c v a : Nat), a < s.ev.length → (isW s.ev c v a = true ↔ (a < N ∧ a = c ∧ v = 0) ∨ ∃ i, (i, a) ∈ plc es TH N l ∧ qu es i = true ∧ CE i = c ∧ VA i = v) := fun c v a ha => by
  unfold isW
  simp only [qa2, decide_eq_true_eq]
  by_cases haN : a < N
  ·rw [e0 a haN]
   constructor
   ·rintro ⟨⟨_, h2⟩, h3⟩
    refine .inl ⟨haN, ?_, ?_⟩
    ·have : (a : Int) = (c : Int) := h2
     omega
    ·have : 0 = v := h3
     omega
   ·rintro (⟨_, h1, h2⟩ | ⟨i, hi, _⟩)
    ·exact ⟨⟨rfl, by rw [h1]; rfl⟩, by rw [h2]; rfl⟩
    ·have := (e1 _ hi).1; simp at this; omega
  ·rcases e2 a (by omega) ha with ⟨i, hi⟩ | h3
   ·obtain ⟨_, _, h5⟩ := e1 _ hi
    simp only at h5
    rw [h5]
    constructor
    ·rintro ⟨⟨h1, h2⟩, h3⟩
     refine .inr ⟨i, hi, ?_, ?_, ?_⟩
     ·cases hf : qu es i with
      | true => rfl
      | false => unfold evA at h1; rw [hf] at h1; simp at h1
     ·have : (CE i : Int) = (c : Int) := h2
      omega
     ·exact h3
    ·rintro (⟨h1, _⟩ | ⟨j, hj, h1, h2, h3⟩)
     ·exact absurd h1 haN
     ·obtain ⟨_, _, h6⟩ := e1 _ hj
      simp only at h6
      have hij : i = j := by
       exact XB l N hi hj
      subst hij
      refine ⟨⟨?_, ?_⟩, ?_⟩
      ·unfold evA; rw [h1]; rfl
      ·show (CE i : Int) = c; rw [h2]
      ·exact h3
   ·constructor
    ·rintro ⟨⟨h1, _⟩, _⟩
     rw [h3] at h1; simp at h1
    ·rintro (⟨h1, _⟩ | ⟨j, hj, h1, h2, h3'⟩)
     ·exact absurd h1 haN
     ·obtain ⟨_, _, h6⟩ := e1 _ hj
      simp only at h6
      rw [h6] at h3
      unfold evA at h3; rw [h1] at h3; simp at h3
 have w0 : ∀ c, c < N → coV s.ev c 0 = [s.fr c 0] := fun c hc => by
  unfold coV
  rw [hfr0]
  refine filter_one (by omega) fun a ha => ?_
  rw [isW_iff c 0 a ha]
  constructor
  ·rintro (⟨_, h1, _⟩ | ⟨i, hi, h1, h2, h3⟩)
   ·exact h1
   ·have := (h.pos i (fu hi) h1).1; omega
  ·rintro rfl; exact .inl ⟨hc, rfl, rfl⟩
 have w1 : ∀ i ∈ l, qu es i = true → coV s.ev (CE i) (VA i) = [s.fr (CE i) (VA i)] := fun i hi hf => by
  obtain ⟨x, hx⟩ := plc_of (es := es) (TH := TH) (off := N) hi
  have := hfr _ hx hf
  simp only at this
  rw [this]
  unfold coV
  obtain ⟨g1, g2, g3⟩ := e1 _ hx
  refine filter_one g2 fun a ha => ?_
  rw [isW_iff _ _ a ha]
  constructor
  ·rintro (⟨_, _, h1⟩ | ⟨j, hj, h1, h2, h3⟩)
   ·have := (h.pos i hi hf).1; omega
   ·have hji := h.inj j (fu hj) i hi h1 hf h2 h3
    subst hji
    have := hto _ hj
    have h' := hto _ hx
    simp only at this h'
    rw [← this, ← h']
  ·rintro rfl; exact .inr ⟨i, hx, hf, rfl, rfl⟩
 have w2 : ∀ c v, c < N → v ≤ WR c → coV s.ev c v = [s.fr c v] := fun c v hc hv => by
  by_cases hv0 : v = 0
  ·rw [hv0]; exact w0 c hc
  ·obtain ⟨i, hi, h1, h2, h3⟩ := h.full c v hc (by omega) hv
   rw [← h2, ← h3]; exact w1 i hi h1
 have w3 : ∀ c v, c < N → WR c < v → coV s.ev c v = [] := fun c v hc hv => by
  unfold coV
  rw [List.filter_eq_nil_iff]
  intro a ha hw
  rcases (isW_iff c v a (by simpa using ha)).1 hw with ⟨_, _, h1⟩ | ⟨i, hi, h1, h2, h3⟩
  ·omega
  ·have := (h.pos i (fu hi) h1).2; rw [h2, h3] at this; omega
 refine ⟨?_, fun c hc => ?_⟩
 ·rw [KQ, List.nil_append]
  unfold KX
  have hL : s.ev.length - N = (l.flatMap (kT es ms TH CE VA)).length := by omega
  rw [hL]
  obtain ⟨F, hF⟩ : ∃ F : EvR → Nat → List (Nat × Nat), F = fun e b => if e.kind = 1 then ((List.range s.ev.length).filter (isW s.ev e.loc e.val)).map (fun a => (a, b)) else [] := ⟨_, rfl⟩
  have hrf : ∀ k, k < (l.flatMap (kT es ms TH CE VA)).length → fy s.ev (N + k) = F ((l.flatMap (kT es ms TH CE VA)).getD k ⟨0, 0, 0, 0, 0⟩) (N + k) := fun k hk => by
   have : jN s.ev (N + k) = (l.flatMap (kT es ms TH CE VA)).getD k ⟨0, 0, 0, 0, 0⟩ := by
    unfold jN
    rw [List.getD_eq_getElem?_getD, hev, qab (by simp)]
    simp
   unfold fy
   rw [this, hF]
  have hc1 : ((List.range (l.flatMap (kT es ms TH CE VA)).length).flatMap fun k => fy s.ev (N + k)) = (List.range (l.flatMap (kT es ms TH CE VA)).length).flatMap fun k => F ((l.flatMap (kT es ms TH CE VA)).getD k ⟨0, 0, 0, 0, 0⟩) (N + k) := by
   simp only [List.flatMap]
   congr 1
   exact List.map_congr_left fun k hk => hrf k (List.mem_range.1 hk)
  rw [hc1, QN F, XP F (fun e b h3 => by rw [hF]; simp [h3])]
  have hc2 : ((plc es TH N l).flatMap fun p => F (evA es ms TH CE VA p.1) p.2) = (plc es TH N l).flatMap fun p => if qu es p.1 then [] else [(s.fr (CE p.1) (VA p.1), s.to p.1)] := by
   simp only [List.flatMap]
   congr 1
   refine List.map_congr_left fun p hp => ?_
   rw [hto p hp, hF]
   simp only
   cases hf : qu es p.1 with
   | true => unfold evA; rw [hf]; simp
   | false =>
    have hm : (List.range s.ev.length).filter (isW s.ev (CE p.1) (VA p.1)) = [s.fr (CE p.1) (VA p.1)] := by
     rcases h.rd p.1 (fu hp) hf with h0 | ⟨j, hj, h1, h2, h3⟩
     ·rw [h0]; exact w0 _ (h.ce _ (fu hp))
     ·rw [← h2, ← h3]; exact w1 j hj h1
    unfold evA; rw [hf]
    simp only [Bool.false_eq_true, if_false, if_true]
    rw [hm]; rfl
  rw [hc2]
  have := bC (es := es) (TH := TH) l N
  conv => lhs; rw [← this]
  rw [List.flatMap_map]
 ·unfold coX
  have hw := h.wr2 c hc
  rcases (by omega : WR c = 0 ∨ WR c = 1 ∨ WR c = 2) with e | e | e
  ·rw [e, w2 c 0 hc (by omega), w3 c 1 hc (by omega), w3 c 2 hc (by omega)]; rfl
  ·rw [e, w2 c 0 hc (by omega), w2 c 1 hc (by omega), w3 c 2 hc (by omega)]; rfl
  ·rw [e, w2 c 0 hc (by omega), w2 c 1 hc (by omega), w2 c 2 hc (by omega)]; rfl
end
end Go.Sx
namespace Go.Sx
open Go.Dx Go.Proofs
section
variable {es : List (Int × Int)} {b : Nat}
theorem KV {N : Nat} (cl : Nat → Nat) (hcl0 : cl 0 = 0) (hst : ∀ k, cl k ≤ cl (k + 1) ∧ cl (k + 1) ≤ cl k + 1) (R ρ : Nat → Nat) (hR : ∀ k, k < es.length → R (pos es b k) = ρ (cl k)) (hρ : ∀ c d, c < N → d < N → ρ c = ρ d → c = d) {c s : Nat} (hc0 : 0 < c) (hcN : c < N) (hsn : s < es.length) (hs : cl s = c) (hsf : ∀ j, j < s → cl j < c) :
  ∀ (d j : Nat), j + d = s → zz R (ρ c) ((qt es b).drop j) ((List.range (if j = 0 then 0 else cl (j - 1) + 1)).map ρ) = some c := by
 intro d
 induction d with
 | zero =>
  intro j hj
  have : j = s := by omega
  subst this
  have h0 : j ≠ 0 := by rintro rfl; omega
  rw [jD hsn, zz, if_pos (by rw [hR _ hsn, hs]), if_neg h0]
  have h1 := hsf (j - 1) (by omega)
  have h2 := (hst (j - 1)).2
  rw [show j - 1 + 1 = j by omega] at h2
  simp; omega
 | succ d ih =>
  intro j hj
  have hjn : j < es.length := by omega
  have hjc := hsf j (by omega)
  have hRj : R (pos es b j) = ρ (cl j) := hR _ hjn
  rw [jD hjn, zz, if_neg (by rw [hRj]; intro h; have := hρ _ _ (by omega) hcN h; omega), hRj]
  have hnext := ih (j + 1) (by omega)
  rw [if_neg (by omega), Nat.add_sub_cancel] at hnext
  have key : (if ((List.range (if j = 0 then 0 else cl (j - 1) + 1)).map ρ).contains (ρ (cl j)) then (List.range (if j = 0 then 0 else cl (j - 1) + 1)).map ρ else (List.range (if j = 0 then 0 else cl (j - 1) + 1)).map ρ ++ [ρ (cl j)]) = (List.range (cl j + 1)).map ρ := by
   by_cases h0 : j = 0
   ·subst h0
    simp [hcl0]
   ·rw [if_neg h0]
    have h2 := hst (j - 1)
    rw [show j - 1 + 1 = j by omega] at h2
    by_cases he : cl j = cl (j - 1)
    ·rw [if_pos (by simp; exact ⟨cl j, by omega, rfl⟩), he]
    ·have e : cl j = cl (j - 1) + 1 := by omega
     rw [if_neg, e, List.range_succ (n := cl (j - 1) + 1), List.map_append]
     ·rfl
     ·simp
      intro x hx h
      have := hρ _ _ (by omega) (by omega) h
      omega
  rw [key]; exact hnext
def oc (es : List (Int × Int)) (b : Nat) : Nat → Nat
 | 0 => 0
 | k + 1 => oc es b k + if qx es (pos es b k) then 1 else 0
theorem Wx (k : Nat) : oc es b k ≤ oc es b (k + 1) ∧ oc es b (k + 1) ≤ oc es b k + 1 := by show _ ≤ oc es b k + _ ∧ oc es b k + _ ≤ _; split <;> omega
theorem oc_ic (k : Nat) : oc es b k + ic es b k = k := by
 induction k with
 | zero => rfl
 | succ k ih =>
  have e1 : oc es b (k + 1) = oc es b k + if qx es (pos es b k) then 1 else 0 := rfl
  have e2 : ic es b (k + 1) = ic es b k + if qx es (pos es b k) then 0 else 1 := rfl
  rw [e1, e2]; split <;> omega
theorem fo {i j : Nat} (h : i ≤ j) : oc es b i ≤ oc es b j := by
 induction j with
 | zero =>
  have : i = 0 := by omega
  subst this; exact DZ _
 | succ j ih =>
  rcases Nat.lt_or_ge i (j + 1) with h' | h'
  ·exact qa8 (ih (by omega)) (Wx j).1
  ·have : i = j + 1 := by omega
   subst this; exact DZ _
theorem KI : ∀ (m c : Nat), c ≤ oc es b m → ∃ s, s ≤ m ∧ oc es b s = c ∧ ∀ j, j < s → oc es b j < c
 | 0, c, h => ⟨0, DZ _, by have : oc es b 0 = 0 := rfl; omega, fun j hj => by omega⟩
 | m + 1, c, h => by
  by_cases h1 : c ≤ oc es b m
  ·obtain ⟨s, a, b', c'⟩ := KI m c h1
   exact ⟨s, by omega, b', c'⟩
  ·have := (Wx (es := es) (b := b) m).2
   exact ⟨m + 1, DZ _, by omega, fun j hj => by have := fo (es := es) (b := b) (show j ≤ m by omega); omega⟩
theorem Xz {i j k : Nat} (h : oc es b i = oc es b k) (h1 : i ≤ j) (h2 : j < k) : qx es (pos es b j) = false := by
 have a := fo (es := es) (b := b) h1
 have c := fo (es := es) (b := b) (show j + 1 ≤ k by omega)
 have e : oc es b (j + 1) = oc es b j + if qx es (pos es b j) then 1 else 0 := rfl
 cases ho : qx es (pos es b j) with
 | false => rfl
 | true => rw [ho] at e; simp at e; omega
theorem BK {j : Nat} (h : oc es b j < oc es b (j + 1)) : qx es (pos es b j) = true := by
 have e : oc es b (j + 1) = oc es b j + if qx es (pos es b j) then 1 else 0 := rfl
 cases ho : qx es (pos es b j) with
 | false => rw [ho] at e; simp at e; omega
 | true => rfl
theorem xJ (hb : b < es.length) (hlast : qx es (pos es b (es.length - 1)) = true) {k : Nat} (hk : k < es.length) : qq es b false (pos es b k) = oc es b k ∧ oc es b k < cnt es := by
 have hn : 0 < es.length := by omega
 have hcl : cnt es ≤ es.length := by unfold cnt; exact List.countP_le_length
 have hall : oc es b es.length = cnt es := by have := oc_ic (es := es) (b := b) es.length; rw [gg hb] at this; omega
 have hlastN : oc es b (es.length - 1) + 1 = cnt es := by
  have e : oc es b (es.length - 1 + 1) = oc es b (es.length - 1) + if qx es (pos es b (es.length - 1)) then 1 else 0 := rfl
  rw [hlast, show es.length - 1 + 1 = es.length by omega, hall] at e
  simpa using e.symm
 have hlt : ∀ j, j < es.length → oc es b j < cnt es := fun j hj => by have := fo (es := es) (b := b) (show j ≤ es.length - 1 by omega); omega
 refine ⟨?_, hlt k hk⟩
 have hex : ∀ c, ∃ s, c < cnt es → s ≤ es.length - 1 ∧ oc es b s = c ∧ ∀ j, j < s → oc es b j < c := fun c => by
  by_cases h : c < cnt es
  ·obtain ⟨s, h1⟩ := KI (es := es) (b := b) (es.length - 1) c (by omega)
   exact ⟨s, fun _ => h1⟩
  ·exact ⟨0, fun h' => absurd h' h⟩
 obtain ⟨sC, hsC⟩ : ∃ sC : Nat → Nat, ∀ c, c < cnt es → sC c ≤ es.length - 1 ∧ oc es b (sC c) = c ∧ ∀ j, j < sC c → oc es b j < c := ⟨fun c => (hex c).choose, fun c => (hex c).choose_spec⟩
 let ρ : Nat → Nat := fun c => pos es b (sC c)
 have hR : ∀ k, k < es.length → kI es false (pos es b k) = ρ (oc es b k) := fun k hk => by
  have hs := hsC _ (hlt k hk)
  have hsk : sC (oc es b k) ≤ k := by
   rcases Nat.lt_or_ge k (sC (oc es b k)) with h | h
   ·have := hs.2.2 k h; omega
   ·exact h
  unfold kI
  by_cases hs0 : sC (oc es b k) = 0
  ·have h0 : oc es b k = 0 := by rw [← hs.2.1, hs0]; rfl
   have e : ρ (oc es b k) = pos es b es.length := by
    show pos es b (sC (oc es b k)) = _
    rw [hs0]
    have := zH (es := es) (b := b) 0
    rw [Nat.zero_add] at this; exact this.symm
   rw [e, ← zH (es := es) (b := b) k]
   refine fA hn false es.length (k + es.length) es.length (by omega) (by omega) hn (by rw [hlast]; simp) fun i h1 h2 => ?_
   have : i = (i - es.length) + es.length := by omega
   rw [this, zH]
   exact Xz (es := es) (b := b) (i := 0) (j := i - es.length) (k := k) (by rw [h0]; rfl) (by omega) (by omega)
  ·refine fA hn false es.length k _ hsk (by omega) (by omega) ?_ fun i h1 h2 => Xz (by rw [hs.2.1]) h1 h2
   have h3 := BK (es := es) (b := b) (j := sC (oc es b k) - 1) (by rw [show sC (oc es b k) - 1 + 1 = sC (oc es b k) by omega, hs.2.1]; exact hs.2.2 _ (by omega))
   rw [h3]; simp
 have hinj : ∀ c d, c < cnt es → d < cnt es → ρ c = ρ d → c = d := fun c d hc hd h => by
  have := bD hb (by have := (hsC c hc).1; omega) (by have := (hsC d hd).1; omega) h
  rw [← (hsC c hc).2.1, ← (hsC d hd).2.1, this]
 have main : zz (kI es false) (kI es false (pos es b k)) (qt es b) [] = some (oc es b k) := by
  rw [hR k hk]
  have hclt := hlt k hk
  by_cases hc0 : oc es b k = 0
  ·rw [hc0]
   have hd := jD (b := b) hn
   rw [List.drop_zero] at hd
   rw [hd, zz, if_pos (by rw [hR 0 hn]; rfl)]
   rfl
  ·have hs := hsC _ hclt
   have := KV (es := es) (b := b) (N := cnt es) (oc es b) rfl Wx (kI es false) ρ hR hinj (c := oc es b k) (s := sC (oc es b k)) (by omega) hclt (by omega) hs.2.1 hs.2.2 (sC (oc es b k)) 0 (by omega)
   simpa using this
 unfold qq
 rw [main]; rfl
theorem stt_t {N : Nat} : ∀ {k : Nat}, k ≤ es.length → (stt es b N k).t = oc es b k
 | 0, _ => rfl
 | k + 1, h => by
  rw [vR (by omega)]
  show (if qx es (pos es b k) then _ else _) = oc es b k + _
  rw [stt_t (by omega)]; split <;> rfl
theorem Jz {N k : Nat} : (stt es b N k).th.length = es.length := by
 have key : ∀ (l : List Nat) (s : LS), (l.foldl (wP es N) s).th.length = s.th.length := by
  intro l
  induction l with
  | nil => intro s; rfl
  | cons i l ih => intro s; rw [List.foldl_cons, ih]; simp [wP]
 unfold stt; rw [key]; simp [zK]
theorem GG (hb : b < es.length) {N : Nat} : ∀ {k : Nat}, k ≤ es.length → ∀ j, j < k → (stt es b N k).th[pos es b j]? = some (oc es b j)
 | 0, _, j, h => by omega
 | k + 1, hk, j, hj => by
  rw [vR (by omega)]
  show ((stt es b N k).th.set (pos es b k) ((stt es b N k).t))[pos es b j]? = _
  by_cases e : j = k
  ·subst e
   rw [qaf (by rw [Jz]; exact Jq (by omega) _), stt_t (by omega)]
  ·rw [List.getElem?_set_ne (fun h => e (bD hb (by omega) (by omega) h).symm)]
   exact GG hb (by omega) j (by omega)
theorem KY {N : Nat} : stt es b N es.length = zW es N (qt es b) := by
 unfold stt zW; rw [List.take_of_length_le (by rw [vM]; omega)]
theorem gy (hb : b < es.length) {i : Nat} (hi : i < es.length) : ∃ k, k < es.length ∧ pos es b k = i := by
 have := KH (es := es) (b := b) hi
 unfold qt at this
 obtain ⟨k, hk, e⟩ := List.mem_map.1 this
 exact ⟨k, by simpa using hk, e⟩
theorem GH (hb : b < es.length) (hlast : qx es (pos es b (es.length - 1)) = true) (hN : 0 < es.length - cnt es) : ∀ {k : Nat}, k ≤ es.length → (stt es b (es.length - cnt es) k).wr.length = es.length - cnt es ∧ ∀ x, x < es.length - cnt es →
  (stt es b (es.length - cnt es) k).wr.getD x 0 = ((qt es b).take k).countP fun i => qu es i && decide (qq es b true i = x)
 | 0, _ => by
  refine ⟨by simp [stt, zK], fun x hx => ?_⟩
  simp only [stt, List.take_zero, List.foldl_nil, zK, List.countP_nil]
  rw [List.getD_eq_getElem?_getD, List.getElem?_replicate]; split <;> rfl
 | k + 1, hk => by
  obtain ⟨h1, h2⟩ := GH hb hlast hN (k := k) (by omega)
  obtain ⟨h, e⟩ := DY.1 (vL (es := es) (b := b) (show k < es.length by omega))
  rw [vR (by omega), List.take_succ_eq_append_getElem h, e]
  have hc : (stt es b (es.length - cnt es) k).c % (es.length - cnt es) = qq es b true (pos es b k) := by rw [GE (by omega), vZ hb hlast hN (by omega)]
  have hclt : qq es b true (pos es b k) < es.length - cnt es := by rw [← hc]; exact Nat.mod_lt _ hN
  refine ⟨?_, fun x hx => ?_⟩
  ·show (if qu es (pos es b k) then _ else _ : List Nat).length = _
   split
   ·rw [List.length_set]; exact h1
   ·exact h1
  ·rw [List.countP_append, ← h2 x hx]
   show (if qu es (pos es b k) then (stt es b (es.length - cnt es) k).wr.set ((stt es b (es.length - cnt es) k).c % (es.length - cnt es)) ((stt es b (es.length - cnt es) k).wr.getD ((stt es b (es.length - cnt es) k).c % (es.length - cnt es)) 0 + 1) else (stt es b (es.length - cnt es) k).wr : List Nat).getD x 0 = _
   rw [hc]
   cases hf : qu es (pos es b k) with
   | false => simp [hf]
   | true =>
    simp only [if_true]
    by_cases ex : qq es b true (pos es b k) = x
    ·subst ex
     rw [List.getD_eq_getElem?_getD, qaf (by omega)]
     simp [hf]
    ·rw [List.getD_eq_getElem?_getD, List.getElem?_set_ne ex, ← List.getD_eq_getElem?_getD]
     simp [hf, ex]
end
end Go.Sx
namespace Go.Sx
open Go.Dx Go.Proofs
theorem ba (len i : Nat) : ∀ k, back len (k + 1) i = back len k (ahN len i)
 | 0 => rfl
 | k + 1 => by show ahN len (back len (k + 1) i) = ahN len (back len k (ahN len i)); rw [ba len i k]
theorem JP {len x : Nat} (h : x < len) : ahN len ((x + 1) % len) = x := by
 unfold ahN
 by_cases e : x + 1 = len
 ·rw [e, Nat.mod_self, if_pos rfl]; omega
 ·rw [Nat.mod_eq_of_lt (by omega), if_neg (by omega)]; rfl
theorem Bv (es : List (Int × Int)) (i d : Nat) : bw es i (d + 1) = bw es (ahN es.length i) d + if qu es (ahN es.length i) then 1 else 0 := by
 unfold bw
 rw [List.range_succ_eq_map, List.countP_cons, List.countP_map]
 have e : (List.range d).countP ((fun t => qu es (back es.length (t + 1) i)) ∘ Nat.succ) = (List.range d).countP fun t => qu es (back es.length (t + 1) (ahN es.length i)) := by
  refine List.countP_congr fun t _ => ?_
  show qu es (back es.length (t + 1 + 1) i) = true ↔ _
  rw [ba]
 rw [e]; rfl
theorem VI {es : List (Int × Int)} {i d : Nat} (h : jI es (ahN es.length i) d) (ho : qx es (ahN es.length i) = true) (hd : d + 1 ≤ 1000) : jI es i (d + 1) := by
 refine ⟨fun j hj => ?_, ?_, hd⟩
 ·cases j with
  | zero => exact ho
  | succ j => rw [ba]; exact h.out j (by omega)
 ·rw [ba]; exact h.inn
theorem QF {es : List (Int × Int)} {i d d' : Nat} (h : jI es i d) (h' : jI es i d') : d = d' := by
 rcases Nat.lt_trichotomy d d' with g | g | g
 ·have := h'.out d g; rw [h.inn] at this; cases this
 ·exact g
 ·have := h.out d' g; rw [h'.inn] at this; cases this
section
variable {es : List (Int × Int)} {ce : List Nat} {b c : Nat} {l : List Nat}
theorem kN (h : wW es ce b c l) : ∀ (j i : Nat), l[j]? = some i → i < es.length ∧ jI es i j ∧ bw es i j = (l.take j).countP (qu es)
 | 0, i, hi => by
  obtain ⟨k0, h1, h2, h3, h4, h5⟩ := h.ex
  rw [h5] at hi
  cases hi
  exact ⟨Nat.mod_lt _ (by omega), ⟨fun j hj => by omega, h3, by omega⟩, rfl⟩
 | j + 1, i, hi => by
  have hjl : j + 1 < l.length := (DY.1 hi).1
  obtain ⟨x, hx⟩ : ∃ x, l[j]? = some x := ⟨_, DW (by omega)⟩
  obtain ⟨h1, h2, h3⟩ := kN h j x hx
  obtain ⟨g1, g2⟩ := h.ch.next j x i hx hi
  have ha : ahN es.length i = x := by rw [g1]; exact JP h1
  have hl := h.len
  refine ⟨h.ch.lt i (DX hi), VI (by rw [ha]; exact h2) (by rw [ha]; exact g2) (by omega), ?_⟩
  rw [Bv, ha, h3]
  obtain ⟨hh, e⟩ := DY.1 hx
  rw [List.take_succ_eq_append_getElem hh, List.countP_append, e]; simp
structure OKv (es : List (Int × Int)) (V : Nat → Nat) (va : List Nat) (done : Nat → Prop) : Prop where
 len : va.length = es.length
 all : ∀ i, i < es.length → va[i]? = some 0 ∨ va[i]? = some (qU es V i)
 don : ∀ i, i < es.length → done i → va[i]? = some (qU es V i)
theorem OKv.set {V : Nat → Nat} {va : List Nat} {done : Nat → Prop} (h : OKv es V va done) {x v : Nat} (hx : x < es.length) (hv : v = qU es V x) : OKv es V (va.set x v) (fun i => done i ∨ i = x) := by
 refine ⟨by rw [List.length_set]; exact h.len, fun i hi => ?_, fun i hi hd => ?_⟩
 ·by_cases e : i = x
  ·subst e; rw [qaf (by rw [h.len]; exact hi), hv]; exact .inr rfl
  ·rw [List.getElem?_set_ne (fun h => e h.symm)]; exact h.all i hi
 ·by_cases e : i = x
  ·subst e; rw [qaf (by rw [h.len]; exact hi), hv]
  ·rw [List.getElem?_set_ne (fun h => e h.symm)]
   exact h.don i hi (hd.resolve_right e)
theorem bS {V : Nat → Nat} (hV : ∀ i d, i < es.length → jI es i d → V i = 1 + bw es i d) (h : wW es ce b c l) : ∀ (rest pre : List Nat) (va : List Nat) (done : Nat → Prop), l = pre ++ rest → OKv es V va done → (∀ x, x ∈ pre → done x) →
  OKv es V (rest.foldl (wu es) (va, pre.countP (qu es))).1 (fun i => done i ∨ i ∈ rest)
 | [], pre, va, done, hl, ho, hd => ⟨ho.len, ho.all, fun i hi hd => ho.don i hi (hd.resolve_right (by simp))⟩
 | x :: rest, pre, va, done, hl, ho, hd => by
  have hx : l[pre.length]? = some x := by rw [hl, qab (DZ _), Nat.sub_self]; rfl
  obtain ⟨hxl, hst, hbw⟩ := kN h _ _ hx
  have htake : l.take pre.length = pre := by rw [hl]; simp
  rw [htake] at hbw
  rw [List.foldl_cons]
  have hl' : l = (pre ++ [x]) ++ rest := by rw [hl]; simp
  have step : ∀ va' last', wu es (va, pre.countP (qu es)) x = (va', last') → last' = (pre ++ [x]).countP (qu es) → OKv es V va' (fun i => done i ∨ i = x) → OKv es V (rest.foldl (wu es) (wu es (va, pre.countP (qu es)) x)).1 (fun i => done i ∨ i ∈ x :: rest) := by
   intro va' last' e1 e2 ho'
   rw [e1, e2]
   have := bS hV h rest (pre ++ [x]) va' _ hl' ho' (fun y hy => by
    rcases List.mem_append.1 hy with hy | hy
    ·exact .inl (hd y hy)
    ·exact .inr (qa3.1 hy))
   exact ⟨this.len, this.all, fun i hi hd => this.don i hi (by
    rcases hd with hd | hd
    ·exact .inl (.inl hd)
    ·rcases List.mem_cons.1 hd with rfl | hd
     ·exact .inl (.inr rfl)
     ·exact .inr hd)⟩
  have hVx := hV x _ hxl hst
  rw [hbw] at hVx
  cases hf : qu es x with
  | true =>
   refine step _ _ (by unfold wu; rw [if_pos hf]) (by rw [List.countP_append]; simp [hf]) (ho.set hxl ?_)
   unfold qU; rw [if_pos hf, hVx]; omega
  | false =>
   by_cases hk : (eAt es (ahN es.length x)).1 = 1
   ·have hout : qx es (ahN es.length x) = true := by unfold qx jn; rw [hk]; rfl
    obtain ⟨j', hj'⟩ : ∃ j', pre.length = j' + 1 := by
     cases hp : pre.length with
     | zero => rw [hp] at hst; have := hst.inn; rw [show back es.length 0 x = x from rfl, hout] at this; cases this
     | succ j => exact ⟨j, rfl⟩
    obtain ⟨y, hy⟩ : ∃ y, l[j']? = some y := ⟨_, DW (by have := (DY.1 hx).1; omega)⟩
    rw [hj'] at hx
    obtain ⟨hyl, -, -⟩ := kN h _ _ hy
    obtain ⟨g1, g2⟩ := h.ch.next j' y x hy hx
    have ha : ahN es.length x = y := by rw [g1]; exact JP hyl
    have hyp : y ∈ pre := by
     have : pre[j']? = some y := by rw [hl, qaa (by omega)] at hy; exact hy
     exact DX this
    have hfy : qu es y = true := by unfold qu; rw [← ha, hk]; rfl
    have hvy := ho.don y hyl (hd y hyp)
    have hgy : va.getD y 0 = V y := by rw [List.getD_eq_getElem?_getD, hvy]; unfold qU; rw [if_pos hfy]; rfl
    refine step _ _ (by unfold wu; rw [if_neg (by simp [hf]), if_pos hk]) (by rw [List.countP_append]; simp [hf]) (ho.set hxl ?_)
    show va.getD (ahN es.length x) 0 = _
    unfold qU; rw [if_neg (by simp [hf]), if_pos hk, ha, hgy]
   ·refine step _ _ (by unfold wu; rw [if_neg (by simp [hf]), if_neg hk]) (by rw [List.countP_append]; simp [hf]) ⟨ho.len, ho.all, fun i hi hd' => ?_⟩
    rcases hd' with hd' | rfl
    ·exact ho.don i hi hd'
    ·have hz : qU es V i = 0 := by unfold qU; rw [if_neg (by simp [hf]), if_neg hk]
     have := ho.all i hi
     rw [hz] at this ⊢
     exact this.elim id id
theorem XO {V : Nat → Nat} (hV : ∀ i d, i < es.length → jI es i d → V i = 1 + bw es i d) {ch : Nat → List Nat} {N : Nat} (hch : ∀ c, c < N → wW es ce b c (ch c)) : ∀ c, c ≤ N → OKv es V (kV es ch (List.replicate es.length 0) c) (fun i => ∃ c', c' < c ∧ i ∈ ch c')
 | 0, _ => ⟨by simp [kV], fun i hi => .inl (by simp [kV, hi]), fun i hi ⟨c', h, _⟩ => by omega⟩
 | c + 1, hc => by
  have ih := XO hV hch c (by omega)
  rw [yI]
  have := bS hV (hch c (by omega)) (ch c) [] _ _ (by simp) ih (fun x hx => by simp at hx)
  refine ⟨this.len, this.all, fun i hi ⟨c', h1, h2⟩ => this.don i hi ?_⟩
  rcases Nat.lt_succ_iff_lt_or_eq.1 h1 with h | rfl
  ·exact .inl ⟨c', h, h2⟩
  ·exact .inr h2
end
theorem vB {es : List (Int × Int)} {b : Nat} {ch : Nat → List Nat} (hb : b < es.length) (hlast : qx es (pos es b (es.length - 1)) = true) (hN : 0 < es.length - cnt es)
  (hch : ∀ c, c < es.length - cnt es → wW es (zW es (es.length - cnt es) (qt es b)).ce b c (ch c)) {i : Nat} (hi : i < es.length) : ∃ c, c < es.length - cnt es ∧ i ∈ ch c := by
 obtain ⟨k, hk, rfl⟩ := gy hb hi
 obtain ⟨N, hNe⟩ := qaj (es.length - cnt es)
 rw [← hNe] at hN hch ⊢
 have hn : 0 < es.length := by omega
 have hall : ic es b es.length = N := by rw [gg hb, hNe]
 have hc : ic es b k % N < N := Nat.mod_lt _ hN
 refine ⟨_, hc, ?_⟩
 have hC := hch _ hc
 obtain ⟨k0, h1, h2, h3, h4, h5⟩ := hC.ex
 have hce := fe (es := es) (b := b) hb (N := N) (j := k0) h1
 have hce' : ic es b k0 % N = ic es b k % N := by
  have : (zW es N (qt es b)).ce[pos es b k0]? = some (ic es b k % N) := h2
  rw [hce] at this; exact Option.some.inj this
 have hah : ∀ k, 0 < k → ahN es.length (pos es b k) = pos es b (k - 1) := fun k h => by
  have := fL (es := es) (b := b) hn (k - 1); rwa [show k - 1 + 1 = k by omega] at this
 have hk0 : 0 < k0 := by
  rcases Nat.eq_zero_or_pos k0 with h | h
  ·subst h
   have := fL (es := es) (b := b) hn (es.length - 1)
   rw [show es.length - 1 + 1 = 0 + es.length by omega, zH] at this
   have h3' : qx es (ahN es.length (pos es b 0)) = false := h3
   rw [this, hlast] at h3'; cases h3'
  ·exact h
 have hj0 : qx es (pos es b (k0 - 1)) = false := by
  have h3' : qx es (ahN es.length (pos es b k0)) = false := h3
  rwa [hah k0 hk0] at h3'
 have hic0 : ic es b k0 = ic es b (k0 - 1) + 1 := by
  have e : ic es b (k0 - 1 + 1) = ic es b (k0 - 1) + if qx es (pos es b (k0 - 1)) then 0 else 1 := rfl
  rw [hj0, show k0 - 1 + 1 = k0 by omega] at e; simpa using e
 have along : ∀ d, (∀ j, j < d → qx es (pos es b (k0 + j)) = true) → (ch (ic es b k % N))[d]? = some (pos es b (k0 + d)) := by
  intro d
  induction d with
  | zero => intro _; exact h5
  | succ d ih =>
   intro ho
   have hd := ih fun j hj => ho j (by omega)
   have hod := ho d (by omega)
   have hdl := (DY.1 hd).1
   have hlt : d + 1 < (ch (ic es b k % N)).length := by
    rcases Nat.lt_or_ge (d + 1) (ch (ic es b k % N)).length with h | h
    ·exact h
    ·have e : (ch (ic es b k % N)).length - 1 = d := by omega
     have := hC.ch.last (pos es b (k0 + d)) (by rw [e]; exact hd)
     rw [hod] at this; cases this
   obtain ⟨y, hy⟩ : ∃ y, (ch (ic es b k % N))[d + 1]? = some y := ⟨_, DW hlt⟩
   have := (hC.ch.next d _ y hd hy).1
   rw [hy, this]
   show some (((b + (k0 + d)) % es.length + 1) % es.length) = some ((b + (k0 + (d + 1))) % es.length)
   rw [Nat.mod_add_mod]; rfl
 have hic0N : ic es b k0 ≤ N := by have := xc (es := es) (b := b) (show k0 ≤ es.length by omega); omega
 have hickN : ic es b k ≤ N := by have := xc (es := es) (b := b) (show k ≤ es.length by omega); omega
 by_cases hz : ic es b k = 0
 ·-- around the end
  have e0 : ic es b k0 = N := by
   rw [hz, Nat.zero_mod] at hce'
   rcases Nat.lt_or_ge (ic es b k0) N with h | h
   ·rw [Nat.mod_eq_of_lt h] at hce'; omega
   ·omega
  have := along (es.length - k0 + k) fun j hj => by
   by_cases hjn : k0 + j < es.length
   ·exact vb (es := es) (b := b) (i := k0) (j := k0 + j) (k := es.length) (by rw [e0, hall]) (by omega) hjn
   ·rw [show k0 + j = (k0 + j - es.length) + es.length by omega, zH]
    exact vb (es := es) (b := b) (i := 0) (j := k0 + j - es.length) (k := k) (by rw [hz]; rfl) (by omega) (by omega)
  rw [show k0 + (es.length - k0 + k) = k + es.length by omega, zH] at this
  exact DX this
 ·have e0 : ic es b k0 = ic es b k := by
   rcases Nat.lt_or_ge (ic es b k0) N with h | h
   ·rcases Nat.lt_or_ge (ic es b k) N with h' | h'
    ·rwa [Nat.mod_eq_of_lt h, Nat.mod_eq_of_lt h'] at hce'
    ·have : ic es b k = N := by omega
     rw [this, Nat.mod_self, Nat.mod_eq_of_lt h] at hce'; omega
   ·have e1 : ic es b k0 = N := by omega
    rcases Nat.lt_or_ge (ic es b k) N with h' | h'
    ·rw [e1, Nat.mod_self, Nat.mod_eq_of_lt h'] at hce'; omega
    ·omega
  have hle : k0 ≤ k := by
   rcases Nat.lt_or_ge k k0 with h | h
   ·have := xc (es := es) (b := b) (show k ≤ k0 - 1 by omega); omega
   ·exact h
  have := along (k - k0) fun j hj => vb (es := es) (b := b) (i := k0) (j := k0 + j) (k := k) e0 (by omega) (by omega)
  rw [show k0 + (k - k0) = k by omega] at this
  exact DX this
noncomputable def vV (es : List (Int × Int)) (i : Nat) : Nat := open Classical in if h : i < es.length ∧ ∃ d, jI es i d then 1 + bw es i h.2.choose else 0
theorem WN {es : List (Int × Int)} {i d : Nat} (hi : i < es.length) (h : jI es i d) : vV es i = 1 + bw es i d := by
 unfold vV
 have hx : i < es.length ∧ ∃ d, jI es i d := ⟨hi, d, h⟩
 rw [dif_pos hx, QF hx.2.choose_spec h]
theorem XN (es : List (Int × Int)) (i : Nat) : vV es i ≤ 1001 := by
 unfold vV
 split
 ·rename_i h
  have := bw_le es i h.2.choose
  have := h.2.choose_spec.le
  omega
 ·omega
theorem Wn (es : List (Int × Int)) (ms : List Int) (ch : Nat → List Nat) (h0 : (wo es ms).2 = 0) (hch : ∀ c, c < es.length - cnt es → wW es (zW es (es.length - cnt es) (qt es (qN es))).ce (qN es) c (ch c)) :
  (∀ i, i < es.length → ∃ d, jI es i d ∧ vV es i = 1 + bw es i d) ∧ vv es (kV es ch (List.replicate es.length 0) (es.length - cnt es)) (qq es (qN es) false) (qq es (qN es) true) (qU es (vV es)) (wrR es (qN es)) := by
 have hp : (wD es ms).2 = 0 ∧ ¬ (cnt es < 2 ∨ es.length - cnt es < 1) := by
  unfold wo at h0
  by_cases h1 : (wD es ms).2 ≠ 0
  ·rw [if_pos h1] at h0; exact absurd h0 h1
  ·rw [if_neg h1] at h0
   refine ⟨by omega, fun h2 => ?_⟩
   rw [if_pos h2] at h0; simp at h0
 obtain ⟨hb, hlast⟩ := bM (es := es) (by omega)
 have hl16 := (kQ hp.1).1
 have hN : 0 < es.length - cnt es := by omega
 obtain ⟨b, hbe⟩ := qaj (qN es)
 rw [← hbe] at hb hlast hch ⊢
 have hV : ∀ i d, i < es.length → jI es i d → vV es i = 1 + bw es i d := fun i d hi h => WN hi h
 have hstop : ∀ i, i < es.length → ∃ d, jI es i d := fun i hi => by
  obtain ⟨c, hc, hm⟩ := vB hb hlast hN hch hi
  obtain ⟨j, hj, e⟩ := List.getElem_of_mem hm
  exact ⟨j, (kN (hch c hc) j i (by rw [DW hj, e])).2.1⟩
 have hvals := XO hV hch (es.length - cnt es) (DZ _)
 have hvr : ∀ i, qU es (vV es) i < 1000000 := fun i => by
  unfold qU
  have h1 := XN es i
  have h2 := XN es (ahN es.length i)
  split
  ·omega
  ·split <;> omega
 refine ⟨fun i hi => ?_, ?_, ?_, ?_, ?_, ?_, hvr, ?_⟩
 ·obtain ⟨d, hd⟩ := hstop i hi
  exact ⟨d, hd, hV i d hi hd⟩
 ·intro i hi
  rw [← hbe]
  obtain ⟨k, hk, rfl⟩ := gy hb hi
  rw [← KY, GG hb (DZ _) k hk, (xJ hb hlast hk).1]
 ·intro i hi
  obtain ⟨k, hk, rfl⟩ := gy hb hi
  have := xJ hb hlast hk
  omega
 ·intro i hi
  rw [← hbe]
  obtain ⟨k, hk, rfl⟩ := gy hb hi
  rw [fe hb hk, vZ hb hlast hN hk]
 ·exact fun i hi => hvals.don i hi (vB hb hlast hN hch hi)
 ·intro x hx
  rw [← hbe, ← KY]
  obtain ⟨h1, h2⟩ := GH hb hlast hN (DZ es.length)
  have := h2 x hx
  rw [List.getD_eq_getElem?_getD, DW (by omega)] at this
  rw [DW (by omega)]
  simp only [Option.getD_some] at this
  rw [this, List.take_of_length_le (by rw [vM]; omega)]
  unfold wrR
  rw [(yb hb).countP_eq]
 ·intro x
  unfold wrR
  have := List.countP_le_length (p := fun i => qu es i && decide (qq es b true i = x)) (l := List.range es.length)
  rw [List.length_range] at this
  omega
end Go.Sx
namespace Go.Sx
open Go.Dx Go.Proofs
theorem fB (es : List (Int × Int)) (ms : List Int) (TH CE VA : Nat → Nat) (tt : Nat) : ∀ (l : List Nat) (s : GT), l.foldl (zN es ms TH CE VA tt) s = (l.filter fun i => decide (TH i = tt)).foldl (wH es ms TH CE VA) s
 | [], s => rfl
 | i :: l, s => by
  rw [List.foldl_cons, fB es ms TH CE VA tt l, List.filter_cons]
  unfold zN
  by_cases h : TH i = tt
  ·simp [h]
  ·simp [h]
theorem fC {f : Nat → Nat} {n : Nat} : ∀ {l : List Nat}, l.Pairwise (fun a b => f a ≤ f b) → (∀ i ∈ l, f i < n + 1) → l = (l.filter fun i => decide (f i < n)) ++ l.filter fun i => decide (f i = n)
 | [], _, _ => rfl
 | a :: l, hp, hb => by
  rw [List.pairwise_cons] at hp
  have ih := fC hp.2 fun i hi => hb i (qa7 _ hi)
  by_cases h : f a < n
  ·have h2 : ¬ f a = n := by omega
   rw [List.filter_cons, List.filter_cons]
   simp only [h, h2, decide_true, decide_false, if_true, if_false, Bool.false_eq_true, List.cons_append]
   rw [← ih]
  ·have ha := hb a qae
   have h2 : f a = n := by omega
   have h3 : l.filter (fun i => decide (f i < n)) = [] := by
    rw [List.filter_eq_nil_iff]
    intro i hi
    have := hp.1 i hi
    simp; omega
   rw [h3, List.nil_append] at ih
   rw [List.filter_cons, List.filter_cons]
   simp only [h, h2, decide_true, decide_false, if_true, if_false, Bool.false_eq_true]
   rw [h3, ← ih]; simp
theorem gT {f : Nat → Nat} : ∀ (n : Nat) {l : List Nat}, l.Pairwise (fun a b => f a ≤ f b) → (∀ i ∈ l, f i < n) → ((List.range n).flatMap fun t => l.filter fun i => decide (f i = t)) = l
 | 0, l, _, hb => by
  cases l with
  | nil => rfl
  | cons a l => have := hb a qae; omega
 | n + 1, l, hp, hb => by
  rw [List.range_succ, List.flatMap_append]
  have hs := fC hp hb
  have ih := gT n (l := l.filter fun i => decide (f i < n)) (hp.sublist List.filter_sublist) fun i hi => by simpa using (List.mem_filter.1 hi).2
  have hc : ((List.range n).flatMap fun t => l.filter fun i => decide (f i = t)) = (List.range n).flatMap fun t => (l.filter fun i => decide (f i < n)).filter fun i => decide (f i = t) := by
   simp only [List.flatMap]
   congr 1
   refine List.map_congr_left fun t ht => ?_
   have htn : t < n := by simpa using ht
   rw [List.filter_filter]
   refine List.filter_congr fun i _ => ?_
   by_cases e : f i = t
   ·simp [e, htn]
   ·simp [e]
  rw [hc, ih]
  simp only [List.flatMap_cons, List.flatMap_nil, List.append_nil]
  exact hs.symm
theorem foldl_flat {α β γ : Type} (g : β → α → β) (h : γ → List α) : ∀ (l : List γ) (s : β), l.foldl (fun s t => (h t).foldl g s) s = (l.flatMap h).foldl g s
 | [], s => rfl
 | t :: l, s => by rw [List.foldl_cons, foldl_flat g h l, List.flatMap_cons, List.foldl_append]
section
variable {es : List (Int × Int)} {b : Nat}
theorem Jl (hb : b < es.length) : (qt es b).Nodup := (yb hb).symm.nodup List.nodup_range
theorem jf (hb : b < es.length) {i : Nat} : i ∈ qt es b ↔ i < es.length := by rw [(yb hb).mem_iff]; simp
theorem KM (hb : b < es.length) (hlast : qx es (pos es b (es.length - 1)) = true) : (qt es b).Pairwise fun i j => qq es b false i ≤ qq es b false j := by
 have e : qt es b = (List.range es.length).map (pos es b) := rfl
 rw [e, List.pairwise_map]
 refine List.Pairwise.imp_of_mem (R := (· < ·)) (fun {k j} hk hj hkj => ?_) List.pairwise_lt_range
 rw [(xJ hb hlast (by simpa using hk)).1, (xJ hb hlast (by simpa using hj)).1]
 exact fo (Nat.le_of_lt hkj)
theorem JE (hb : b < es.length) (hlast : qx es (pos es b (es.length - 1)) = true) (ms : List Int) (VA : Nat → Nat) : vW es ms b VA = zE es ms (qq es b false) (qq es b true) VA (es.length - cnt es) b := by
 unfold vW zE
 have h1 : kU es ms b VA = fun s tt => ((qt es b).filter fun i => decide (qq es b false i = tt)).foldl (wH es ms (qq es b false) (qq es b true) VA) s := by
  funext s tt; unfold kU; rw [fB]
 rw [h1, foldl_flat, gT (cnt es) (KM hb hlast) fun i hi => ?_]
 obtain ⟨k, hk, rfl⟩ := gy hb ((jf hb).1 hi)
 have := xJ hb hlast hk
 omega
variable {ch : Nat → List Nat}
theorem Kl (hb : b < es.length) (hlast : qx es (pos es b (es.length - 1)) = true) (hN : 0 < es.length - cnt es) {i : Nat} (hi : i < es.length) (ho : qx es i = true) : qq es b true ((i + 1) % es.length) = qq es b true i := by
 obtain ⟨k, hk, rfl⟩ := gy hb hi
 have hn : 0 < es.length := by omega
 have hnext : (pos es b k + 1) % es.length = pos es b (k + 1) := by unfold pos; rw [Nat.mod_add_mod]; rfl
 rw [hnext, vZ hb hlast hN hk]
 have e : ic es b (k + 1) = ic es b k + if qx es (pos es b k) then 0 else 1 := rfl
 rw [ho] at e
 simp at e
 by_cases hk1 : k + 1 < es.length
 ·rw [vZ hb hlast hN hk1, e]
 ·have hkn : k + 1 = es.length := by omega
  have h0 : pos es b (k + 1) = pos es b 0 := by rw [hkn]; have := zH (es := es) (b := b) 0; rwa [Nat.zero_add] at this
  rw [h0, vZ hb hlast hN hn, ← e, hkn, gg hb, Nat.mod_self]
  rfl
theorem yy (hb : b < es.length) (hlast : qx es (pos es b (es.length - 1)) = true) (hN : 0 < es.length - cnt es) {c : Nat} {l : List Nat} (h : wW es (zW es (es.length - cnt es) (qt es b)).ce b c l) : ∀ (j i : Nat), l[j]? = some i → qq es b true i = c
 | 0, i, hi => by
  obtain ⟨k0, h1, h2, h3, h4, h5⟩ := h.ex
  rw [h5] at hi
  cases hi
  have h2' : (zW es (es.length - cnt es) (qt es b)).ce[pos es b k0]? = some c := h2
  rw [fe hb h1] at h2'
  show qq es b true (pos es b k0) = c
  rw [vZ hb hlast hN h1]
  exact Option.some.inj h2'
 | j + 1, i, hi => by
  obtain ⟨x, hx⟩ : ∃ x, l[j]? = some x := ⟨_, DW (by have := (DY.1 hi).1; omega)⟩
  obtain ⟨g1, g2⟩ := h.ch.next j x i hx hi
  rw [g1, Kl hb hlast hN (h.ch.lt x (DX hx)) g2]
  exact yy hb hlast hN h j x hx
theorem Km {ce : List Nat} {c : Nat} {l : List Nat} (h : wW es ce b c l) : l.Nodup := by
 unfold List.Nodup
 rw [List.pairwise_iff_getElem]
 intro i j hi hj hij he
 obtain ⟨x, hx⟩ : ∃ x, l[j]? = some x := ⟨_, DW hj⟩
 have hx' : l[i]? = some x := by rw [DW hi, he, ← DW hj, hx]
 obtain ⟨_, s1, _⟩ := kN h _ _ hx'
 obtain ⟨_, s2, _⟩ := kN h _ _ hx
 have := QF s1 s2; omega
theorem yz {p : Nat → Bool} : ∀ {l : List Nat} {i j x : Nat}, l[i]? = some x → i < j → p x = true → (l.take i).countP p + 1 ≤ (l.take j).countP p := by
 intro l i j x hx hij hp
 obtain ⟨h, e⟩ := DY.1 hx
 have h1 : (l.take (i + 1)).countP p = (l.take i).countP p + 1 := by
  rw [List.take_succ_eq_append_getElem h, List.countP_append, e]; simp [hp]
 have h2 : (l.take (i + 1)).countP p ≤ (l.take j).countP p := by
  have : l.take (i + 1) = (l.take j).take (i + 1) := by rw [List.take_take, Nat.min_eq_left (by omega)]
  rw [this]
  exact (List.take_sublist _ _).countP_le
 omega
theorem vC {p : Nat → Bool} : ∀ {l : List Nat} {v : Nat}, v < l.countP p → ∃ i x, l[i]? = some x ∧ p x = true ∧ (l.take i).countP p = v
 | [], v, h => by simp at h
 | a :: l, v, h => by
  cases hp : p a with
  | true =>
   cases v with
   | zero => exact ⟨0, a, rfl, hp, rfl⟩
   | succ v =>
    rw [List.countP_cons, hp] at h
    simp at h
    obtain ⟨i, x, h1, h2, h3⟩ := vC (l := l) (v := v) h
    exact ⟨i + 1, x, h1, h2, by rw [List.take_succ_cons, List.countP_cons, hp, h3]; rfl⟩
  | false =>
   rw [List.countP_cons, hp] at h
   simp at h
   obtain ⟨i, x, h1, h2, h3⟩ := vC (l := l) (v := v) h
   exact ⟨i + 1, x, h1, h2, by rw [List.take_succ_cons, List.countP_cons, hp, h3]; rfl⟩
end
theorem Xr {es : List (Int × Int)} {N : Nat} (hN : 0 < N) : ∀ (l : List Nat) (s : LS), s.wr.length = N → (∀ x, x < N → s.wr.getD x 0 ≤ 2) → gi es N l s = none → ∀ x, x < N → (l.foldl (wP es N) s).wr.getD x 0 ≤ 2
 | [], s, _, h, _ => h
 | i :: l, s, hl, h, he => by
  rw [gi] at he
  by_cases hc : qu es i = true ∧ 2 < s.wr.getD (s.c % N) 0 + 1
  ·rw [if_pos hc] at he; cases he
  ·rw [if_neg hc] at he
   rw [List.foldl_cons]
   have hcN : s.c % N < N := Nat.mod_lt _ hN
   refine Xr hN l _ ?_ (fun x hx => ?_) he
   ·unfold wP; simp only; split
    ·rw [List.length_set]; exact hl
    ·exact hl
   ·unfold wP; simp only
    by_cases hf : qu es i = true
    ·rw [if_pos hf]
     have h2 : ¬ 2 < s.wr.getD (s.c % N) 0 + 1 := fun h' => hc ⟨hf, h'⟩
     by_cases e : s.c % N = x
     ·rw [e, List.getD_eq_getElem?_getD, qaf (by omega)]
      rw [e] at h2
      simp only [Option.getD_some]; omega
     ·rw [List.getD_eq_getElem?_getD, List.getElem?_set_ne e, ← List.getD_eq_getElem?_getD]; exact h x hx
    ·rw [if_neg hf]; exact h x hx
end Go.Sx
namespace Go.Sx
open Go.Dx Go.Proofs
theorem Fu (es : List (Int × Int)) (ms : List Int) (ch : Nat → List Nat) (h0 : (wo es ms).2 = 0) (hch : ∀ c, c < es.length - cnt es → wW es (zW es (es.length - cnt es) (qt es (qN es))).ce (qN es) c (ch c)) :
  qN es < es.length ∧ qx es (pos es (qN es) (es.length - 1)) = true ∧ GL es (es.length - cnt es) (qt es (qN es)) (qq es (qN es) true) (qU es (vV es)) (wrR es (qN es)) := by
 have hp : (wD es ms).2 = 0 ∧ ¬ (cnt es < 2 ∨ es.length - cnt es < 1) ∧ gi es (es.length - cnt es) (qt es (qN es)) (zK es.length (es.length - cnt es)) = none := by
  unfold wo at h0
  by_cases h1 : (wD es ms).2 ≠ 0
  ·rw [if_pos h1] at h0; exact absurd h0 h1
  ·rw [if_neg h1] at h0
   by_cases h2 : cnt es < 2 ∨ es.length - cnt es < 1
   ·rw [if_pos h2] at h0; simp at h0
   ·rw [if_neg h2] at h0
    refine ⟨by omega, h2, ?_⟩
    cases hl : gi es (es.length - cnt es) (qt es (qN es)) (zK es.length (es.length - cnt es)) with
    | none => rfl
    | some i => rw [hl] at h0; simp at h0
 obtain ⟨hb, hlast⟩ := bM (es := es) (by omega)
 have hN : 0 < es.length - cnt es := by omega
 refine ⟨hb, hlast, ?_⟩
 have hLaw := (Wn es ms ch h0 hch).2
 obtain ⟨hlay⟩ : Nonempty (gi es (es.length - cnt es) (qt es (qN es)) (zK es.length (es.length - cnt es)) = none) := ⟨hp.2.2⟩
 obtain ⟨b, hbe⟩ := qaj (qN es)
 rw [← hbe] at hb hlast hch hLaw hlay ⊢
 obtain ⟨N, hNe⟩ := qaj (es.length - cnt es)
 have hmem : ∀ i, i < es.length → ∃ c j, c < N ∧ (ch c)[j]? = some i ∧ qq es b true i = c ∧ vV es i = 1 + ((ch c).take j).countP (qu es) := fun i hi => by
  obtain ⟨c, hc, hm⟩ := vB hb hlast hN hch hi
  obtain ⟨j, hj, e⟩ := List.getElem_of_mem hm
  have hj' : (ch c)[j]? = some i := by rw [DW hj, e]
  obtain ⟨_, s2, s3⟩ := kN (hch c hc) j i hj'
  exact ⟨c, j, by omega, hj', yy hb hlast hN (hch c hc) j i hj', by rw [WN hi s2, s3]⟩
 have hmem2 : ∀ c, c < N → ∀ i, i ∈ ch c ↔ i < es.length ∧ qq es b true i = c := fun c hc i => by
  constructor
  ·intro hm
   obtain ⟨j, hj, e⟩ := List.getElem_of_mem hm
   have hj' : (ch c)[j]? = some i := by rw [DW hj, e]
   exact ⟨(kN (hch c (by omega)) j i hj').1, yy hb hlast hN (hch c (by omega)) j i hj'⟩
  ·rintro ⟨hi, hcell⟩
   obtain ⟨c', j, h1, h2, h3, _⟩ := hmem i hi
   rw [hcell] at h3
   rw [h3]; exact DX h2
 have hcount : ∀ c, c < N → wrR es b c = (ch c).countP (qu es) := fun c hc => by
  unfold wrR
  have hperm : (ch c).Perm ((List.range es.length).filter fun i => decide (qq es b true i = c)) := by
   rw [List.perm_ext_iff_of_nodup (Km (hch c (by omega))) (List.filter_sublist.nodup List.nodup_range)]
   intro i
   rw [hmem2 c hc i, List.mem_filter]
   simp
  rw [hperm.countP_eq, List.countP_filter]
 have hval : ∀ i, qu es i = true → qU es (vV es) i = vV es i := fun i hf => by unfold qU; rw [if_pos hf]
 refine ⟨Jl hb, fun i hi => ?_, fun i hi hf => ?_, fun i hi j hj hfi hfj hc hv => ?_, fun i hi hf => ?_, fun c v hc hv1 hv2 => ?_, fun c hc => ?_⟩
 ·obtain ⟨c, j, h1, _, h3, _⟩ := hmem i ((jf hb).1 hi)
  omega
 ·obtain ⟨c, j, h1, h2, h3, h4⟩ := hmem i ((jf hb).1 hi)
  rw [hval i hf, h4, h3, hcount c h1]
  refine ⟨by omega, ?_⟩
  have hj := (DY.1 h2).1
  have := yz (p := qu es) h2 hj hf
  rw [List.take_length] at this; omega
 ·obtain ⟨c, k, h1, h2, h3, h4⟩ := hmem i ((jf hb).1 hi)
  obtain ⟨c', k', h1', h2', h3', h4'⟩ := hmem j ((jf hb).1 hj)
  have hcc : c = c' := by rw [← h3, ← h3', hc]
  subst hcc
  rw [hval i hfi, hval j hfj, h4, h4'] at hv
  rcases Nat.lt_trichotomy k k' with g | g | g
  ·have := yz (p := qu es) h2 g hfi; omega
  ·subst g; rw [h2] at h2'; exact Option.some.inj h2'
  ·have := yz (p := qu es) h2' g hfj; omega
 ·have hil := (jf hb).1 hi
  unfold qU
  rw [if_neg (by simp [hf])]
  by_cases hk : (eAt es (ahN es.length i)).1 = 1
  ·rw [if_pos hk]
   have hal : ahN es.length i < es.length := zO hil
   have hfa : qu es (ahN es.length i) = true := by unfold qu; rw [hk]; rfl
   have hoa : qx es (ahN es.length i) = true := by unfold qx jn; rw [hk]; rfl
   refine .inr ⟨ahN es.length i, (jf hb).2 hal, hfa, ?_, by rw [if_pos hfa]⟩
   have hnx : (ahN es.length i + 1) % es.length = i := by
    unfold ahN
    by_cases e : i = 0
    ·subst e; rw [if_pos rfl]; rw [show es.length - 1 + 1 = es.length by omega, Nat.mod_self]
    ·rw [if_neg e, show i - 1 + 1 = i by omega, Nat.mod_eq_of_lt hil]
   have := Kl hb hlast hN hal hoa
   rw [hnx] at this; exact this.symm
  ·rw [if_neg hk]; exact .inl rfl
 ·rw [← hNe] at hc
  rw [hcount c hc] at hv2
  obtain ⟨k, x, h1, h2, h3⟩ := vC (p := qu es) (l := ch c) (v := v - 1) (by omega)
  have hx := (hmem2 c hc x).1 (DX h1)
  refine ⟨x, (jf hb).2 hx.1, h2, hx.2, ?_⟩
  obtain ⟨_, s2, s3⟩ := kN (hch c (by omega)) k x h1
  rw [hval x h2, WN hx.1 s2, s3, h3]; omega
 ·have hw := hLaw.wr c hc
  rw [← hbe] at hw
  have h2 := Xr hN (qt es b) (zK es.length (es.length - cnt es)) (by simp [zK]) (fun x hx => by simp [zK, List.getD_eq_getElem?_getD, List.getElem?_replicate, hx]) hlay c hc
  have h3 : (zW es (es.length - cnt es) (qt es b)).wr.getD c 0 ≤ 2 := h2
  rw [List.getD_eq_getElem?_getD, hw] at h3
  exact h3
end Go.Sx
namespace Go.Sx
open Go.Dx Go.Proofs
theorem WeaveKept_all (ed md : Value) (es : List (Int × Int)) (ms : List Int) (m : M) (hm : m.base ≤ m.n) (he16 : es.length * 16 + 4096 ≤ most) (hm8 : ms.length * 8 + 4096 ≤ most) (hed : Rd m ed 2 edgeRow es) (hmd : Rd m md 1 modeRow ms) :
  CallV (Ex.step Try.prog (xA 9)) 8 [.agg #[ed, md]] m (.bool true) := by
 obtain ⟨ch, hch⟩ := XY es ms
 refine Kb ed md es ms m hm he16 hm8 hed hmd ch hch (vV es) (fun h i hi _ => (Wn es ms ch h (hch h)).1 i hi) (fun h => (Wn es ms ch h (hch h)).2) (fun h => ?_) (fun h => ?_)
 ·obtain ⟨hb, hlast, gl⟩ := Fu es ms ch h (hch h)
  refine ⟨fun i hi => ⟨gl.ce i ((jf hb).2 hi), ?_⟩, gl.wr2⟩
  have hm := (jf hb).2 hi
  cases hf : qu es i with
  | true => have := (gl.pos i hm hf).2; have := gl.wr2 _ (gl.ce i hm); omega
  | false =>
   rcases gl.rd i hm hf with h0 | ⟨j, hj, h1, h2, h3⟩
   ·omega
   ·have := (gl.pos j hj h1).2; have := gl.wr2 _ (gl.ce j hj); omega
 ·obtain ⟨hb, hlast, gl⟩ := Fu es ms ch h (hch h)
  have hw := JE hb hlast ms (qU es (vV es))
  have hg := Fz (ms := ms) (TH := qq es (qN es) false) gl (zE es ms (qq es (qN es) false) (qq es (qN es) true) (qU es (vV es)) (es.length - cnt es) (qN es)) rfl
  unfold xk yo
  rw [hw, hg.1]
  have hco : ((List.range (es.length - cnt es)).map fun c => (List.range (1 + wrR es (qN es) c)).map ((zE es ms (qq es (qN es) false) (qq es (qN es) true) (qU es (vV es)) (es.length - cnt es) (qN es)).fr c)) = (List.range (es.length - cnt es)).map (coX (zE es ms (qq es (qN es) false) (qq es (qN es) true) (qU es (vV es)) (es.length - cnt es) (qN es)).ev) :=
   List.map_congr_left fun c hc => hg.2 c (by simpa using hc)
  rw [hco]
end Go.Sx
